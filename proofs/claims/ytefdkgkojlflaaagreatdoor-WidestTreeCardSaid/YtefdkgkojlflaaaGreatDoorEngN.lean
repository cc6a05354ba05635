import Derived.Test.YtefdkgkojlflaaaGreatDoorEngJ2
import Derived.IntWalk
namespace Go.Eng
theorem nodup_uniq {α:Type}:∀{l:List (Nat×α)} {k:Nat} {a b:α},(l.map (·.1)).Nodup->(k,a)∈l->(k,b)∈l->a=b
 | [],_,_,_,_,h,_=>by simp at h
 | p::l,k,a,b,hn,ha,hb=>by
   simp only[List.map_cons,List.nodup_cons] at hn;rcases List.mem_cons.1 ha with e|ha
   . rcases List.mem_cons.1 hb with e'|hb
     . rw[<- e] at e';cases e';rfl
     . exact(hn.1 (by rw[<- e];exact List.mem_map.2 ⟨_,hb,rfl⟩)).elim
   . rcases List.mem_cons.1 hb with e'|hb
     . exact(hn.1 (by rw[<- e'];exact List.mem_map.2 ⟨_,ha,rfl⟩)).elim
     . exact nodup_uniq hn.2 ha hb
theorem look_append {α:Type}:∀{l m:List (Nat×α)} {k:Nat},(∀b,(k,b)∉l)->look (l++m) k=look m k
 | [],_,_,_=>rfl
 | (q,b)::l,m,k,h=>by
   have hne:q≠k:=fun e=>h b (by simp[e]);have hb:Nat.beq q k=false:=by
    rw[<- Bool.not_eq_true];exact fun hh=>hne (Nat.eq_of_beq_eq_true hh)
   show(match Nat.beq q k with|true=>some b|false=>look (l++m) k)=_;rw[hb];exact look_append fun b hb=>h b (by simp[hb])
theorem splitK_sound {env:Env}:∀(pend:List Nat) (own acc:Own) (K:Own->Own->Prop),splitK env pend own acc K->(own.map (·.1)).Nodup->(acc.map (·.1)).Nodup->(∀k,k∈own.map (·.1)->k∉acc.map (·.1)) ->
 ∃A C,K A C/\(A.map (·.1)).Nodup/\(C.map (·.1)).Nodup/\(∀k,k∈A.map (·.1)->k∉C.map (·.1))/\(∀k b,((k,b)∈own\/(k,b)∈acc)↔((k,b)∈A\/(k,b)∈C))/\(∀k b,(k,b)∈A->(k,b)∈own) /\
  ∀t,t∈pend->∀v k,look env t=some v->keyOfV v=some k->∀b,(k,b)∉A
 | [],own,acc,K,h,n1,n2,n3=>⟨own,acc,h,n1,n2,n3,fun _ _=>Iff.rfl,fun _ _ h=>h,by simp⟩
 | t::r,own,acc,K,h,n1,n2,n3=>by
   unfold splitK at h;split at h
   . rename_i v hv;split at h
     . rename_i k hk;split at h
       . rename_i b hb;obtain⟨own',h,m1,m2⟩:=delK_sound _ _ _ h n1;have hmem:=look_mem hb;have hnot:k∉acc.map (·.1):=n3 k (List.mem_map.2 ⟨_,hmem,rfl⟩);have hkey:∀q,q∈own'.map (·.1)->q∈own.map (·.1)/\q≠k:=by
          intro q hq;obtain⟨⟨q',c⟩,hm,e⟩:=List.mem_map.1 hq;simp only at e;subst e;obtain⟨z1,z2⟩:=(m2 q' c).1 hm;exact⟨List.mem_map.2 ⟨_,z2,rfl⟩,z1⟩
         obtain⟨A,C,hK,a1,a2,a3,a4,a5,a6⟩:=splitK_sound r own' ((k,b)::acc) K h m1 (by simp only[List.map_cons,List.nodup_cons];exact⟨hnot,n2⟩) (fun q hq=>by
          obtain⟨z1,z2⟩:=hkey q hq;simp only[List.map_cons,List.mem_cons,not_or];exact⟨z2,n3 q z1⟩)
         have uniq:∀c,(k,c)∈own->c=b:=fun c hc=>nodup_uniq n1 hc hmem;refine⟨A,C,hK,a1,a2,a3,?_,?_,?_⟩
         . intro q c;rw[<- a4];simp only[List.mem_cons,Prod.mk.injEq,m2];constructor
           . rintro (x|x)
             . by_cases e:q=k
               . subst e;exact .inr (.inl ⟨rfl,uniq c x⟩)
               . exact .inl ⟨e,x⟩
             . exact .inr (.inr x)
           . rintro (⟨_,x⟩ | ⟨e1,e2⟩|x)
             . exact .inl x
             . subst e1 e2;exact .inl hmem
             . exact .inr x
         . intro q c hq;exact((m2 q c).1 (a5 q c hq)).2
         . intro t' ht' v' k' hv' hk' c hc;rcases List.mem_cons.1 ht' with e|ht'
           . subst e;rw[hv] at hv';cases hv';rw[hk] at hk';cases hk';exact((m2 k c).1 (a5 k c hc)).1 rfl
           . exact a6 t' ht' v' k' hv' hk' c hc
       . exact h.elim
     . rename_i hk;obtain⟨A,C,hK,a1,a2,a3,a4,a5,a6⟩:=splitK_sound r own acc K h n1 n2 n3;refine⟨A,C,hK,a1,a2,a3,a4,a5,?_⟩;intro t' ht' v' k' hv' hk' c hc;rcases List.mem_cons.1 ht' with e|ht'
       . subst e;rw[hv] at hv';cases hv';rw[hk] at hk';cases hk'
       . exact a6 t' ht' v' k' hv' hk' c hc
   . exact h.elim
theorem appK_sound {α:Type}:∀(l m:List α) (K:List α->Prop),appK l m K->K (l++m)
 | [],_,_,h=>h
 | x::l,m,K,h=>appK_sound l m (fun l'=>K (x::l')) h
theorem heldK_sound {env:Env} {own:Own} {G:Prop}:∀(l:List (Option Nat×Nat×Nat)),heldK env own G l->G/\∀z n t,(z,n,t)∈l->∀p v,look env n=some p->look env t=some v->(∃u,v=.raw u)\/vloadR own z p (fun v'=>v'=v)
 | [],h=>⟨h,by simp⟩
 | (z,n,t)::r,h=>by
   unfold heldK at h;split at h
   . rename_i u hu;obtain⟨g,hr⟩:=heldK_sound r h;refine⟨g,fun z' n' t' hm p v hp hv=>?_⟩;rcases List.mem_cons.1 hm with e|hm
     . cases e;rw[hu] at hv;cases hv;exact .inl ⟨_,rfl⟩
     . exact hr z' n' t' hm p v hp hv
   . rename_i v0 _ hv0;split at h
     . rename_i p0 hp0;obtain⟨h1,h⟩:=h;obtain⟨g,hr⟩:=heldK_sound r h;refine⟨g,fun z' n' t' hm p v hp hv=>?_⟩;rcases List.mem_cons.1 hm with e|hm
       . cases e;rw[hv0] at hv;rw[hp0] at hp;cases hv;cases hp;exact .inr h1
       . exact hr z' n' t' hm p v hp hv
     . exact h.elim
   . exact h.elim
theorem hsim_union {M M':Nat->Prop} {w w':World} {σ σ':Sg} {B A A' C:Own} {ks ks':List Nat} (hB:HSim M w σ B ks) (hA:∀k b,(k,b)∈A->(k,b)∈B) (hC:∀k b,(k,b)∈C->(k,b)∈B)
 (hAC:∀k,k∈A.map (·.1)->k∉C.map (·.1)) (hCn:(C.map (·.1)).Nodup) (h':HSim M' w' σ' A' ks') (tr:Tr M w σ A M' w' σ' A') (kd:Kd σ A ks σ' A' ks') :
 HSim M' w' σ' (A'++C) ks'/\Tr M w σ B M' w' σ' (A'++C):=by
 have ownA:∀n,owned w σ A n->owned w σ B n:=fun n ⟨k,b,hm,e⟩=>⟨k,b,hA k b hm,e⟩;have ownC:∀n,owned w σ C n->owned w σ B n/\¬ owned w σ A n:=by
  rintro n ⟨k,b,hm,e⟩;refine⟨⟨k,b,hC k b hm,e⟩,?_⟩;rintro⟨q,c,hq,e'⟩;have hne:q≠k:=fun ee=>by
   subst ee;exact hAC q (List.mem_map.2 ⟨_,hq,rfl⟩) (List.mem_map.2 ⟨_,hm,rfl⟩)
  exact hB.own.apart q c k b n (hA q c hq) (hC k b hm) hne e' e
 have keyC:∀k b,(k,b)∈C->∃x,σ k=some x:=fun k b hm=>hB.own.key (hC k b hm);have eC:∀k b n,(k,b)∈C->(holds w' σ' k b n↔holds w σ k b n):=fun k b n hm=>holds_same tr.le (keyC k b hm) fun ob hob=>by
  obtain⟨z1,z2⟩:=ownC ob ⟨k,b,hm,.inl hob⟩;exact tr.adv.same ob (owned_M hB.own z1).2 z2
 have hE:Ext M w M' w':=tr.adv.ext fun n hn=>(owned_M hB.own (ownA n hn)).1;have notA':∀k,k∈A'.map (·.1)->k∉C.map (·.1):=by
  intro k hk hc;obtain⟨⟨q,c⟩,hm,e⟩:=List.mem_map.1 hc;simp only at e;subst e;rcases kd.2.2 q hk with x|x
  . exact hAC q x hc
  . obtain⟨y,hy⟩:=keyC q c hm;rw[hB.fresh q x] at hy;cases hy
 refine⟨⟨⟨?_,?_,?_⟩,h'.fresh,h'.knodup⟩,⟨⟨tr.adv.os,tr.adv.tape,tr.adv.output,tr.adv.size,?_,?_⟩,?_,tr.le⟩⟩
 . intro k b hm;rcases List.mem_append.1 hm with hm|hm
   . exact h'.own.blk k b hm
   . refine(hB.own.blk k b (hC k b hm)).mono hE tr.le fun n hn=>?_;obtain⟨z1,z2⟩:=ownC n ⟨k,b,hm,hn⟩;obtain⟨m1,m2⟩:=owned_M hB.own z1;exact⟨(tr.adv.muts n m2 z2).2 m1,tr.adv.same n m2 z2⟩
 . rw[List.map_append,List.nodup_append];refine⟨h'.own.nodup,hCn,fun k hk q hq e=>?_⟩;subst e;exact notA' k hk hq
 . intro k b k' b' n h1 h2 hne e1 e2;have cross:∀q c q' c',(q,c)∈A'->(q',c')∈C->holds w' σ' q c n->holds w' σ' q' c' n->False:=by
    intro q c q' c' hq hq' x x';rw[eC q' c' n hq'] at x';obtain⟨z1,z2⟩:=ownC n ⟨q',c',hq',x'⟩;have hlt:=(owned_M hB.own z1).2;rcases tr.new n ⟨q,c,hq,x⟩ with y|y
    . exact z2 y
    . omega
   rcases List.mem_append.1 h1 with h1|h1
   . rcases List.mem_append.1 h2 with h2|h2
     . exact h'.own.apart k b k' b' n h1 h2 hne e1 e2
     . exact cross k b k' b' h1 h2 e1 e2
   . rcases List.mem_append.1 h2 with h2|h2
     . exact cross k' b' k b h2 h1 e2 e1
     . rw[eC k b n h1] at e1;rw[eC k' b' n h2] at e2;exact hB.own.apart k b k' b' n (hC k b h1) (hC k' b' h2) hne e1 e2
 . intro n hn hno;exact tr.adv.same n hn fun x=>hno (ownA n x)
 . intro n hn hno;exact tr.adv.muts n hn fun x=>hno (ownA n x)
 . rintro n ⟨k,b,hm,e⟩;rcases List.mem_append.1 hm with hm|hm
   . rcases tr.new n ⟨k,b,hm,e⟩ with x|x
     . exact .inl (ownA n x)
     . exact .inr x
   . rw[eC k b n hm] at e;exact .inl ⟨k,b,hC k b hm,e⟩
section
variable {P:Program} {N Bd:Nat} {ops:Array Oper} {anc:Nat->List Nat} {σ0:Sg} {ks0 Z:List Nat} {pre post:List DI} {late:List LT} {env:Env} {own:Own} {ks:List Nat} {B:Own} {M:Nat->Prop} {w:World} {σ:Sg} {a:Act} {listed:Array Bool}
theorem Inv.eff_done {e:DI} (hec:e.isEff=true) (hc:Cond anc pre e post) (hix:e.ix∉post.map DI.ix) {o:Oper} (ho:ops[e.ix]?=some o) (hdst:o.dst=e.si.dst)
 (h:Inv P N Bd ops anc σ0 ks0 Z pre (e::post) late env own ks B M w σ a listed) (hr:∀j,j∈edgesOf o->listed.getD j false=true) (hN:∀t,e.si.dst=some t->t<N)
 (hfree:∀l,l∈late->l.d.ix∉anc e.ix)
 {M':Nat->Prop} {w':World} {σ':Sg} {B' own':Own} {ks':List Nat} {u:Value} {v:V} (hv:Den M' w' σ' v u) (hh:HSim M' w' σ' B' ks') (tr:Tr M w σ B M' w' σ' B')
 (hks:∀q,q∈ks'->q∈ks) (hσ:∀q,σ q=none->q∉ks->σ' q=none)
 (hoc:∀k b,(k,b)∈own'↔((k,b)∈B'\/∃l,l∈late/\l.k.newk=some (k,b))) (hond:(own'.map (·.1)).Nodup) (hoz:∀k,k∈own'.map (·.1)->k∈own.map (·.1)\/k∈ks)
 (hlf:∀l,l∈late->∀t n z p v,l.k=.load t n z p v->look env n=some p->szAgg P t=some z->LFact P t p v own->LFact P t p v own') :
 Inv P N Bd ops anc σ0 ks0 Z (pre++[e]) post late (putE env e.si.dst v) own' ks' B' M' w' σ' (a.put o.dst u) (listed.setIfInBounds e.ix true):=by
 have hE:=tr.ext h.heap.own;have hlt:e.ix<ops.size:=(Array.getElem?_eq_some_iff.1 ho).1;have hls:e.ix<listed.size:=by rw[h.lsize];exact hlt
 have hlook:∀t,e.si.dst≠some t->look (putE env e.si.dst v) t=look env t:=by
  intro t ht;unfold putE;split
  . rename_i t' e';exact look_cons_ne (fun e''=>ht (by rw[e',e'']))
  . rfl
 have hnl:∀l,l∈late->∀t,e.si.dst=some t->l.d.si.dst≠some t/\t∉l.d.si.uses:=by
  intro l hl t ht;refine⟨hc.dst t ht l.d (h.sub l hl).1,fun hu=>?_⟩;exact hfree l hl (hc.reads t ht l.d (h.sub l hl).1 hu).2
 refine⟨?_,?_,?_,?_,h.nd,?_,?_,?_,hh,hoc,hond,?_,h.unb2,?_,?_,?_,h.kd2,?_,?_,h.kd5,?_,?_⟩
 . cases o.dst<;>simp[Act.put,h.size]
 . have hd:=h.defers.tr tr;cases o.dst<;>exact hd
 . simp[h.lsize]
 . intro l hl;exact⟨List.mem_append_left _ (h.sub l hl).1,(h.sub l hl).2⟩
 . intro i hi;rw[getD_set hls];by_cases ee:e.ix=i
   . subst ee;rw[if_pos rfl];constructor
     . intro hh;cases hh
     . intro hh;exfalso;rcases hh with hh|hh
       . obtain⟨x,hx,e'⟩:=List.mem_map.1 hh;exact h.disj x hx (by rw[e'];simp)
       . exact hix hh
   . rw[if_neg ee,h.part i hi];simp only[List.map_cons,List.mem_cons];constructor
     . rintro (x|x|x)
       . exact .inl x
       . exact(ee x.symm).elim
       . exact .inr x
     . rintro (x|x)
       . exact .inl x
       . exact .inr (.inr x)
 . intro i o' ho' hi j hj;rw[getD_set hls] at hi ⊢;by_cases ej:e.ix=j
   . rw[if_pos ej]
   . rw[if_neg ej];by_cases ee:e.ix=i
     . subst ee;rw[ho] at ho';cases ho';exact hr j hj
     . rw[if_neg ee] at hi;exact h.closed i o' ho' hi j hj
 . intro t x hx hn;by_cases ed:e.si.dst=some t
   . have:look (putE env e.si.dst v) t=some v:=by rw[ed];exact look_cons_eq
     rw[this] at hx;cases hx;rw[hdst,ed];have ht:t<a.tmps.size:=by rw[h.size];exact hN t ed
     simpa[Act.put,Array.getD,ht] using hv
   . rw[hlook t ed] at hx;have hold:=h.envd t x hx hn;have he:(a.put o.dst u).tmps.getD t undef=a.tmps.getD t undef:=by
      rw[hdst];cases hd:e.si.dst with
      | none=>rfl
      | some t' =>
        have hne:t'≠t:=fun e'=>ed (by rw[hd,e']);simp only[Act.put,Array.getD_eq_getD_getElem?,Array.getElem?_setIfInBounds,if_neg hne]
     rw[he];exact hold.mono hE tr.le
 . intro l hl k b hk;obtain⟨q1,q2⟩:=h.unborn l hl k b hk;exact⟨hσ k q1 q2,fun x=>q2 (hks k x)⟩
 . intro l hl;refine(h.facts l hl).ext ?_ ?_ (hlf l hl)
   . intro n hn;exact hlook n fun ee=>(hnl l hl n ee).2 hn
   . intro t ht;exact hlook t fun ee=>(hnl l hl t ee).1 ht
 . intro l hl x;exact h.disj l hl (by simp only[List.map_cons,List.mem_cons];exact .inr x)
 . intro k hk;exact h.kd1 k (hks k hk)
 . intro q h1 h2;exact hσ q (h.kd3 q h1 h2) fun x=>h2 (h.kd1 q x)
 . intro k hk;rcases hoz k hk with x|x
   . exact h.kd4 k x
   . exact h.kd5 k (h.kd1 k x)
 . intro d d' hd hd' he t ht hu;rcases List.mem_append.1 hd with g1|g1
   . rcases List.mem_append.1 hd' with g2|g2
     . exact h.u1 d d' g1 g2 he t ht hu
     . simp only[List.mem_singleton] at g2;rw[g2] at hu ⊢;exact hc.uses d g1 he t ht hu
   . simp only[List.mem_singleton] at g1;rw[g1,hec] at he;cases he
 . intro d d' hd hd' hne t ht ht';rcases List.mem_append.1 hd with g1|g1
   . rcases List.mem_append.1 hd' with g2|g2
     . exact h.dd d d' g1 g2 hne t ht ht'
     . simp only[List.mem_singleton] at g2;rw[g2] at ht';exact hc.dst t ht' d g1 ht
   . simp only[List.mem_singleton] at g1;rcases List.mem_append.1 hd' with g2|g2
     . rw[g1] at ht;exact hc.dst t ht d' g2 ht'
     . simp only[List.mem_singleton] at g2;exact hne (by rw[g1,g2])
theorem Inv.eff_step (r:Option Nat) (st:Static ops anc) {ix:Nat} {pend:List Nat} {held:List (Option Nat×Nat×Nat)} {si:SI} {o:Oper} (ho:ops[ix]?=some o) (hsi:cSI P N ops o=some si)
 (hc:Cond anc pre (.eff ix pend held si) post) (hix:ix∉post.map DI.ix) (h:Inv P N Bd ops anc σ0 ks0 Z pre (.eff ix pend held si::post) late env own ks B M w σ a listed)
 (hr:∀j,j∈edgesOf o->listed.getD j false=true) {K0:Env->Own->List Nat->Prop} (hv:vdraw P (.eff ix pend held si::post) env own ks K0)
 {Q:Exit->Act->World->Prop} {K:Act->World->Prop}
 (hK:∀env' own' ks' B' M' w' σ' a',Inv P N Bd ops anc σ0 ks0 Z (pre++[.eff ix pend held si]) post late env' own' ks' B' M' w' σ' a' (listed.setIfInBounds ix true)->vdraw P post env' own' ks' K0->Tr M w σ B M' w' σ' B'->K a' w') :
 wpOpIn (FR r) 0 P ops Q ix K a w:=by
 obtain⟨d,op,g⟩:=si;obtain⟨sop,hsop,hN,hgd⟩:=cSI_some hsi;have hdst:o.dst=d:=by rcases hgd with ⟨_,e⟩ | ⟨_,_,_,_,_,e⟩<;>(cases e;rfl)
 have hop:sop=op:=by rcases hgd with ⟨_,e⟩ | ⟨_,_,_,_,_,e⟩<;>(cases e;rfl)
 subst hop;obtain⟨c1,_,c3⟩:=hc.eff ix pend held _ rfl;have hunl:∀l,l∈late->listed.getD l.d.ix false=false:=by
  intro l hl;obtain⟨o',ho',_⟩:=h.facts l hl;have hlt:=(Array.getElem?_eq_some_iff.1 ho').1;have h3:=(h.part _ hlt).2 (.inl (List.mem_map.2 ⟨l,hl,rfl⟩));have hs:=h.lsize;rw[Array.getD_eq_getD_getElem?,Array.getElem?_eq_getElem (by omega)] at h3 ⊢;simpa using h3
 have hfree:∀l,l∈late->l.d.ix∉anc ix:=by
  intro l hl hm;have:=anc_listed st h.lsize h.closed ix o ho hr _ hm;rw[hunl l hl] at this;cases this
 have hden:∀t,t∈SI.uses ⟨d,sop,g⟩->∀v,look env t=some v->Den M w σ v (a.tmps.getD t undef):=by
  intro t ht v hv;refine h.envd t v hv fun l hl e=>?_;exact hfree l hl (hc.uses l.d (h.sub l hl).1 (h.sub l hl).2 t e ht)
 have ok:∀x,x∈sop.xs->XOk M w σ env a x:=fun x hx n e v hv=>hden n (by simp only[SI.uses,List.mem_append];exact .inl (tmpsOf_mem (e▸hx))) v hv;have hN':∀t,d=some t->t<N:=fun t ht=>hN t (by rw[hdst];exact ht);rcases guardK_sound hv with ⟨gk,hv⟩ | ⟨gk,hv⟩
 . obtain⟨A,C,hv,a1,a2,a3,a4,a5,a6⟩:=splitK_sound _ _ _ _ hv h.ownnd (by simp) (by simp);have a4':∀k b,(k,b)∈own↔((k,b)∈A\/(k,b)∈C):=fun k b=>by rw[<- a4];simp
   have hAB:∀k b,(k,b)∈A->(k,b)∈B:=by
    intro k b hm;rcases (h.ownc k b).1 (a5 k b hm) with x | ⟨l,hl,hk⟩
    . exact x
    . exfalso;have hp:=c3 l.d (h.sub l hl).1 (h.sub l hl).2 (hfree l hl);obtain⟨o',ho',_,hval,hkk⟩:=h.facts l hl;cases hlk:l.k with
      | new k' b' v =>
        rw[hlk] at hk hkk hval;cases hk;obtain⟨_,_,hkey,hnew⟩:=hkk;have:∃t,l.d.si.dst=some t/\t∈pend:=by
         unfold pendB at hp;split at hp
         . rename_i z x e;rw[e] at hnew;cases hnew
         . split at hp
           . split at hp
             . rename_i t e;exact⟨t,e,memN_iff.1 hp⟩
             . cases hp
           . rename_i hno;rw[hnew] at hno;cases hno
        obtain⟨t,ht,hpm⟩:=this;exact a6 t hpm v k (hval t ht) hkey b hm
      | pure v=>rw[hlk] at hk;cases hk
      | load _ _ _ _ _=>rw[hlk] at hk;cases hk
      | skip=>rw[hlk] at hk;cases hk
   let CB:Own:=B.filter fun p=>decide (p.1∉A.map (·.1));have hCB:∀k b,(k,b)∈CB↔((k,b)∈B/\k∉A.map (·.1)):=fun k b=>by simp[CB]
   have hdrop:=hsim_drop (own':=A) h.heap hAB a1;refine wpOp_run ho (wanted_guard hsi gk hden) (Oper.wpIn_mono ?_ (eff_sound hsop c1 hv ok hdrop.1 Q r));rintro a' w' ⟨u,M',σ',v,A',ks',rfl,hvd,hh',tr,kd,hheld⟩;obtain⟨hgo,hre⟩:=heldK_sound _ hheld;have hgo:=appK_sound _ _ _ hgo;have hun:=hsim_union (C:=CB) h.heap hAB (fun k b hm=>((hCB k b).1 hm).1) (fun k hk hc'=>by
    obtain⟨⟨q,c⟩,hm,e⟩:=List.mem_map.1 hc';simp only at e;subst e;exact((hCB q c).1 hm).2 hk) (h.heap.own.nodup.sublist (List.Sublist.map _ List.filter_sublist)) hh' tr kd
   have keyA':∀k,k∈A'.map (·.1)->k∉C.map (·.1):=by
    intro k hk hcm;rcases kd.2.2 k hk with x|x
    . exact a3 k x hcm
    . obtain⟨⟨q,c⟩,hm,e⟩:=List.mem_map.1 hcm;simp only at e;subst e;rcases (h.ownc q c).1 ((a4' q c).2 (.inr hm)) with y | ⟨l,hl,y⟩
      . obtain⟨z,hz⟩:=h.heap.own.key y;rw[h.heap.fresh q x] at hz;cases hz
      . exact(h.unborn l hl q c y).2 x
   have hinv:=h.eff_done (e:=.eff ix pend held ⟨d,sop,g⟩) rfl hc hix ho hdst hr hN' hfree (own':=C++A') hvd hun.1 hun.2 kd.1 kd.2.1
    (fun k b=>by
      rw[List.mem_append,List.mem_append,hCB];constructor
      . rintro (x|x)
        . rcases (h.ownc k b).1 ((a4' k b).2 (.inr x)) with y|y
          . exact .inl (.inr ⟨y,fun z=>a3 k z (List.mem_map.2 ⟨_,x,rfl⟩)⟩)
          . exact .inr y
        . exact .inl (.inl x)
      . rintro ((x | ⟨x,y⟩)|x)
        . exact .inr x
        . rcases (a4' k b).1 ((h.ownc k b).2 (.inl x)) with z|z
          . exact(y (List.mem_map.2 ⟨_,z,rfl⟩)).elim
          . exact .inl z
        . rcases (a4' k b).1 ((h.ownc k b).2 (.inr x)) with z|z
          . exfalso;obtain⟨l,hl,hk⟩:=x;obtain⟨y,hy⟩:=h.heap.own.key (hAB k b z);rw[(h.unborn l hl k b hk).1] at hy;cases hy
          . exact .inl z)
    (by
      rw[List.map_append,List.nodup_append];exact⟨a2,hh'.own.nodup,fun k hk q hq e=>by subst e;exact keyA' k hq hk⟩)
    (fun k hk=>by
      rw[List.map_append,List.mem_append] at hk;rcases hk with x|x
      . obtain⟨⟨q,c⟩,hm,e⟩:=List.mem_map.1 x;exact .inl (List.mem_map.2 ⟨_,(a4' q c).2 (.inr hm),e⟩)
      . rcases kd.2.2 k x with y|y
        . obtain⟨⟨q,c⟩,hm,e⟩:=List.mem_map.1 y;exact .inl (List.mem_map.2 ⟨_,(a4' q c).2 (.inl hm),e⟩)
        . exact .inr y)
    (fun l hl t n z p v' hlk hp hz lf=>by
      have hpb:=c3 l.d (h.sub l hl).1 (h.sub l hl).2 (hfree l hl);obtain⟨o',ho',_,hval,hkk⟩:=h.facts l hl;rw[hlk] at hval hkk;obtain⟨_,e1,_,_,_,_,hnr⟩:=hkk;unfold pendB at hpb;rw[e1] at hpb;simp only at hpb;split at hpb
      . rename_i n' t' en et;cases en;have hin:=memH_iff hpb;rcases hre z n t' hin p v' hp (hval t' et) with ⟨uu,hraw⟩|hload
        . exact(hnr uu hraw).elim
        . have lf':=lfact_of hz hload;intro M1 w1 σ1 u1 hd1 hb1;refine lf' M1 w1 σ1 u1 hd1 fun q c hq hlq=>hb1 q c hq ?_;rw[look_append (fun b hb=>keyA' q (List.mem_map.2 ⟨_,look_mem hlq,rfl⟩) (List.mem_map.2 ⟨_,hb,rfl⟩))];exact hlq
      . cases hpb)
   exact hK _ _ _ _ M' w' σ' _ hinv (vdraw_next hgo) hun.2
 . refine wpOp_skip ho (wanted_guard hsi gk hden) ?_;have hinv:=h.eff_done (e:=.eff ix pend held ⟨d,sop,g⟩) rfl hc hix ho hdst hr hN' hfree (v:=.raw (.tuple #[])) (u:=undef) (.raw _ _) h.heap (Tr.refl _ _ _ _) (fun _ x=>x) (fun _ x _=>x) h.ownc h.ownnd (fun _ x=>.inl x)
    (fun _ _ _ _ _ _ _ _ _ _ lf=>lf)
   exact hK _ _ _ _ M w σ _ hinv (vdraw_next hv) (Tr.refl _ _ _ _)
end
theorem cSIs_get {P:Program} {N:Nat} {ops:Array Oper}:∀{l:List Oper} {sl:List SI},cSIs P N ops l=some sl->∀(i:Nat) (s:SI),sl[i]?=some s->∃o,l[i]?=some o/\cSI P N ops o=some s
 | [],sl,h,i,s,hs=>by simp[cSIs] at h;subst h;simp at hs
 | o::l,sl,h,i,s,hs=>by
   unfold cSIs at h;split at h<;>simp only[Option.some.injEq,reduceCtorEq] at h;rename_i s0 sl' h1 h2;subst h;cases i with
   | zero=>simp at hs;subst hs;exact⟨o,by simp,h1⟩
   | succ i =>
     obtain⟨o',h3,h4⟩:=cSIs_get h2 i s (by simpa using hs);exact⟨o',by simpa using h3,h4⟩
theorem mkItems_mem {A:List (List Nat)} {sis:List SI}:∀{c done:List Nat} {d:DI},d∈mkItems A sis c done->sis[d.ix]?=some d.si
 | [],_,d,h=>by simp[mkItems] at h
 | i::r,done,d,h=>by
   unfold mkItems at h;split at h
   . rename_i si hsi;split at h
     . rcases List.mem_cons.1 h with e|h
       . subst e;exact hsi
       . exact mkItems_mem h
     . simp only[List.mem_cons] at h;rcases h with e|h
       . subst e;exact hsi
       . exact mkItems_mem h
   . simp at h
theorem condsB_cons {A:List (List Nat)} {pre:List DI} {d:DI} {post:List DI} (h:condsB A pre (d::post)=true):condB A pre d post=true/\condsB A (pre++[d]) post=true:=by
 simpa[condsB] using h
section
variable {P:Program} {N Bd:Nat} {ops:Array Oper} {A:List (List Nat)} {σ0:Sg} {ks0 Z:List Nat} {B:Own} {M:Nat->Prop} {w:World} {σ:Sg} {a:Act} {listed:Array Bool} {K:Env->Own->List Nat->Prop}
theorem Inv.norm:∀(rest pre:List DI) (late:List LT) (env:Env) (own:Own) (ks:List Nat),Inv P N Bd ops (fun i=>A.getD i []) σ0 ks0 Z pre rest late env own ks B M w σ a listed->condsB A pre rest=true ->
 (∀d,d∈rest->∃o,ops[d.ix]?=some o/\cSI P N ops o=some d.si)->(rest.map DI.ix).Nodup->vdraw P rest env own ks K ->
 ∃pre' rest' late' env' own' ks',Inv P N Bd ops (fun i=>A.getD i []) σ0 ks0 Z pre' rest' late' env' own' ks' B M w σ a listed/\condsB A pre' rest'=true/\(∀d,d∈rest'->d∈rest)/\(rest'.map DI.ix).Nodup /\
  vdraw P rest' env' own' ks' K/\late'.length+rest'.length=late.length+rest.length/\(rest'=[]\/∃ix pend held si post,rest'=.eff ix pend held si::post)
 | [],pre,late,env,own,ks,h,hc,_,hn,hv=>⟨pre,[],late,env,own,ks,h,hc,fun _ h=>h,hn,hv,rfl,.inl rfl⟩
 | .eff ix pend held si::post,pre,late,env,own,ks,h,hc,_,hn,hv=>⟨pre,_,late,env,own,ks,h,hc,fun _ h=>h,hn,hv,rfl,.inr ⟨ix,pend,held,si,post,rfl⟩⟩
 | .op ix si::post,pre,late,env,own,ks,h,hc,hs,hn,hv=>by
   obtain⟨c1,c2⟩:=condsB_cons hc;obtain⟨o,ho,hsi⟩:=hs (.op ix si) (by simp);simp only[List.map_cons,List.nodup_cons] at hn;have hcond:=cond_of c1;obtain⟨lk,env',own',ks',h',hv'⟩:=h.absorb ho hsi hcond hn.1 hv;obtain⟨pre'',rest'',late'',env'',own'',ks'',r1,r2,r3,r4,r5,r6,r7⟩:=Inv.norm post _ _ env' own' ks' h' c2 (fun d hd=>hs d (by simp[hd])) hn.2 hv';exact⟨pre'',rest'',late'',env'',own'',ks'',r1,r2,fun d hd=>List.mem_cons_of_mem _ (r3 d hd),r4,r5,by simp only[List.length_cons] at r6 ⊢;omega,r7⟩
theorem draw_any (r:Option Nat) (st:Static ops (fun i=>A.getD i [])) {Q:Exit->Act->World->Prop}:∀(fuel:Nat) (rest pre:List DI) (late:List LT) (env:Env) (own:Own) (ks:List Nat) (B:Own) (M:Nat->Prop) (w:World) (σ:Sg) (a:Act) (listed:Array Bool),
 Inv P N Bd ops (fun i=>A.getD i []) σ0 ks0 Z pre rest late env own ks B M w σ a listed->condsB A pre rest=true ->
 (∀d,d∈rest->∃o,ops[d.ix]?=some o/\cSI P N ops o=some d.si)->(rest.map DI.ix).Nodup->vdraw P rest env own ks K->late.length+rest.length<=fuel ->
 (∀env' own' ks' B' M' w' σ' a' pre' listed',Inv P N Bd ops (fun i=>A.getD i []) σ0 ks0 Z pre' [] [] env' own' ks' B' M' w' σ' a' listed'->Tr M w σ B M' w' σ' B'->K env' own' ks'->Q .normal a' w') ->
 wpAnyIn (FR r) 0 P .any ops Q fuel listed a w:=by
 intro fuel
 induction fuel with
 | zero =>
   intro rest pre late env own ks B M w σ a listed h hc hs hn hv hf hq;have e1:late=[]:=List.eq_nil_of_length_eq_zero (by omega);have e2:rest=[]:=List.eq_nil_of_length_eq_zero (by omega);subst e1 e2;refine⟨?_,hq env own ks B M w σ a pre listed h (Tr.refl _ _ _ _) hv⟩;rw[List.eq_nil_iff_forall_not_mem];intro i hi;obtain⟨h1,h2,_⟩:=ready_iff.1 hi;rcases (h.part i h1).1 h2 with x|x<;>simp at x
 | succ fuel ih =>
   intro rest pre late env own ks B M w σ a listed h hc hs hn hv hf hq;obtain⟨pre,rest,late,env,own,ks,h,hc,hsub,hn,hv,hlen,hnorm⟩:=Inv.norm rest pre late env own ks h hc hs hn hv;have hs':∀d,d∈rest->∃o,ops[d.ix]?=some o/\cSI P N ops o=some d.si:=fun d hd=>hs d (hsub d hd);refine⟨?_,?_⟩
   . intro hre;have hall:∀i,i<ops.size->listed.getD i true=true:=by
      intro i
      induction i using Nat.strongRecOn with
      | _ i ih2 =>
        intro hi;cases hl:listed.getD i true with
        | true=>rfl
        | false =>
          exfalso;have:i∈Region.ready .any ops listed:=by
           refine ready_iff.2 ⟨hi,hl,ops[i],by simp[hi],fun j hj=>?_⟩;have hji:=st.edge i ops[i] (by simp[hi]) j hj;have:=ih2 j hji (by omega);have hs:=h.lsize;rw[Array.getD_eq_getD_getElem?,Array.getElem?_eq_getElem (by omega)] at this ⊢;simpa using this
          rw[hre] at this;simp at this
     have e1:late=[]:=by
      rw[List.eq_nil_iff_forall_not_mem];intro l hl;obtain⟨o',ho',_⟩:=h.facts l hl;have hlt:=(Array.getElem?_eq_some_iff.1 ho').1;have:=(h.part _ hlt).2 (.inl (List.mem_map.2 ⟨l,hl,rfl⟩));rw[hall _ hlt] at this;cases this
     have e2:rest=[]:=by
      rw[List.eq_nil_iff_forall_not_mem];intro d hd;obtain⟨o',ho',_⟩:=hs' d hd;have hlt:=(Array.getElem?_eq_some_iff.1 ho').1;have:=(h.part _ hlt).2 (.inr (List.mem_map.2 ⟨d,hd,rfl⟩));rw[hall _ hlt] at this;cases this
     subst e1 e2;exact hq env own ks B M w σ a pre listed h (Tr.refl _ _ _ _) hv
   . intro i hi;obtain⟨h1,h2,o,ho,hr⟩:=ready_iff.1 hi;rcases (h.part i h1).1 h2 with x|x
     . obtain⟨l,hl,e⟩:=List.mem_map.1 x;subst e;refine h.late_step r st hl ho hr fun B' M' w' σ' a' h' tr=>?_;refine ih rest pre _ env own ks B' M' w' σ' a' _ h' hc hs' hn hv ?_ fun env' own' ks' B'' M'' w'' σ'' a'' pre' listed' r1 r2 r3=>hq env' own' ks' B'' M'' w'' σ'' a'' pre' listed' r1 (tr.trans r2) r3;have:(late.filter (fun y=>!Nat.beq y.d.ix l.d.ix)).length<late.length:=by
        refine List.length_filter_lt_length_iff_exists.2 ⟨l,hl,by simp⟩
       omega
     . rcases hnorm with e | ⟨ix,pend,held,si,post,e⟩
       . subst e;simp at x
       . subst e;obtain⟨c1,c2⟩:=condsB_cons hc;have hcond:=cond_of c1;simp only[List.map_cons,List.nodup_cons] at hn;have hix:i=ix:=by
          simp only[List.map_cons,List.mem_cons,DI.ix] at x;rcases x with x|x
          . exact x
          . exfalso;obtain⟨d',hd',e'⟩:=List.mem_map.1 x;have hanc:=(hcond.eff ix pend held si rfl).2.1 d' hd';rw[e'] at hanc;have hl:=anc_listed st h.lsize h.closed i o ho hr ix hanc;obtain⟨o2,ho2,_⟩:=hs' (.eff ix pend held si) (by simp);have hlt:ix<ops.size:=(Array.getElem?_eq_some_iff.1 ho2).1;have hun:=(h.part ix hlt).2 (.inr (by simp[DI.ix]));have hs:=h.lsize;rw[Array.getD_eq_getD_getElem?,Array.getElem?_eq_getElem (by omega)] at hl hun;simp at hl hun;rw[hl] at hun;cases hun
         subst hix;obtain⟨o2,ho2,hsi⟩:=hs' (.eff i pend held si) (by simp);simp only[DI.ix] at ho2;rw[ho] at ho2;cases ho2;refine h.eff_step r st ho hsi hcond hn.1 hr hv fun env' own' ks' B' M' w' σ' a' h' hv' tr=>?_;refine ih post _ late env' own' ks' B' M' w' σ' a' _ h' c2 (fun d hd=>hs' d (by simp[hd])) hn.2 hv' ?_ fun env'' own'' ks'' B'' M'' w'' σ'' a'' pre' listed' r1 r2 r3=>hq env'' own'' ks'' B'' M'' w'' σ'' a'' pre' listed' r1 (tr.trans r2) r3;simp only[List.length_cons] at hlen;omega
end
theorem vdraw_sound {P:Program} (hm:P.follows .mixedOrders=true) (r:Option Nat) {N B id:Nat} {ops:Array Oper} {pl:List DI} (hp:planOf P N ops=some pl) {env:Env} {own:Own} {ks:List Nat} {K:Env->Own->List Nat->Prop}
 (h:vdraw P pl env own ks K) {M:Nat->Prop} {w:World} {σ:Sg} {a:Act} (sim:Sim N B M w σ ⟨env,own,ks⟩ a) {Q:Exit->Act->World->Prop}
 (hq:∀env' own' ks' M' w' σ' a',Sim N B M' w' σ' ⟨env',own',ks'⟩ a'->Tr M w σ own M' w' σ' own'->Kd σ own ks σ' own' ks'->K env' own' ks'->Q .normal a' w'):(Code.region id ops true).wpIn (FR r) 0 P Q a w:=by
 unfold planOf at hp;split at hp
 . rename_i sis hsis;simp only at hp;split at hp
   . rename_i hchk;cases hp;simp only[Bool.and_eq_true] at hchk;obtain⟨⟨hcond,hanc⟩,hitems⟩:=hchk;have hst:Static ops (fun i=>(ancs ops.toList []).getD i []):=by
      constructor
      . intro i o ho j hj;have hi:i<ops.size:=(Array.getElem?_eq_some_iff.1 ho).1;have:=List.all_eq_true.1 hanc i (List.mem_range.2 hi);rw[ho] at this;simp only[Bool.and_eq_true] at this;exact Nat.le_of_ble_eq_true (List.all_eq_true.1 this.1 j hj)
      . intro i o ho e he;have hi:i<ops.size:=(Array.getElem?_eq_some_iff.1 ho).1;have:=List.all_eq_true.1 hanc i (List.mem_range.2 hi);rw[ho] at this;simp only[Bool.and_eq_true] at this;have h2:=List.all_eq_true.1 this.2 e he;simp only[Bool.or_eq_true] at h2;rcases h2 with x|x
        . exact .inl (memN_iff.1 x)
        . obtain⟨j,hj,hm⟩:=List.any_eq_true.1 x;exact .inr ⟨j,hj,memN_iff.1 hm⟩
     simp only[itemsB,Bool.and_eq_true] at hitems;obtain⟨⟨⟨hlen,hcov⟩,_⟩,hnd0⟩:=hitems;have hlen:=Nat.eq_of_beq_eq_true hlen;generalize hpl:mkItems (ancs ops.toList []) sis (canon (ancs ops.toList []) (fun i=>match sis[i]? with|some s=>s.op.isEff|none=>true) (ops.size+1) (List.range ops.size) []) []=pl at *;have hall:∀i,i<ops.size->i∈pl.map DI.ix:=fun i hi=>memN_iff.1 (List.all_eq_true.1 hcov i (List.mem_range.2 hi));have hnd:(pl.map DI.ix).Nodup:=nodupB_iff hnd0;have hs:∀d,d∈pl->∃o,ops[d.ix]?=some o/\cSI P N ops o=some d.si:=by
      intro d hd;rw[<- hpl] at hd;obtain⟨o,h1,h2⟩:=cSIs_get hsis d.ix d.si (mkItems_mem hd);exact⟨o,by simpa using h1,h2⟩
     have sim1:=hsim_drew sim.heap;have hE:=sim1.2.ext sim.heap.own;refine wpIn_region_any hm ?_;have hinv:Inv P N B ops (fun i=>(ancs ops.toList []).getD i []) σ ks (own.map (·.1)++ks) [] pl [] env own ks own M w.drew σ a (Array.replicate ops.size false):=by
      refine⟨sim.size,sim.defers.tr sim1.2,by simp,by simp,by simp,?_,?_,?_,sim1.1,?_,sim.heap.own.nodup,by simp,by simp,by simp,by simp,fun _ h=>h,by simp,fun _ h _=>h,?_,?_,by simp,by simp⟩
      . intro i hi;constructor
        . intro _;exact .inr (hall i hi)
        . intro _;simp[Array.getD,hi]
      . intro i o ho hi;have hlt:i<ops.size:=(Array.getElem?_eq_some_iff.1 ho).1;simp[Array.getD,hlt] at hi
      . intro t v hv _;exact(sim.env t v hv).mono hE (Sg.le_refl _)
      . intro k b;simp
      . intro k hk;exact List.mem_append_left _ hk
      . intro k hk;exact List.mem_append_right _ hk
     refine draw_any r hst ops.size pl [] [] env own ks own M w.drew σ a _ hinv hcond hs hnd h (by simp[hlen]) ?_;intro env' own' ks' B' M' w' σ' a' pre' listed' r1 r2 r3;have hfin:=hsim_drop (own':=own') r1.heap (fun k b hm=>by
      rcases (r1.ownc k b).1 hm with x | ⟨l,hl,_⟩
      . exact x
      . simp at hl) r1.ownnd
     refine hq env' own' ks' M' w' σ' a' ⟨fun t v hv=>r1.envd t v hv (by simp),hfin.1,r1.size,r1.defers.tr hfin.2⟩ ((sim1.2.trans r2).trans hfin.2) ⟨r1.kd1,r1.kd3,fun k hk=>List.mem_append.1 (r1.kd4 k hk)⟩ r3
   . cases hp
 . cases hp
end Go.Eng
namespace Go.Eng
inductive SC where
 | skip
 | ops (l:List SI)
 | draw (l:List DI)
 | seq (a b:SC)
 | cond (c:X) (a b:SC)
 | block (id:Nat) (b:SC)
 | loop (b:SC)
 | exit (id:Nat)
 | ret
 | rf (g:X) (ps:List Nat) (a b:SC)
def ltAll (N:Nat):List Nat->Bool
 | []=>true
 | p::r=>match Nat.ble (p+1) N with|true=>ltAll N r|false=>false
def badC:SC:=.cond (.k .nilptr) .skip .skip
def cCode (P:Program) (N:Nat):Code->Option SC
 | .skip=>some .skip
 | .region _ ops false=>match cSIs P N ops ops.toList with|some l=>some (.ops l)|none=>some badC
 | .region _ ops true=>match planOf P N ops with|some l=>some (.draw l)|none=>some badC
 | .seq a b=>match cCode P N a,cCode P N b with|some a,some b=>some (.seq a b)|_,_=>none
 | .cond c a b=>match cX c,cCode P N a,cCode P N b with|some c,some a,some b=>some (.cond c a b)|_,_,_=>none
 | .block id b=>(cCode P N b).map (.block id)
 | .loop b=>(cCode P N b).map .loop
 | .exit id=>some (.exit id)
 | .ret=>some .ret
 | .rangeFunc g ps a b=>match cX g,cCode P N a,cCode P N b with
   | some g,some sa,some sb=>match ltAll N ps.toList with
     | true=>some (.rf g ps.toList sa sb)
     | false=>none
   | _,_,_=>none
 | _=>none
structure BK where
 ks:List Nat
 r:Option Nat
def RIn (kr r:Option Nat) (σb:Sg):Prop:=(kr=none/\r=none)\/∃k l κ,kr=some k/\r=some l/\σb k=some (some l,0,κ)
structure LoopI (P:Program) (N:Nat) (bk:BK) (b:SC) (env:Env) (own:Own) (ks:List Nat) (K:Out->Prop):Prop where
 out:∀r σb,RIn bk.r r σb->∀c,cCode P N c=some b->∀B M w σ a,(∀k,k∈bk.ks->σb k=none)->σb.le σ->Sim N B M w σ ⟨env,own,ks⟩ a->(Code.loop c).wpIn (FR r) 0 P (XP N B σb M w σ own ks K) a w
structure RangeI (P:Program) (N:Nat) (kr:Option Nat) (g:X) (ps:List Nat) (sa sb:SC) (env:Env) (own:Own) (ks:List Nat) (K:Out->Prop):Prop where
 out:∀r σb,RIn kr r σb->∀g0 a b,cX g0=some g->cCode P N a=some sa->cCode P N b=some sb->∀B M w σ act,σb.le σ->Sim N B M w σ ⟨env,own,ks⟩ act ->
  (Code.rangeFunc g0 ps.toArray a b).wpIn (FR r) 0 P (XP N B σb M w σ own ks K) act w
inductive Both (A B:Prop):Prop where
 | mk (ha:A) (hb:B):Both A B
def vc (P:Program) (N:Nat) (bk:BK):SC->Env->Own->List Nat->(Out->Prop)->Prop
 | .skip,env,own,ks,K=>K (.normal ⟨env,own,ks⟩)
 | .ops l,env,own,ks,K=>vops P l env own ks fun env own ks=>K (.normal ⟨env,own,ks⟩)
 | .draw l,env,own,ks,K=>vdraw P l env own ks fun env own ks=>K (.normal ⟨env,own,ks⟩)
 | .seq a b,env,own,ks,K=>vc P N bk a env own ks fun o=>match o with
   | .normal ⟨env,own,ks⟩=>vc P N bk b env own ks K
   | o=>K o
 | .cond c a b,env,own,ks,K=>c.get env fun v=>match v with
   | .bool x=>match x with
     | true=>vc P N bk a env own ks K
     | false=>vc P N bk b env own ks K
   | .anyb=>Both (vc P N bk a env own ks K) (vc P N bk b env own ks K)
   | _=>False
 | .block id b,env,own,ks,K=>vc P N bk b env own ks fun o=>match o with
   | .exit id' st=>match Nat.beq id' id with|true=>K (.normal st)|false=>K (.exit id' st)
   | o=>K o
 | .loop b,env,own,ks,K=>LoopI P N bk b env own ks K
 | .exit id,env,own,ks,K=>K (.exit id ⟨env,own,ks⟩)
 | .ret,env,own,ks,K=>K (.ret ⟨env,own,ks⟩)
 | .rf g ps a b,env,own,ks,K=>RangeI P N bk.r g ps a b env own ks K
theorem XP.tr {N B:Nat} {σb:Sg} {M M₁:Nat->Prop} {w w₁:World} {σ σ₁:Sg} {own own₁:Own} {ks ks₁:List Nat} {K:Out->Prop} (t:Tr0 M w σ own M₁ w₁ σ₁ own₁) (q:Kd σ own ks σ₁ own₁ ks₁) {e:Exit} {a:Act} {w':World} (h:XP N B σb M₁ w₁ σ₁ own₁ ks₁ K e a w'):XP N B σb M w σ own ks K e a w':=by
 obtain⟨M',σ',st',h1,h2,h2',hb,h3⟩:=h;exact⟨M',σ',st',h1,t.trans h2,q.trans h2',hb,h3⟩
theorem vc_sound {P:Program} (hm:P.follows .mixedOrders=true) {N B:Nat} {bk:BK} {σb:Sg} (hbk:∀k,k∈bk.ks->σb k=none) (r:Option Nat) (hr:RIn bk.r r σb):∀(c:Code) (sc:SC) (K:Out->Prop) (env:Env) (own:Own) (ks:List Nat) (M:Nat->Prop) (w:World) (σ:Sg) (a:Act),
 cCode P N c=some sc->vc P N bk sc env own ks K->Sim N B M w σ ⟨env,own,ks⟩ a->σb.le σ->c.wpIn (FR r) 0 P (XP N B σb M w σ own ks K) a w:=by
 intro c
 induction c with
 | skip =>
   intro sc K env own ks M w σ a hc h sim hle;simp[cCode] at hc;subst hc;exact wpIn_skip ⟨M,σ,_,sim,Tr0.refl _ _ _ _,Kd.refl _ _ _,hle,h⟩
 | region id ops draw =>
   intro sc K env own ks M w σ a hc h sim hle;cases draw with
   | false =>
     simp only[cCode] at hc;split at hc
     case h_2=>cases hc;exact(show False from h).elim
     rename_i l hl;cases hc;exact wpIn_region_list (vops_sound r ops.toList l env own ks _ M w σ a hl h sim fun env' own' ks' M' w' σ' a' s t q k=>⟨M',σ',_,s,t.t0,q,Sg.le_trans hle t.le,k⟩)
   | true =>
     simp only[cCode] at hc;split at hc
     case h_2=>cases hc;exact(show False from h).elim
     rename_i l hl;cases hc;exact vdraw_sound hm r hl h sim fun env' own' ks' M' w' σ' a' s t q k=>⟨M',σ',_,s,t.t0,q,Sg.le_trans hle t.le,k⟩
 | seq x y ihx ihy =>
   intro sc K env own ks M w σ a hc h sim hle;simp only[cCode] at hc;split at hc<;>simp only[Option.some.injEq,reduceCtorEq] at hc;rename_i sx sy h1 h2;subst hc;refine wpIn_seq (wpIn_mono (ihx sx _ env own ks M w σ a h1 h sim hle) ?_);intro e a' w' hx;obtain⟨M',σ',st',s1,t1,q1,l1,k1⟩:=hx;cases e<;>first
    | (obtain⟨env',own',ks'⟩:=st'
       exact wpIn_mono (ihy sy K env' own' ks' M' w' σ' a' h2 k1 s1 l1) fun e a w h=>XP.tr t1 q1 h)
    | exact⟨M',σ',st',s1,t1,q1,l1,k1⟩
 | cond c x y ihx ihy =>
   intro sc K env own ks M w σ a hc h sim hle;simp only[cCode] at hc;split at hc<;>simp only[Option.some.injEq,reduceCtorEq] at hc;rename_i c' sx sy h1 h2 h3;subst hc;obtain⟨v,h,hv⟩:=get_sound h1 h;have hd:=hv M w σ a (fun n _ v hv=>sim.env n v hv);split at h
   . rename_i b;have hb:a.eval c=.bool b:=by
      generalize a.eval c=q at hd;cases hd;rfl
     refine wpIn_cond hb ?_;cases b
     . exact ihy sy K env own ks M w σ a h3 h sim hle
     . exact ihx sx K env own ks M w σ a h2 h sim hle
   . obtain⟨b,hb⟩:∃b,a.eval c=.bool b:=by
      generalize a.eval c=q at hd;cases hd;exact⟨_,rfl⟩
     refine wpIn_cond hb ?_;cases b
     . exact ihy sy K env own ks M w σ a h3 h.2 sim hle
     . exact ihx sx K env own ks M w σ a h2 h.1 sim hle
   . exact h.elim
 | block id b ih =>
   intro sc K env own ks M w σ a hc h sim hle;simp only[cCode,Option.map_eq_some_iff] at hc;obtain⟨sb,hb,rfl⟩:=hc;refine wpIn_block (wpIn_mono (ih sb _ env own ks M w σ a hb h sim hle) ?_);intro e a' w' hx;obtain⟨M',σ',st',s1,t1,q1,l1,k1⟩:=hx;cases e with
   | exit id' =>
     simp only at k1;simp only[Exit.inBlock];split
     . rename_i he;subst he;simp only[Nat.beq_refl] at k1;exact⟨M',σ',st',s1,t1,q1,l1,k1⟩
     . rename_i he;have:Nat.beq id' id=false:=by
        rw[<- Bool.not_eq_true];intro hh;exact he (Nat.eq_of_beq_eq_true hh)
       simp only[this] at k1;exact⟨M',σ',st',s1,t1,q1,l1,k1⟩
   | _=>exact⟨M',σ',st',s1,t1,q1,l1,k1⟩
 | loop b ih =>
   intro sc K env own ks M w σ a hc h sim hle;simp only[cCode,Option.map_eq_some_iff] at hc;obtain⟨sb,hb,rfl⟩:=hc;exact h.out r σb hr b hb B M w σ a hbk hle sim
 | exit id =>
   intro sc K env own ks M w σ a hc h sim hle;simp[cCode] at hc;subst hc;exact wpIn_exit ⟨M,σ,_,sim,Tr0.refl _ _ _ _,Kd.refl _ _ _,hle,h⟩
 | ret =>
   intro sc K env own ks M w σ a hc h sim hle;simp[cCode] at hc;subst hc;exact wpIn_ret ⟨M,σ,_,sim,Tr0.refl _ _ _ _,Kd.refl _ _ _,hle,h⟩
 | rangeFunc g ps x y _ _ =>
   intro sc K env own ks M w σ a hc h sim hle;simp only[cCode] at hc;split at hc<;>first|(cases hc;done)|skip
   rename_i g' sa sb h1 h2 h3;split at hc<;>first|(cases hc;done)|skip
   cases hc;have:=h.out r σb hr g x y h1 h2 h3 B M w σ a hle sim;simpa using this
 | _=>intro sc K env own ks M w σ a hc;simp[cCode] at hc
structure Weak (N:Nat) (chg:List Nat) (st' st'':St):Prop where
 out:∀B M w σ a,Sim N B M w σ st' a->∃M' σ',Sim N B M' w σ' st'' a/\Tr0 M w σ st'.own M' w σ' st''.own/\∀k,k∉st''.ks->k∉chg->σ' k=σ k
structure Head (okeys:List Nat) (ks:List Nat) (st:St):Prop where
 ks:st.ks=ks
 own:∀k,k∈st.own.map (·.1)->k∈okeys
theorem loop_rule {P:Program} (hm:P.follows .mixedOrders=true) {N:Nat} {bk:BK} {b:SC} {env:Env} {own:Own} {ks:List Nat} {K:Out->Prop} (chg okeys ks0:List Nat)
 (hchg:∀k,k∈chg->k∈bk.ks/\(k∈own.map (·.1)\/k∈ks)) (hks0:∀k,k∈ks0->k∈ks) (hok:∀k,k∈okeys->k∈own.map (·.1)\/k∈ks)
 (I:Nat->St->Prop) (n:Nat) (st0:St) (hw0:Weak N chg ⟨env,own,ks⟩ st0) (h0:I n st0)
 (hh:∀n st,I n st->Head okeys ks0 st)
 (step:∀n env own ks,I n ⟨env,own,ks⟩->vc P N bk b env own ks fun o=>match o with
   | .normal st=>∃m st',m<n/\Weak N chg st st'/\I m st'
   | o=>K o):LoopI P N bk b env own ks K:=by
 constructor;intro r σb hr c hc B M w σ a hbk hle0 sim b k cs hro hbf hroom;have hcn:∀q,q∈chg->σ q=none->q∈ks:=by
  intro q hq h1;rcases (hchg q hq).2 with h|h
  . obtain⟨⟨q',b'⟩,hm',e⟩:=List.mem_map.1 h;simp only at e;subst e;obtain⟨x,hx⟩:=sim.heap.own.key hm';rw[h1] at hx;cases hx
  . exact h
 have key:∀(n:Nat) (st:St) (M₁:Nat->Prop) (w₁:World) (σ₁:Sg) (a₁:Act),I n st->Sim N B M₁ w₁ σ₁ st a₁->Kd σ own ks σ₁ st.own ks0->σb.le σ₁ ->
  ∃e a' w',(∃M' σ' st',Sim N B M' w' σ' st' a'/\Tr0 M₁ w₁ σ₁ st.own M' w' σ' st'.own/\Kd σ own ks σ' st'.own st'.ks/\σb.le σ'/\(match e with
   | .normal=>K (.normal st')
   | .exit id=>K (.exit id st')
   | .ret=>K (.ret st')
   | _=>False))/\ArrivesIn (Machine.fenced P (FR r)) P (lone (b.atR a₁ (.code c::.inLoop c::k)) cs w₁) b k cs e a' w':=by
  intro n
  induction n using Nat.strongRecOn with
  | _ n ih =>
    intro st M₁ w₁ σ₁ a₁ hI hs hkd hle;obtain⟨env₁,own₁,ks₁⟩:=st;have hd:=hh n _ hI;have hks:ks₁=ks0:=hd.ks;subst hks;have hb:=vc_sound hm hbk r hr c _ _ env₁ own₁ ks₁ M₁ w₁ σ₁ a₁ hc (step n env₁ own₁ ks₁ hI) hs hle;obtain⟨e,a₂,w₂,hq,harr⟩:=hb b (.inLoop c::k) cs hro hbf hroom;obtain⟨M₂,σ₂,st₂,s2,t2,q2,l2,k2⟩:=hq;cases e with
    | normal =>
      obtain⟨m,st₃,hlt,hweak,hI3⟩:=k2;obtain⟨M₃,σ₃,s3,t3,z3⟩:=hweak.out B M₂ w₂ σ₂ a₂ s2;have hd3:=hh m _ hI3;have hkd3:Kd σ own ks σ₃ st₃.own ks₁:=by
       refine⟨hks0,fun q h1 h2=>?_,fun q hq=>hok q (hd3.own q hq)⟩;rw[z3 q (by rw[hd3.ks];exact fun h=>h2 (hks0 q h)) (fun hc=>h2 (hcn q hc h1))];exact(hkd.trans q2).2.1 q h1 h2
      have hle3:σb.le σ₃:=by
       intro q x hq;rw[z3 q ?_ ?_]
       . exact l2 q x hq
       . rw[hd3.ks];intro hin;have:=hle0 q x hq;rw[sim.heap.fresh q (hks0 q hin)] at this;cases this
       . intro hin;rw[hbk q (hchg q hin).1] at hq;cases hq
      obtain⟨e',a',w',⟨M',σ',st',r1,r2,r3,r3',r4⟩,harr'⟩:=ih m hlt st₃ M₃ w₂ σ₃ a₂ hI3 s3 hkd3 hle3;exact⟨e',a',w',⟨M',σ',st',r1,(t2.trans t3).trans r2,r3,r3',r4⟩,.of_steps (StepsIn.trans harr (.one (fenced_calm hbf hroom rfl) stepR_inLoop)) harr'⟩
    | exit id=>exact⟨_,a₂,w₂,⟨M₂,σ₂,st₂,s2,t2,hkd.trans q2,l2,k2⟩,.pass (x:=.inLoop c) rfl (fun _ _=>.inl (by simp)) harr⟩
    | goto l=>exact k2.elim
    | ret=>exact⟨_,a₂,w₂,⟨M₂,σ₂,st₂,s2,t2,hkd.trans q2,l2,k2⟩,.pass (x:=.inLoop c) rfl (fun _ _=>.inl (by simp)) harr⟩
    | panic ch=>exact k2.elim
    | outgrown=>exact k2.elim
 obtain⟨M₀,σ₀,s0,t0,z0⟩:=hw0.out B M w σ a sim;have hd0:=hh n _ h0;have hkd0:Kd σ own ks σ₀ st0.own ks0:=by
  refine⟨hks0,fun q h1 h2=>?_,fun q hq=>hok q (hd0.own q hq)⟩;rw[z0 q (by rw[hd0.ks];exact fun h=>h2 (hks0 q h)) (fun hc=>h2 (hcn q hc h1))];exact h1
 have hle00:σb.le σ₀:=by
  intro q x hq;rw[z0 q ?_ ?_]
  . exact hle0 q x hq
  . rw[hd0.ks];intro hin;have:=hle0 q x hq;rw[sim.heap.fresh q (hks0 q hin)] at this;cases this
  . intro hin;rw[hbk q (hchg q hin).1] at hq;cases hq
 obtain⟨e,a',w',⟨M',σ',st',r1,r2,r3,r3',r4⟩,harr⟩:=key n st0 M₀ w σ₀ a h0 s0 hkd0 hle00;exact⟨e,a',w',⟨M',σ',st',r1,t0.trans r2,r3,r3',r4⟩,.of_steps (.one (fenced_calm hbf hroom rfl) stepR_loop) harr⟩
def envOf:Nat->List V->Env
 | _,[]=>[]
 | i,v::r=>(i,v)::envOf (i+1) r
theorem look_envOf:∀(vs:List V) (i t:Nat) (v:V),look (envOf i vs) t=some v->i<=t/\vs[t-i]?=some v
 | [],i,t,v,h=>by simp[envOf,look] at h
 | x::r,i,t,v,h=>by
   unfold envOf look at h;split at h
   . rename_i hb;have:=Nat.eq_of_beq_eq_true hb;subst this;simp at h;subst h;simp
   . rename_i hb;have hne:i≠t:=fun e=>by subst e;simp at hb
     obtain⟨h1,h2⟩:=look_envOf r (i+1) t v h;refine⟨by omega,?_⟩;rw[show t-i=(t-(i+1))+1 by omega];simpa using h2
inductive RV where
 | tmp (t:Nat)
 | cell (a:Nat) (sz:Option Nat)
def cRes (P:Program):List ResultVar->Option (List RV)
 | []=>some []
 | .tmp t::r=>(cRes P r).map (.tmp t::·)
 | .cell a T::r=>match szAgg P T,cRes P r with
   | some z,some l=>some (.cell a z::l)
   | _,_=>none
def resK (env:Env) (own:Own):List RV->(List V->Prop)->Prop
 | [],K=>K []
 | .tmp t::r,K=>match look env t with
   | some v=>resK env own r fun vs=>K (v::vs)
   | none=>False
 | .cell a z::r,K=>match look env a with
   | some p=>vloadR own z p fun v=>resK env own r fun vs=>K (v::vs)
   | none=>False
def tupK (vs:List V) (K:V->Prop):Prop :=
 match vs with
 | [v]=>K v
 | vs=>K (.tup vs)
theorem loadAt_asAddr {P:Program} {T:TypeId} {q r:Value} {w:World} (h:(Instr.loadAt T q).run P w=.ok r w):(do loadVar T (<- asAddr q):Sem Value).run P w=.ok r w:=by
 cases q with
 | pointer a =>
   cases a with
   | none=>cases h
   | some a=>exact h
 | _=>cases h
def resFn (tmps:Array Value):ResultVar->Sem Value
 | .tmp t=>pure (tmps.getD t undef)
 | .cell a t=>do loadVar t (<- asAddr (tmps.getD a undef))
theorem results_eq (fn:Func) (tmps:Array Value):results fn tmps=(do let vs <- fn.results.mapM (resFn tmps);pure (if h:vs.size=1 then vs[0] else .tuple vs)):=by
 have:(fun r:ResultVar=>match r with | .tmp t=>(pure (tmps.getD t undef):Sem Value) | .cell a t=>do loadVar t (<- asAddr (tmps.getD a undef)))=resFn tmps:=by
  funext r;cases r<;>rfl
 unfold results;rw[<- this];rfl
theorem resK_sound {P:Program} {env:Env} {own:Own}:∀(rs:List ResultVar) (l:List RV) (K:List V->Prop),cRes P rs=some l->resK env own l K ->
 ∃vs,K vs/\∀M w σ (a:Act),EnvSim M w σ env a->OwnSim M w σ own ->
  ∃us:List Value,vs.length=us.length/\us.length=rs.length/\(∀(i:Nat) (v:V) (u:Value),vs[i]?=some v->us[i]?=some u->Den M w σ v u) /\
   (rs.mapM (resFn a.tmps)).run P w=.ok us w
 | [],l,K,hc,h=>by
   simp[cRes] at hc;subst hc;exact⟨[],h,fun M w σ a _ _=>⟨[],rfl,rfl,by simp,rfl⟩⟩
 | .tmp t::rs,l,K,hc,h=>by
   simp only[cRes,Option.map_eq_some_iff] at hc;obtain⟨l',h1,rfl⟩:=hc;simp only[resK] at h;split at h
   . rename_i v hv;obtain⟨vs,hK,hvs⟩:=resK_sound rs l' _ h1 h;refine⟨_,hK,fun M w σ a he ho=>?_⟩;obtain⟨us,u1,u1',u2,u3⟩:=hvs M w σ a he ho;refine⟨a.tmps.getD t undef::us,by simp[u1],by simp[u1'],?_,?_⟩
     . intro i v' u' hv' hu';cases i with
       | zero=>simp at hv' hu';subst hv' hu';simpa using he t v hv
       | succ i=>exact u2 i v' u' (by simpa using hv') (by simpa using hu')
     . rw[List.mapM_cons];simp only[Sem.run_bind,resFn,Sem.run_pure,Result.andThen_ok,u3]
   . exact h.elim
 | .cell x T::rs,l,K,hc,h=>by
   simp only[cRes] at hc;split at hc<;>simp only[Option.some.injEq,reduceCtorEq] at hc;rename_i z l' hz h1;subst hc;simp only[resK] at h;split at h
   . rename_i p hp;obtain⟨v,h,hf⟩:=vloadR_sound hz h;obtain⟨vs,hK,hvs⟩:=resK_sound rs l' _ h1 h;refine⟨_,hK,fun M w σ a he ho=>?_⟩;obtain⟨us,u1,u1',u2,u3⟩:=hvs M w σ a he ho;have hd:=he x p hp;obtain⟨r,r1,r2⟩:=hf M w σ _ hd (fun k b _ hk=>ho.blk k b (look_mem hk));have hr:(resFn a.tmps (.cell x T)).run P w=.ok r w:=loadAt_asAddr r1;refine⟨r::us,by simp[u1],by simp[u1'],?_,?_⟩
     . intro i v' u' hv' hu';cases i with
       | zero=>simp at hv' hu';subst hv' hu';exact r2
       | succ i=>exact u2 i v' u' (by simpa using hv') (by simpa using hu')
     . rw[List.mapM_cons];simp only[Sem.run_bind,hr,Sem.run_pure,Result.andThen_ok,u3]
   . exact h.elim
theorem leave_marks {P:Program} {fn:Func} {tmps:Array Value} {R:Ending->World->Prop} {B:Nat} {σ:Sg} {own:Own} {ks:List Nat} {M:Nat->Prop}:∀(ds:List Deferred) (w:World),Good B M w σ own ds->HSim M w σ own ks ->
 (∀w',HSim M w' σ own ks->Ext M w M w'->w'.os=w.os->w'.tape=w.tape->w'.output=w.output->w'.heap.size=w.heap.size->(∀b,b<B->w'.heap[b]?=w.heap[b]?)->(∀b,owned w σ own b->w'.heap[b]?=w.heap[b]?)->∃v,(results fn tmps).run P w'=.ok v w'/\R (.returned v) w') ->
 LeavesInM (FR none) 0 P fn tmps R ds .returning w
 | [],w,_,hh,h=>h w hh ⟨fun _ _ h=>⟨h,rfl⟩,Nat.le_refl _⟩ rfl rfl rfl rfl (fun _ _=>rfl) (fun _ _=>rfl)
 | d::ds,w,hg,hh,h=>by
   obtain⟨D,rfl,h1,h2,h3,h4⟩:=hg.mark d (by simp);refine⟨by simp,.inl ⟨D,_,rfl,run_takeDeferred h2,?_⟩⟩;have hnd:=List.nodup_cons.1 hg.nodup;have hE:Ext M w M (w.putObj D (.deferred none)):=⟨fun b hb hM=>⟨hM,World.putObj_heap_other fun e=>hM (e▸h4)⟩,by simp⟩;have hsame:∀b,owned w σ own b->(w.putObj D (.deferred none)).heap[b]?=w.heap[b]?:=fun b hb=>World.putObj_heap_other fun e=>h3 (e▸hb);have keep:∀k b n,(k,b)∈own->(holds (w.putObj D (.deferred none)) σ k b n↔holds w σ k b n):=fun k b n hm=>holds_same (Sg.le_refl _) (hh.own.key hm) fun ob hob=>hsame ob ⟨k,b,hm,.inl hob⟩;have hown:∀n,owned (w.putObj D (.deferred none)) σ own n↔owned w σ own n:=fun n=>owned_le hh.own (Sg.le_refl _) hsame;have hh':HSim M (w.putObj D (.deferred none)) σ own ks :=
    ⟨⟨fun k b hm=>(hh.own.blk k b hm).mono hE (Sg.le_refl _) fun n hn=>⟨(owned_M hh.own ⟨k,b,hm,hn⟩).1,World.putObj_heap_other fun e=>h3 (e▸⟨k,b,hm,hn⟩)⟩,hh.own.nodup,fun k b k' b' n m1 m2 hne e1 e2=>hh.own.apart k b k' b' n m1 m2 hne ((keep k b n m1).1 e1) ((keep k' b' n m2).1 e2)⟩,hh.fresh,hh.knodup⟩
   refine leave_marks ds _ ⟨by simpa using hg.base,fun d' hd'=>?_,hnd.2⟩ hh' fun w' a1 a2 a3 a4 a5 a6 a7 a8=>?_
   . obtain⟨D',e,q1,q2,q3,q4⟩:=hg.mark d' (by simp[hd']);refine⟨D',e,q1,?_,fun x=>q3 ((hown D').1 x),q4⟩;rw[World.putObj_heap_other fun e'=>hnd.1 (by rw[e,e'] at hd';exact hd')];exact q2
   . refine h w' a1 ⟨fun b hb hM=>?_,by have:=a2.size;simp at this;exact this⟩ a3 a4 a5 (by simpa using a6) (fun b hb=>?_) (fun b hb=>(a8 b ((hown b).2 hb)).trans (hsame b hb))
     . obtain⟨x1,x2⟩:=a2.keep b (by simpa using hb) hM;exact⟨x1,x2.trans (hE.keep b hb hM).2⟩
     . rw[a7 b hb];exact World.putObj_heap_other (by omega)
theorem call_rule {P:Program} (hm:P.follows .mixedOrders=true) {f:FuncId} {fn:Func} {c:Code} {sc:SC} {rs:List RV} (hf:P.funcs[f]?=some fn) (hb:fn.body=some c) (hc:cCode P fn.ntmps c=some sc)
 (hr:cRes P fn.results.toList=some rs) {args:List V} {own:Own} {ks:List Nat} {K:V->Own->List Nat->Prop} (hl:args.length<=fn.ntmps)
 (h:vc P fn.ntmps ⟨ks,none⟩ sc (envOf 0 args) own ks fun o=>match o with
   | .normal ⟨env,own,ks⟩=>resK env own rs fun vs=>tupK vs fun v=>K v own ks
   | .ret ⟨env,own,ks⟩=>resK env own rs fun vs=>tupK vs fun v=>K v own ks
   | .exit _ _=>False):CallF P f args own ks K:=by
 constructor;intro M w σ us hlen hd hh;refine callsIn_wide.1 (callsIn_of_wp_marks (F:=Fence.wide) (n:=0) hf hb trivial ?_);have sim:Sim fn.ntmps w.heap.size M w σ ⟨envOf 0 args,own,ks⟩ { tmps:=us.toArray++Array.replicate (fn.ntmps-us.toArray.size) undef,defers:=[] }:=by
  refine⟨?_,hh,by simp;omega,.nil (Nat.le_refl _)⟩;intro t v hv;obtain⟨_,h2⟩:=look_envOf args 0 t v hv;simp only[Nat.sub_zero] at h2;have hlt:t<us.length:=by rw[<- hlen];exact(List.getElem?_eq_some_iff.1 h2).1
  have hg:(us.toArray++Array.replicate (fn.ntmps-us.toArray.size) undef).getD t undef=us[t]:=by
   rw[Array.getD_eq_getD_getElem?,Array.getElem?_append_left (by simpa using hlt)];simp[hlt]
  rw[hg];exact hd t v _ h2 (by simp[hlt])
 refine wpIn_mono (vc_sound hm (bk:=⟨ks,none⟩) (σb:=σ) hh.fresh none (.inl ⟨rfl,rfl⟩) c sc _ _ own ks M w σ _ hc h sim (Sg.le_refl _)) ?_;intro e a' w' hx;obtain⟨M',σ',⟨env',own',ks'⟩,s1,t1,q1,l1,k1⟩:=hx;have fin:(resK env' own' rs fun vs=>tupK vs fun v=>K v own' ks')->LeavesInM (FR none) 0 P fn a'.tmps (fun e w'=>∃M' σ' v' own' ks' u,e=Ending.returned u/\Den M' w' σ' v' u/\HSim M' w' σ' own' ks'/\Tr M w σ own M' w' σ' own'/\Kd σ own ks σ' own' ks'/\K v' own' ks') a'.defers .returning w':=by
  intro hk;refine leave_marks a'.defers w' s1.defers s1.heap fun w'' hh'' hE os tape output hsz hlow hkeep=>?_;have henv:EnvSim M' w'' σ' env' a':=s1.env.mono hE (Sg.le_refl _);obtain⟨vs,hK,hvs⟩:=resK_sound _ _ _ hr hk;obtain⟨us',u1,u1',u2,u3⟩:=hvs M' w'' σ' a' henv hh''.own;have hres:(results fn a'.tmps).run P w''=.ok (if h:us'.toArray.size=1 then us'.toArray[0] else .tuple us'.toArray) w'':=by
   rw[results_eq,Array.mapM_eq_mapM_toList,map_eq_pure_bind];simp only[Sem.run_bind,u3,Result.andThen_ok,Sem.run_pure]
  have tr:Tr M w σ own M' w'' σ' own':=⟨⟨os.trans t1.adv.os,tape.trans t1.adv.tape,output.trans t1.adv.output,by have:=t1.adv.size;omega,fun b hb hn=>(hlow b hb).trans (t1.adv.same b hb hn),fun b hb hn=>t1.adv.muts b hb hn⟩,fun b hb=>t1.new b ((owned_le s1.heap.own (Sg.le_refl _) hkeep).1 hb),l1⟩;refine⟨_,hres,M',σ',?_⟩
  match vs,us',u1,u2,hK with
  | [v],[u],_,u2,hK=>exact⟨v,own',ks',u,by simp,u2 0 v u (by simp) (by simp),hh'',tr,q1,hK⟩
  | [],[],_,u2,hK=>exact⟨.tup [],own',ks',.tuple #[],by simp,.tup _ [] [] rfl (by simp),hh'',tr,q1,hK⟩
  | v1::v2::vr,u1::u2'::ur,hl,u2,hK=>exact⟨.tup (v1::v2::vr),own',ks',.tuple (u1::u2'::ur).toArray,by simp,.tup _ _ _ hl u2,hh'',tr,q1,hK⟩
 cases e with
 | normal=>exact fin k1
 | ret=>exact fin k1
 | _=>exact k1.elim
end Go.Eng
namespace Go.Eng
def KS:List Nat:=[0,1,2,3,4,5,6,7,8,9,10,11,12,13,14,15,16,17,18,19,20,21,22,23,24,25,26,27,28,29]
theorem KS_nodup:KS.Nodup:=by decide
def V.flat1:V->Bool
 | .bool _ | .int _ _ | .str _ | .nilptr | .nilslice | .nilmap | .nilfunc | .niliface | .raw _=>true
 | _=>false
def V.flat:V->Bool
 | .agg cs=>allB V.flat1 cs
 | .tup cs=>allB V.flat1 cs
 | v=>v.flat1
theorem Den.flat1 {M M':Nat->Prop} {w w':World} {σ σ':Sg} {v:V} {u:Value} (h:Den M w σ v u) (hv:v.flat1=true):Den M' w' σ' v u:=by
 cases h<;>first|(simp[V.flat1] at hv;done)|constructor
theorem Den.flat {M M':Nat->Prop} {w w':World} {σ σ':Sg} {v:V} {u:Value} (h:Den M w σ v u) (hv:v.flat=true):Den M' w' σ' v u:=by
 cases v with
 | agg cs=>cases h with|agg _ _ us hl hd=>exact .agg _ _ _ hl fun i v u h1 h2=>(hd i v u h1 h2).flat1 (allB_mem hv v (List.mem_of_getElem? h1))
 | tup cs=>cases h with|tup _ _ us hl hd=>exact .tup _ _ _ hl fun i v u h1 h2=>(hd i v u h1 h2).flat1 (allB_mem hv v (List.mem_of_getElem? h1))
 | _=>exact h.flat1 hv
theorem hsim_nothing {M:Nat->Prop} {w:World} (ks:List Nat) (hk:ks.Nodup):HSim M w Sg.none [] ks :=
 ⟨⟨fun _ _ h=>by simp at h,by simp,fun _ _ _ _ _ h=>by simp at h⟩,fun _ _=>rfl,hk⟩
theorem owned_nil {w:World} {σ:Sg} {b:Nat}:¬ owned w σ [] b:=fun⟨_,_,h,_⟩=>by simp at h
theorem hsim_frame {M M₁ M' M'':Nat->Prop} {w w':World} {σ σ':Sg} {own own':Own} {ks:List Nat} (h:HSim M w σ own ks) (tr:Tr M₁ w Sg.none [] M' w' σ' own')
 (h2:∀b,b<w.heap.size->(M'' b↔M b)):HSim M'' w' σ own ks/\Tr M w σ own M'' w' σ own:=by
 have hE:Ext M w M'' w':=⟨fun b hb hM=>⟨fun hm=>hM ((h2 b hb).1 hm),tr.adv.same b hb owned_nil⟩,tr.adv.size⟩;have same:∀b,owned w σ own b->w'.heap[b]?=w.heap[b]?:=fun b hb=>tr.adv.same b (owned_M h.own hb).2 owned_nil;have keep:∀k b n,(k,b)∈own->(holds w' σ k b n↔holds w σ k b n):=fun k b n hm=>holds_same (Sg.le_refl _) (h.own.key hm) fun ob hob=>same ob ⟨k,b,hm,.inl hob⟩;refine⟨⟨⟨fun k b hm=>?_,h.own.nodup,fun k b k' b' n m1 m2 hne e1 e2=>h.own.apart k b k' b' n m1 m2 hne ((keep k b n m1).1 e1) ((keep k' b' n m2).1 e2)⟩,h.fresh,h.knodup⟩,⟨⟨tr.adv.os,tr.adv.tape,tr.adv.output,tr.adv.size,fun b hb _=>tr.adv.same b hb owned_nil,fun b hb _=>h2 b hb⟩,fun b hb=>.inl ((owned_le h.own (Sg.le_refl _) same).1 hb),Sg.le_refl _⟩⟩;refine(h.own.blk k b hm).mono hE (Sg.le_refl _) fun n hn=>?_;obtain⟨m1,m2⟩:=owned_M h.own ⟨k,b,hm,hn⟩;exact⟨(h2 n m2).2 m1,tr.adv.same n m2 owned_nil⟩
end Go.Eng
namespace Go.Eng
theorem wrap_i64 {n:Int} (h1:-9223372036854775808<=n) (h2:n<=9223372036854775807):IntKind.i64.wrap n=n:=by
 simp only[IntKind.wrap,IntKind.bits,IntKind.signed,Bool.true_and]
 first|(split<;>omega)|(simp;omega)
theorem Ar.i64 {n:Int} {K:Int->Prop} (h1:-9223372036854775808<=n) (h2:n<=9223372036854775807) (hK:K n):Ar .i64 n K:=⟨n,(wrap_i64 h1 h2).symm,hK⟩
theorem wrap_u32 {n:Int} (h1:0<=n) (h2:n<=4294967295):IntKind.u32.wrap n=n:=by
 simp only[IntKind.wrap,IntKind.bits,IntKind.signed,Bool.false_and]
 first|(split<;>omega)|(simp;omega)
theorem Ar.u32 {n:Int} {K:Int->Prop} (h1:0<=n) (h2:n<=4294967295) (hK:K n):Ar .u32 n K:=⟨n,(wrap_u32 h1 h2).symm,hK⟩
theorem Ix.nat {m n:Nat} {K:Nat->Prop} (h:m<n) (hK:K m):Ix (m:Int) n K:=⟨m,rfl,h,hK⟩
theorem Ix.int {i:Int} {n:Nat} {K:Nat->Prop} (h0:0<=i) (h:i<n) (hK:K i.toNat):Ix i n K:=⟨i.toNat,by omega,by omega,hK⟩
def V.nk1 (ks:List Nat):V->Bool
 | .loc k _ | .oel k _ _ _ | .vec k _ _ _ | .map k | .yld k=>!memN k ks
 | .agg _ | .tup _ | .fn _ _ _ | .iface _ _=>false
 | _=>true
def V.nk (ks:List Nat):V->Bool
 | .agg cs=>allB (V.nk1 ks) cs
 | .tup cs=>allB (V.nk1 ks) cs
 | .fn _ _ cap=>allB (V.nk1 ks) cap
 | .iface _ v=>v.nk1 ks
 | v=>v.nk1 ks
def Sg.drop (σ:Sg) (ks:List Nat):Sg:=fun k=>if memN k ks then Option.none else σ k
theorem Sg.drop_of {σ:Sg} {ks:List Nat} {k:Nat} (h:(!memN k ks)=true):σ.drop ks k=σ k:=by
 simp only[Bool.not_eq_true'] at h;simp[Sg.drop,h]
theorem Den.nk1 {M:Nat->Prop} {w:World} {σ:Sg} {v:V} {u:Value} {ks:List Nat} (h:Den M w σ v u) (hv:v.nk1 ks=true):Den M w (σ.drop ks) v u:=by
 cases h with
 | bool=>exact .bool _ _
 | int=>exact .int _ _ _
 | str=>exact .str _ _
 | nilptr=>exact .nilptr _
 | nilslice=>exact .nilslice _
 | nilmap=>exact .nilmap _
 | nilfunc=>exact .nilfunc _
 | niliface=>exact .niliface _
 | loc _ k off b base κ hk=>exact .loc _ _ _ _ _ _ (by rw[Sg.drop_of hv];exact hk)
 | oel _ k s i j b base κ hk=>exact .oel _ _ _ _ _ _ _ _ (by rw[Sg.drop_of hv];exact hk)
 | vec _ k s lo len bo base κ c a hk hc hl ha=>exact .vec _ _ _ _ _ _ _ _ _ _ (by rw[Sg.drop_of hv];exact hk) hc hl ha
 | map _ k b base κ hk=>exact .map _ _ _ _ _ (by rw[Sg.drop_of hv];exact hk)
 | yld _ k b base κ hk=>exact .yld _ _ _ _ _ (by rw[Sg.drop_of hv];exact hk)
 | fz0 _ _ _ _ _ _ hf=>exact .fz0 _ _ _ _ _ _ hf
 | fz _ _ _ _ _ _ _ _ u hc hf hM hb hcell h1 hd=>exact .fz _ _ _ _ _ _ _ _ u hc hf hM hb hcell h1 hd
 | fe _ _ _ _ _ _ _ _ u hi hM hb hcell h1 hd=>exact .fe _ _ _ _ _ _ _ _ u hi hM hb hcell h1 hd
 | raw=>exact .raw _ _
 | anyb=>exact .anyb _ _
 | top=>exact .top _ _
 | _=>simp[V.nk1] at hv
theorem Den.nk {M:Nat->Prop} {w:World} {σ:Sg} {v:V} {u:Value} {ks:List Nat} (h:Den M w σ v u) (hv:v.nk ks=true):Den M w (σ.drop ks) v u:=by
 cases v with
 | agg cs=>cases h with|agg _ _ us hl hd=>exact .agg _ _ _ hl fun i v u h1 h2=>(hd i v u h1 h2).nk1 (allB_mem hv v (List.mem_of_getElem? h1))
 | tup cs=>cases h with|tup _ _ us hl hd=>exact .tup _ _ _ hl fun i v u h1 h2=>(hd i v u h1 h2).nk1 (allB_mem hv v (List.mem_of_getElem? h1))
 | fn f b cap=>cases h with|fn _ _ _ _ us hl hd=>exact .fn _ _ _ _ _ hl fun i v u h1 h2=>(hd i v u h1 h2).nk1 (allB_mem hv v (List.mem_of_getElem? h1))
 | iface t v=>cases h with|iface _ _ _ _ hd=>exact .iface _ _ _ _ (hd.nk1 hv)
 | _=>exact h.nk1 hv
def Blk.nk (ks:List Nat):Blk->Bool
 | .fam ..=>false
 | .cells cs=>allB (V.nk ks) cs
 | .vec _ _ _=>true
 | .loop _ _ _ _ _ _=>false
 | .map _ _=>true
 | .iter km _ _=>!memN km ks
 | .glob _ _ _=>true
def AllIn {α:Type} (l:List (Nat×α)):List (Nat×α)->Prop
 | []=>True
 | (t,v)::r=>look l t=some v/\AllIn l r
theorem AllIn.look {α:Type} {l:List (Nat×α)}:∀{m:List (Nat×α)},AllIn l m->∀t v,Eng.look m t=some v->Eng.look l t=some v
 | [],_,t,v,h=>by simp[Eng.look] at h
 | (t',v')::r,hm,t,v,h=>by
   unfold Eng.look at h;split at h
   . rename_i hb;have:=Nat.eq_of_beq_eq_true hb;subst this;cases h;exact hm.1
   . exact AllIn.look hm.2 t v h
theorem AllIn.mem {α:Type} {l:List (Nat×α)}:∀{m:List (Nat×α)},AllIn l m->∀t v,(t,v)∈m->(t,v)∈l
 | [],_,t,v,h=>by simp at h
 | (t',v')::r,hm,t,v,h=>by
   rcases List.mem_cons.1 h with e|e
   . cases e;exact look_mem hm.1
   . exact AllIn.mem hm.2 t v e
end Go.Eng
namespace Go.Eng
abbrev Rn:=List (Nat×Option Nat)
def TS (ρ:Rn) (σ τ:Sg):Prop:=∀k o,look ρ k=some o->match o with
 | some k'=>τ k=σ k'
 | none=>τ k=some (none,0,0)
structure VRen (ρ:Rn) (v v':V):Prop where
 out:∀M w σ τ u,TS ρ σ τ->Den M w σ v u->Den M w τ v' u
theorem VRen.kf {ρ:Rn} {v:V} (h:v.kf=true):VRen ρ v v:=⟨fun _ _ _ τ _ _ hd=>hd.kf h τ⟩
theorem VRen.int {ρ:Rn} {k:IntKind} {a b:Int} (h:a=b):VRen ρ (.int k a) (.int k b):=by
 subst h;exact .kf rfl
theorem VRen.bool {ρ:Rn} {a b:Bool} (h:a=b):VRen ρ (.bool a) (.bool b):=by
 subst h;exact .kf rfl
theorem VRen.top {ρ:Rn} {v:V}:VRen ρ v .top:=⟨fun _ _ _ _ _ _ _=>.top _ _⟩
theorem VRen.loc {ρ:Rn} {k k' o:Nat} (h:look ρ k=some (some k')):VRen ρ (.loc k' o) (.loc k o) :=
 ⟨fun M w σ τ u hts hd=>by
   cases hd with
   | loc _ _ _ b base κ hk=>exact .loc _ _ _ _ _ _ ((hts k _ h).trans hk)⟩
theorem VRen.oel {ρ:Rn} {k k' s i j i':Nat} (h:look ρ k=some (some k')) (hi:i=i'):VRen ρ (.oel k' s i j) (.oel k s i' j) :=
 ⟨fun M w σ τ u hts hd=>by
   subst hi;cases hd with
   | oel _ _ _ _ _ b base κ hk=>exact .oel _ _ _ _ _ _ _ _ ((hts k _ h).trans hk)⟩
theorem VRen.map {ρ:Rn} {k k':Nat} (h:look ρ k=some (some k')):VRen ρ (.map k') (.map k) :=
 ⟨fun M w σ τ u hts hd=>by
   cases hd with
   | map _ _ b base κ hk=>exact .map _ _ _ _ _ ((hts k _ h).trans hk)⟩
theorem VRen.yld {ρ:Rn} {k k':Nat} (h:look ρ k=some (some k')):VRen ρ (.yld k') (.yld k) :=
 ⟨fun M w σ τ u hts hd=>by
   cases hd with
   | yld _ _ b base κ hk=>exact .yld _ _ _ _ _ ((hts k _ h).trans hk)⟩
theorem VRen.vec {ρ:Rn} {k k' s lo len lo' len':Nat} (h:look ρ k=some (some k')) (h1:lo=lo') (h2:len=len'):VRen ρ (.vec k' s lo len) (.vec k s lo' len') :=
 ⟨fun M w σ τ u hts hd=>by
   subst h1 h2;cases hd with
   | vec _ _ _ _ _ bo base κ c a hk hc hl ha=>exact .vec _ _ _ _ _ _ _ _ _ _ ((hts k _ h).trans hk) hc hl ha⟩
theorem VRen.nil {ρ:Rn} {k s len:Nat} (h:look ρ k=some none) (hl:len=0):VRen ρ .nilslice (.vec k s 0 len) :=
 ⟨fun M w σ τ u hts hd=>by
   subst hl;cases hd;exact .vec _ _ _ _ _ none 0 0 0 none (hts k _ h) rfl (Nat.le_refl _) (fun h=>absurd h (Nat.lt_irrefl _))⟩
theorem VRen.nilfz {ρ:Rn} {s n:Nat} {f:Nat->Nat->V} (hn:n=0):VRen ρ .nilslice (.fz n s false f) :=
 ⟨fun M w σ τ u _ hd=>by
   subst hn;cases hd;exact .fz0 _ _ _ _ _ _ (by simp)⟩
def LRen (ρ:Rn):List V->List V->Prop
 | [],[]=>True
 | v::r,v'::r'=>VRen ρ v v'/\LRen ρ r r'
 | _,_=>False
theorem LRen.out {ρ:Rn}:∀{cs cs':List V},LRen ρ cs cs'->cs'.length=cs.length/\∀(i:Nat) (v v':V),cs[i]?=some v->cs'[i]?=some v'->VRen ρ v v'
 | [],[],_=>⟨rfl,fun i v v' h=>by simp at h⟩
 | v::r,v'::r',h=>by
   obtain⟨l,hr⟩:=LRen.out h.2;refine⟨by simp[l],fun i x x' hx hx'=>?_⟩;cases i with
   | zero=>simp at hx hx';subst hx hx';exact h.1
   | succ i=>exact hr i x x' (by simpa using hx) (by simpa using hx')
 | [],_::_,h=>h.elim
 | _::_,[],h=>h.elim
theorem LRen.den {ρ:Rn} {cs cs':List V} (h:LRen ρ cs cs') {M:Nat->Prop} {w:World} {σ τ:Sg} {us:List Value} (hts:TS ρ σ τ) (hl:cs.length=us.length)
 (hd:∀(i:Nat) (v:V) (u:Value),cs[i]?=some v->us[i]?=some u->Den M w σ v u) :
 cs'.length=us.length/\∀(i:Nat) (v:V) (u:Value),cs'[i]?=some v->us[i]?=some u->Den M w τ v u:=by
 obtain⟨l,hr⟩:=h.out;refine⟨by omega,fun i v u hv hu=>?_⟩;have hi:i<cs.length:=by rw[<- l];exact(List.getElem?_eq_some_iff.1 hv).1
 exact(hr i cs[i] v (by simp[hi]) hv).out M w σ τ u hts (hd i cs[i] u (by simp[hi]) hu)
theorem VRen.agg {ρ:Rn} {cs cs':List V} (h:LRen ρ cs cs'):VRen ρ (.agg cs) (.agg cs') :=
 ⟨fun M w σ τ u hts hd=>by
   cases hd with|agg _ _ us hl hd=>obtain⟨a,b⟩:=h.den hts hl hd;exact .agg _ _ _ a b⟩
theorem VRen.tup {ρ:Rn} {cs cs':List V} (h:LRen ρ cs cs'):VRen ρ (.tup cs) (.tup cs') :=
 ⟨fun M w σ τ u hts hd=>by
   cases hd with|tup _ _ us hl hd=>obtain⟨a,b⟩:=h.den hts hl hd;exact .tup _ _ _ a b⟩
theorem VRen.fn {ρ:Rn} {f:Fn} {b:Bool} {cs cs':List V} (h:LRen ρ cs cs'):VRen ρ (.fn f b cs) (.fn f b cs') :=
 ⟨fun M w σ τ u hts hd=>by
   cases hd with|fn _ _ _ _ us hl hd=>obtain⟨a,b⟩:=h.den hts hl hd;exact .fn _ _ _ _ _ a b⟩
structure VLe (v v':V):Prop where
 out:∀M w u,Den M w Sg.none v u->Den M w Sg.none v' u
theorem VLe.rfl {v:V}:VLe v v:=⟨fun _ _ _ h=>h⟩
theorem VLe.of_eq {v v':V} (h:v=v'):VLe v v':=by subst h;exact .rfl
theorem VLe.trans {a b c:V} (h:VLe a b) (h':VLe b c):VLe a c:=⟨fun M w u hd=>h'.out M w u (h.out M w u hd)⟩
theorem VLe.fz {n n' s:Nat} {full full':Bool} {f f':Nat->Nat->V} (hn:n=n') (hf:full'=true->full=true) (h:∀i j,i<n->j<s->VLe (f i j) (f' i j)):VLe (.fz n s full f) (.fz n' s full' f') :=
 ⟨fun M w u hd=>by
   subst hn;cases hd with
   | fz0 _ _ _ _ a c hc=>exact .fz0 _ _ _ _ _ _ (fun e=>hc (hf e))
   | fz _ _ _ _ _ b off c u hc hf' hM hb hcell h1 hd=>exact .fz _ _ _ _ _ _ _ _ u hc (fun e=>hf' (hf e)) hM hb hcell h1 fun i j hi hj=>(h i j hi hj).out M w _ (hd i j hi hj)⟩
theorem VLe.nilfz {n s:Nat} {f:Nat->Nat->V} (hn:n=0):VLe .nilslice (.fz n s false f) :=
 ⟨fun M w u hd=>by
   subst hn;cases hd;exact .fz0 _ _ _ _ _ _ (by simp)⟩
theorem VRen.fz {ρ:Rn} {n n' s:Nat} {full full':Bool} {f f':Nat->Nat->V} (hn:n=n') (hf:full'=true->full=true) (h:∀i j,i<n->j<s->VLe (f i j) (f' i j)):VRen ρ (.fz n s full f) (.fz n' s full' f') :=
 ⟨fun M w _ τ u _ hd=>((VLe.fz hn hf h).out M w u (hd.kf (show V.kf (.fz n s full f)=true from by rfl) Sg.none)).kf (show V.kf (.fz n' s full' f')=true from by rfl) τ⟩
def EnvRen (ρ:Rn) (env:Env):Env->Prop
 | []=>True
 | (t,v)::r=>(∃v',look env t=some v'/\VRen ρ v' v)/\EnvRen ρ env r
def OpR (ρ:Rn):List (Nat×Nat)->List (Nat×Nat)->Prop
 | [],[]=>True
 | (i,q)::r,(i',q')::r'=>i=i'/\look ρ q'=some (some q)/\OpR ρ r r'
 | _,_=>False
theorem OpR.look {ρ:Rn}:∀{op op':List (Nat×Nat)},OpR ρ op op'->∀i,(Eng.look op i=none↔Eng.look op' i=none)/\∀q',Eng.look op' i=some q'->∃q,Eng.look op i=some q/\Eng.look ρ q'=some (some q)
 | [],[],_,i=>⟨Iff.rfl,fun q h=>by simp[Eng.look] at h⟩
 | (i0,q0)::r,(i0',q0')::r',h,i=>by
   obtain⟨rfl,h2,h3⟩:=h;have ih:=OpR.look h3 i;by_cases e:i0=i
   . rw[look_here e,look_here e];exact⟨by simp,fun q' e=>by simp at e;subst e;exact⟨q0,rfl,h2⟩⟩
   . rw[look_there e,look_there e];exact ih
 | [],_::_,h,_=>h.elim
 | _::_,[],h,_=>h.elim
def BRen (ρ:Rn):Blk->Blk->Prop
 | .fam n s len f op,.fam n' s' len' f' op'=>n'=n/\s'=s/\OpR ρ op op'/\(∀i,i<n->len' i=len i)/\∀i j t,i<n->look op i=none->j<len i->t<s->VLe (f i j t) (f' i j t)
 | .vec n s f,.fam n' _ len' _ op'=>n'=n/\s=1/\op'=[]/\∀i,i<n->f i 0=.nilslice/\len' i=0
 | .cells cs,.cells cs'=>LRen ρ cs cs'
 | .vec n s f,.vec n' s' f'=>n'<=n/\s=s'/\∀i j,i<n'->j<s->VLe (f i j) (f' i j)
 | .map ik es,.map ik' es'=>∃h:ik'=ik,(h▸es')=es
 | .glob g n f,.glob g' n' f'=>g'=g/\n'=n/\f'=f
 | .iter km n idxs,.iter km' n' idxs'=>n'=n/\idxs'=idxs/\look ρ km'=some (some km)
 | .loop st pe env N ps C,.loop st' pe' env' N' ps' C'=>st'=st/\pe'=pe/\N'=N/\ps'=ps/\C'=C/\EnvRen ρ env env'
 | _,_=>False
def OwnRen (ρ:Rn) (own:Own):Own->Prop
 | []=>True
 | (k,b)::r=>(match look ρ k with
   | some (some k')=>∃b',look own k'=some b'/\BRen ρ b' b
   | some none=>∃s f,b=.vec 0 s f
   | none=>False)/\OwnRen ρ own r
theorem EnvRen.look {ρ:Rn} {env:Env}:∀{m:Env},EnvRen ρ env m->∀t v,Eng.look m t=some v->∃v',Eng.look env t=some v'/\VRen ρ v' v
 | [],_,t,v,h=>by simp[Eng.look] at h
 | (t',v')::r,hm,t,v,h=>by
   unfold Eng.look at h;split at h
   . rename_i hb;have:=Nat.eq_of_beq_eq_true hb;subst this;cases h;exact hm.1
   . exact EnvRen.look hm.2 t v h
theorem OwnRen.mem {ρ:Rn} {own:Own}:∀{m:Own},OwnRen ρ own m->∀k b,(k,b)∈m->(∃k' b',Eng.look ρ k=some (some k')/\Eng.look own k'=some b'/\BRen ρ b' b)\/(Eng.look ρ k=some none/\∃s f,b=.vec 0 s f)
 | [],_,k,b,h=>by simp at h
 | (k',b')::r,hm,k,b,h=>by
   rcases List.mem_cons.1 h with e|e
   . cases e;have h1:=hm.1;split at h1
     . rename_i k'' hk;obtain⟨b',h2,h3⟩:=h1;exact .inl ⟨k'',b',hk,h2,h3⟩
     . rename_i hk;exact .inr ⟨hk,h1⟩
     . exact h1.elim
   . exact OwnRen.mem hm.2 k b e
def rnB:Rn->Bool
 | []=>true
 | (k,o)::r=>r.all (fun p=>!Nat.beq p.1 k&&(match o,p.2 with|some a,some b=>!Nat.beq a b|_,_=>true))&&rnB r
def chgB (chg:List Nat):Rn->Bool
 | []=>true
 | (k,o)::r=>((match o with|some k'=>Nat.beq k k'|none=>false) || memN k chg)&&chgB chg r
def ksB (ρ:Rn):List Nat->Bool
 | []=>true
 | k::r=>(match look ρ k with|none=>true|some _=>false)&&ksB ρ r
theorem rnB_inj:∀{ρ:Rn},rnB ρ=true->∀k k' a,look ρ k=some (some a)->look ρ k'=some (some a)->k=k'
 | [],_,k,k',a,h,_=>by simp[look] at h
 | (q,o)::r,h,k,k',a,h1,h2=>by
   unfold rnB at h;simp only[Bool.and_eq_true] at h;obtain⟨hA,hB⟩:=h;rw[List.all_eq_true] at hA;have aux:∀j,look r j=some (some a)->o≠some a:=by
    intro j hj e;subst e;have:=hA _ (look_mem hj);simp at this
   cases e1:Nat.beq q k<;>cases e2:Nat.beq q k'<;>simp only[look,e1,e2] at h1 h2
   . exact rnB_inj hB k k' a h1 h2
   . cases h2;exact(aux k h1 rfl).elim
   . cases h1;exact(aux k' h2 rfl).elim
   . rw[<- Nat.eq_of_beq_eq_true e1,<- Nat.eq_of_beq_eq_true e2]
theorem chgB_look {chg:List Nat}:∀{ρ:Rn},chgB chg ρ=true->∀k o,look ρ k=some o->o=some k\/k∈chg
 | [],_,k,o,h=>by simp[look] at h
 | (q,p)::r,h,k,o,hk=>by
   unfold chgB at h;simp only[Bool.and_eq_true,Bool.or_eq_true] at h;unfold look at hk;split at hk
   . rename_i e;have:=Nat.eq_of_beq_eq_true e;subst this;cases hk;rcases h.1 with h1|h1
     . split at h1
       . have:=Nat.eq_of_beq_eq_true h1;subst this;exact .inl rfl
       . cases h1
     . exact .inr (memN_iff.1 h1)
   . exact chgB_look h.2 k o hk
theorem ksB_look {ρ:Rn}:∀{ks:List Nat},ksB ρ ks=true->∀k,k∈ks->look ρ k=none
 | [],_,k,h=>by simp at h
 | q::r,h,k,hk=>by
   unfold ksB at h;simp only[Bool.and_eq_true] at h;rcases List.mem_cons.1 hk with e|e
   . subst e;have:=h.1;split at this
     . assumption
     . cases this
   . exact ksB_look h.2 k e
def Sg.ren (ρ:Rn) (ks:List Nat) (σ:Sg):Sg:=fun k=>match look ρ k with
 | .some (.some k')=>σ k'
 | .some .none=>.some (.none,0,0)
 | .none=>if memN k ks then .none else σ k
theorem Sg.ren_ts (ρ:Rn) (ks:List Nat) (σ:Sg):TS ρ σ (σ.ren ρ ks):=fun k o h=>by
 unfold Sg.ren;cases o with
 | some k'=>simp[h]
 | none=>simp[h]
theorem blk_ren {ρ:Rn} {M:Nat->Prop} {w:World} {σ τ:Sg} (hts:TS ρ σ τ) {k k':Nat} {b' b:Blk} (hk:τ k=σ k') (hb:BlkSim M w σ k' b') (e3:BRen ρ b' b):BlkSim M w τ k b/\∀n,holds w τ k b n->holds w σ k' b' n:=by
 have plain:b.isFam=false->∀n,holds w τ k b n->holds w σ k' b' n:=fun hf n hn=>.inl (by rw[holds_no hf] at hn;simpa[blkOf,hk] using hn);cases b' with
 | cells cs =>
   cases b with
   | cells cs' =>
     obtain⟨b,κ,ty,us,z1,z2,z3,z4,z5⟩:=hb;obtain⟨q1,q2⟩:=LRen.den (us:=us.toList) (e3:LRen ρ cs cs') hts (by simpa using z4.symm) (fun i v u hv hu=>z5 i v u hv (by simpa using hu));exact⟨⟨b,κ,ty,us,by rw[hk];exact z1,z2,z3,by simpa using q1.symm,fun i v u hv hu=>q2 i v u hv (by simpa using hu)⟩,plain rfl⟩
   | _=>exact(e3:False).elim
 | map ik es =>
   cases b with
   | map ik' es' =>
     obtain⟨b,κ,arr,z1,z2,z3,z4⟩:=hb;obtain⟨rfl,rfl⟩:=(e3:∃h:ik'=ik,(h▸es')=es);exact⟨⟨b,κ,arr,by rw[hk];exact z1,z2,z3,z4⟩,plain rfl⟩
   | _=>exact(e3:False).elim
 | glob g n f =>
   cases b with
   | glob g' n' f' =>
     obtain⟨⟨base,κ,z1⟩,z2⟩:=hb;obtain⟨rfl,rfl,rfl⟩:=(e3:g'=g/\n'=n/\f'=f);exact⟨⟨⟨base,κ,by rw[hk];exact z1⟩,z2⟩,plain rfl⟩
   | _=>exact(e3:False).elim
 | iter km n idxs =>
   cases b with
   | iter km' n' idxs' =>
     obtain⟨r,κ,b,base,κ',z1,z2,z3,z4⟩:=hb;obtain⟨rfl,rfl,er⟩:=(e3:n'=n/\idxs'=idxs/\look ρ km'=some (some km));exact⟨⟨r,κ,b,base,κ',by rw[hk];exact z1,z2,by rw[hts km' _ er];exact z3,z4⟩,plain rfl⟩
   | _=>exact(e3:False).elim
 | loop st pe env0 N0 ps C =>
   cases b with
   | loop st' pe' env0' N0' ps' C' =>
     obtain⟨l,κ,r,z1,z2,z3,z4,z5,z6,z7,z8,z9⟩:=hb;obtain⟨rfl,rfl,rfl,rfl,rfl,er⟩:=(e3:st'=st/\pe'=pe/\N0'=N0/\ps'=ps/\C'=C/\EnvRen ρ env0 env0');refine⟨⟨l,κ,r,by rw[hk];exact z1,z2,z3,z4,z5,z6,z7,z8,fun t v hv=>?_⟩,plain rfl⟩;obtain⟨v',y1,y2⟩:=EnvRen.look er t v hv;exact y2.out M w σ _ _ hts (z9 t v' y1)
   | _=>exact(e3:False).elim
 | vec n s f =>
   cases b with
   | cells=>exact(e3:False).elim
   | loop=>exact(e3:False).elim
   | map=>exact(e3:False).elim
   | iter=>exact(e3:False).elim
   | glob=>exact(e3:False).elim
   | vec n' s' f' =>
     obtain⟨c1,c2,c3⟩:=(e3:n'<=n/\s=s'/\∀i j,i<n'->j<s->VLe (f i j) (f' i j));subst c2;obtain⟨bo,base,κ,z1,z2,z3⟩:=hb;refine⟨⟨bo,base,κ,by rw[hk];exact z1,by omega,?_⟩,plain rfl⟩;rcases z3 with z3 | ⟨b,ty,us,z3,z4,z5,z6,z7⟩
     . exact .inl z3
     . refine .inr ⟨b,ty,us,z3,z4,z5,z6,fun i j hi hj=>?_⟩;obtain⟨u,u1,u2,u3⟩:=z7 i j (by omega) hj;exact⟨u,u1,u2,(c3 i j hi hj).out M w u u3⟩
   | fam n' s' len' f' op' =>
     obtain⟨rfl,rfl,rfl,c4⟩:=(e3:n'=n/\s=1/\op'=[]/\∀i,i<n->f i 0=.nilslice/\len' i=0);obtain⟨bo,base,κ,z1,z2,z3⟩:=hb;rcases z3 with z3 | ⟨b,ty,us,z3,z4,z5,z6,z7⟩
     . refine⟨⟨bo,base,κ,by rw[hk];exact z1,z2,.inl z3⟩,fun m hm=>?_⟩;rcases hm with hm | ⟨ob,base',κ',us,ty,i,e1,_⟩
       . exact .inl (by simpa[blkOf,hk] using hm)
       . rw[hk,z1,z3.2] at e1;simp at e1
     . subst z3;have hcell:∀i,i<n'->us[base+i]?=some (.slice none 0 0):=fun i hi=>by
        obtain⟨u,u1,_,u3⟩:=z7 i 0 hi (by omega);rw[(c4 i hi).1] at u3;cases u3;simpa using u1
       have hno:∀i r,i<n'->¬ RowAt us base i r:=fun i r hi ⟨off,l,c,e,_⟩=>by rw[hcell i hi] at e;simp at e
       refine⟨⟨_,base,κ,by rw[hk];exact z1,z2,.inr ⟨b,ty,us,rfl,z4,z5,by omega,fun i hi=>⟨_,hcell i hi,none,0,by rw[(c4 i hi).2],by rw[(c4 i hi).2];exact Nat.le_refl _,fun q hq=>(by cases hq),fun _ hc=>absurd hc (by omega)⟩,fun i i' r hi hi' _ _ h1 _=>(hno i r hi h1).elim,fun i hi _=>hno i b hi⟩⟩,fun m hm=>?_⟩;rcases hm with hm | ⟨ob,base',κ',us',ty',i,e1,e2,e3,_,e5⟩
       . exact .inl (by simpa[blkOf,hk] using hm)
       . rw[hk,z1] at e1;simp only[Option.some.injEq,Prod.mk.injEq] at e1;obtain⟨rfl,rfl,rfl⟩:=e1;rw[z5] at e2;simp only[Option.some.injEq,Obj.cells.injEq] at e2;obtain⟨rfl,_⟩:=e2;exact(hno i m e3 e5).elim
 | fam n s len f op =>
   cases b with
   | cells=>exact(e3:False).elim
   | loop=>exact(e3:False).elim
   | map=>exact(e3:False).elim
   | iter=>exact(e3:False).elim
   | glob=>exact(e3:False).elim
   | vec=>exact(e3:False).elim
   | fam n' s' len' f' op' =>
     obtain⟨rfl,rfl,c3,c4,c5⟩:=(e3:n'=n/\s'=s/\OpR ρ op op'/\(∀i,i<n->len' i=len i)/\∀i j t,i<n->look op i=none->j<len i->t<s->VLe (f i j t) (f' i j t));obtain⟨bo,base,κ,z1,z2,z3⟩:=hb;refine⟨⟨bo,base,κ,by rw[hk];exact z1,z2,?_⟩,fun m hm=>?_⟩
     . rcases z3 with z3 | ⟨b,ty,us,z3,z4,z5,z6,z7,z8,z9⟩
       . exact .inl z3
       . refine .inr ⟨b,ty,us,z3,z4,z5,z6,fun i hi=>?_,fun i i' r hi hi' n1 n2 r1 r2=>z8 i i' r hi hi' ((c3.look i).1.2 n1) ((c3.look i').1.2 n2) r1 r2,fun i hi n1 r1=>z9 i hi ((c3.look i).1.2 n1) r1⟩;obtain⟨u,u1,a,c,u2,u3,u4,u5⟩:=z7 i hi;refine⟨u,u1,a,c,by rw[c4 i hi];exact u2,by rw[c4 i hi];exact u3,fun q' hq'=>?_,fun hn hc=>?_⟩
         . obtain⟨q,y1,y2⟩:=(c3.look i).2 q' hq';rw[c4 i hi];exact(VRen.vec y2 rfl rfl).out M w σ τ u hts (u4 q y1)
         . have hn':=(c3.look i).1.2 hn;obtain⟨r,off,ty2,us2,p1,p2,p3,p4,p5⟩:=u5 hn' hc;refine⟨r,off,ty2,us2,p1,p2,p3,p4,fun j t hj ht=>?_⟩;rw[c4 i hi] at hj;obtain⟨x,x1,x2,x3⟩:=p5 j t hj ht;exact⟨x,x1,x2,(c5 i j t hi hn' hj ht).out M w x x3⟩
     . rcases hm with hm | ⟨ob,base',κ',us',ty',i,e1,e2,e3,e4,e5⟩
       . exact .inl (by simpa[blkOf,hk] using hm)
       . exact .inr ⟨ob,base',κ',us',ty',i,by rw[<- hk];exact e1,e2,e3,(c3.look i).1.2 e4,e5⟩
theorem weak_ren {N:Nat} {chg:List Nat} {env env':Env} {own own':Own} {ks ks':List Nat} (ρ:Rn) (he:EnvRen ρ env env') (ho:OwnRen ρ own own') (hn:nodupB ks'=true) (hon:nodupB (own'.map (·.1))=true)
 (h1:rnB ρ=true) (h2:chgB chg ρ=true) (h3:ksB ρ ks'=true):Weak N chg ⟨env,own,ks⟩ ⟨env',own',ks'⟩:=by
 constructor;intro B M w σ a s;have hts:=Sg.ren_ts ρ ks' σ;have hob:=OwnRen.mem ho;have hblk:∀k b,(k,b)∈own'->∀n,holds w (σ.ren ρ ks') k b n->∃k' b',look ρ k=some (some k')/\(k',b')∈own/\holds w σ k' b' n:=by
  intro k b hm n hn;rcases hob k b hm with ⟨k',b',e1,e2,e3⟩ | ⟨e1,s',f,rfl⟩
  . exact⟨k',b',e1,look_mem e2,(blk_ren hts (hts k _ e1) (s.heap.own.blk k' b' (look_mem e2)) e3).2 n hn⟩
  . have:(σ.ren ρ ks') k=some (none,0,0):=hts k _ e1;simp[holds,rowOf,blkOf,this] at hn
 refine⟨M,σ.ren ρ ks',⟨?_,⟨⟨?_,nodupB_iff hon,?_⟩,?_,nodupB_iff hn⟩,s.size,?_⟩,⟨.refl _ _ _,?_⟩,?_⟩
 . intro t v hv;obtain⟨v',e1,e2⟩:=EnvRen.look he t v hv;exact e2.out M w σ _ _ hts (s.env t v' e1)
 . intro k b hm;rcases hob k b hm with ⟨k',b',e1,e2,e3⟩ | ⟨e1,s',f,rfl⟩
   . exact(blk_ren hts (hts k _ e1) (s.heap.own.blk k' b' (look_mem e2)) e3).1
   . have hk:(σ.ren ρ ks') k=some (none,0,0):=hts k _ e1;exact⟨none,0,0,hk,Nat.le_refl _,.inl ⟨rfl,rfl⟩⟩
 . intro k b k' b' n m1 m2 hne e1 e2;obtain⟨q,qb,a1,a2,a3⟩:=hblk k b m1 n e1;obtain⟨q',qb',a1',a2',a3'⟩:=hblk k' b' m2 n e2;by_cases hq:q=q'
   . subst hq;exact hne (rnB_inj h1 k k' q a1 a1')
   . exact s.heap.own.apart q qb q' qb' n a2 a2' hq a3 a3'
 . intro k hk;simp[Sg.ren,ksB_look h3 k hk,memN_iff.2 hk]
 . refine⟨s.defers.base,fun d hd=>?_,s.defers.nodup⟩;obtain⟨D,e,q1,q2,q3,q4⟩:=s.defers.mark d hd;refine⟨D,e,q1,q2,?_,q4⟩;rintro⟨k,b,hm,e⟩;obtain⟨q,qb,_,a2,a3⟩:=hblk k b hm D e;exact q3 ⟨q,qb,a2,a3⟩
 . rintro n ⟨k,b,hm,e⟩;obtain⟨q,qb,_,a2,a3⟩:=hblk k b hm n e;exact .inl ⟨q,qb,a2,a3⟩
 . intro k hk hc;unfold Sg.ren;split
   . rename_i k' hr;rcases chgB_look h2 k _ hr with e|e
     . cases e;rfl
     . exact(hc e).elim
   . rename_i hr;rcases chgB_look h2 k _ hr with e|e
     . cases e
     . exact(hc e).elim
   . have:memN k ks'=false:=by
      rw[<- Bool.not_eq_true];exact fun h=>hk (memN_iff.1 h)
     simp[this]
def frzT (own:Own) (v:V) (K:V->Prop):Prop :=
 match v with
 | .tup cs=>bors own cs fun cs=>K (.tup cs)
 | v=>bor own v K
theorem frzT_sound {own:Own} {v:V} {K:V->Prop} (h:frzT own v K):∃v',K v'/\∀M w σ u,OwnSim M w σ own->Den M w σ v u->Den (lent M w σ own) w Sg.none v' u:=by
 unfold frzT at h;split at h
 . rename_i cs;obtain⟨cs',hK,hl,hr⟩:=bors_sound h;refine⟨_,hK,fun M w σ u ho hd=>?_⟩;cases hd with
   | tup _ _ us l1 l2 =>
     refine .tup _ _ _ (by omega) fun i v' u' hv' hu'=>?_;have hi:i<cs.length:=by rw[<- hl];exact(List.getElem?_eq_some_iff.1 hv').1
     exact hr M w σ ho i cs[i] v' u' (by simp[hi]) hv' (l2 i cs[i] u' (by simp[hi]) hu')
 . exact bor_sound h
end Go.Eng
