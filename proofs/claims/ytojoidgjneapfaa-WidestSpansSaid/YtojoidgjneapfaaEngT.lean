import Derived.Test.YtojoidgjneapfaaEngQ
import Derived.Carry
import Derived.ProofKit
import Derived.OpenShut
namespace Go.Eng
theorem LLe.dens {cs cs':List V} (h:LLe cs cs') {M:Nat->Prop} {w:World} {us:List Value} (hl:cs.length=us.length) (hd:∀(i:Nat) (v:V) (u:Value),cs[i]?=some v->us[i]?=some u->Den M w Sg.none v u) :
 cs'.length=us.length/\∀(i:Nat) (v:V) (u:Value),cs'[i]?=some v->us[i]?=some u->Den M w Sg.none v u:=by
 obtain⟨l,hr⟩:=h.out;refine⟨by omega,fun i v u hv hu=>?_⟩;have hi:i<cs.length:=by rw[<- l];exact(List.getElem?_eq_some_iff.1 hv).1
 exact(hr i cs[i] v (by simp[hi]) hv).out M w u (hd i cs[i] u (by simp[hi]) hu)
theorem J34 {P:Program} {f:FuncId} {args args0:List V} {X:V} {own:Own} {ks:List Nat} {K:V->Own->List Nat->Prop} (keys:List Nat) (h:Ret P f args0 X)
 (hb:Q49 (J1Q keys own) args fun args'=>LLe args' args0) (hK:K X (J1M keys own) ks):J0H P f args own ks K:=by
 obtain⟨args',hle,hl,hs⟩:=J2Q hb;constructor;intro M w σ us hlen hd hh;obtain⟨s2,hM⟩:=J5i hh keys;have ho:=J5P hh keys;obtain⟨d1,d2⟩:=hle.dens (M:=J4O M w σ (J1Q keys own)) (w:=w) (us:=us) (by omega) (fun i v' u hv' hu=>by
  have hi:i<args.length:=by rw[<- hl];exact(List.getElem?_eq_some_iff.1 hv').1
  exact hs M w σ ho i args[i] v' u (by simp[hi]) hv' (hd i args[i] u (by simp[hi]) hu))
 refine((h (J1M keys own) ks).out (J4O M w σ (J1Q keys own)) w σ us d1 (fun i v u hv hu=>(d2 i v u hv hu).mono (Ext.mk (fun _ _ h=>⟨h,rfl⟩) (Nat.le_refl _)) (Sg.none_le σ)) s2).mono ?_;rintro e w' ⟨M',σ',v,own',ks',u,rfl,hv,hh',tr,kd,rfl,rfl,rfl⟩;have hsub:∀b,J0y w σ (J1M keys own) b->J0y w σ own b:=fun b ⟨k,c,h1,h2⟩=>⟨k,c,(J0C.1 h1).1,h2⟩;refine⟨M',σ',_,_,_,u,rfl,hv,hh',⟨⟨tr.adv.os,tr.adv.tape,tr.adv.output,tr.adv.size,fun b hb hn=>tr.adv.same b hb fun x=>hn (hsub b x),fun b hb hn=>(tr.adv.muts b hb fun x=>hn (hsub b x)).trans (hM b hn)⟩,?_,tr.le⟩,⟨kd.1,kd.2.1,fun k hk=>?_⟩,hK⟩
 . intro b hb;rcases tr.new b hb with x|x
   . exact .inl (hsub b x)
   . exact .inr x
 . rcases kd.2.2 k hk with x|x
   . obtain⟨⟨q,c⟩,h1,h2⟩:=List.mem_map.1 x;exact .inl (List.mem_map.2 ⟨_,(J0C.1 h1).1,h2⟩)
   . exact .inr x
open Go.ChangeShapes Go.WideShapes Go.ChangeAt Go.RowKit
section
variable {H:Type} {enc:TypeId×Value->H} {P:Program} {w:World} {sp:Nat->Bool} {hd:Bool}
theorem J3Z {α β:Type} {f:α->Option β}:∀{l:List α} {r:List β},l.mapM f=some r->∀(i:Nat) (x:α),l[i]?=some x->∃y,f x=some y/\r[i]?=some y
 | [],r,h,i,x,hx=>by simp at hx
 | a::l,r,h,i,x,hx=>by
   rw[List.mapM_cons] at h;cases ha:f a with
   | none=>simp[ha] at h
   | some y =>
     cases hl:l.mapM f with
     | none=>simp[ha,hl] at h
     | some ys =>
       simp[ha,hl] at h;subst h;cases i with
       | zero=>simp at hx;subst hx;exact⟨y,ha,by simp⟩
       | succ i=>simp at hx;simpa using J3Z hl i x hx
theorem J2t {fuel:Nat} {t:TypeId} {k:IntKind} {cs:List Value} {x:DataW H×List MemPlace} (ht:P.underlying t=some (.int k)) (h:DataW.trod enc P w 0 sp hd fuel t cs=some x) :
 ∃n,cs=[.int k n]/\(Lit.int k n).wf=true:=by
 cases fuel with
 | zero=>simp[DataW.trod] at h
 | succ fuel =>
   unfold DataW.trod at h;rw[ht] at h;split at h<;>simp_all
theorem J10 {fuel:Nat} {t e:TypeId} {cs:List Value} {x:DataW H×List MemPlace} (ht:P.underlying t=some (.slice e)) (h:DataW.trod enc P w 0 sp hd fuel t cs=some x) :
 cs=[.slice none 0 0]\/∃a len cap n,cs=[.slice (some a) len cap]/\len<=cap/\cap<=maxLen /\
  ∀i,i<len->∃ecs y,w.cells? 0 (a.add (i*P.cellsOf e)) (P.cellsOf e)=some ecs/\DataW.trod enc P w 0 sp hd n e ecs=some y:=by
 cases fuel with
 | zero=>simp[DataW.trod] at h
 | succ fuel =>
   unfold DataW.trod at h;rw[ht] at h;split at h<;>first|(rename_i he;cases he;done)|skip
   all_goals try (rename_i he;simp at he;done)
   all_goals try (simp at h;done)
   . exact .inl rfl
   . rename_i e' a len cap he;simp at he;subst he;right;split at h
     . rename_i hc;cases hm:(List.range len).mapM fun i=>(w.cells? 0 (a.add (i*P.cellsOf e)) (P.cellsOf e)).bind (DataW.trod enc P w 0 sp hd fuel e) with
       | none=>simp[hm] at h
       | some ys =>
         refine⟨a,len,cap,fuel,rfl,hc.2.1,hc.2.2,fun i hi=>?_⟩;obtain⟨y,hy,_⟩:=J3Z hm i i (by simp[hi]);cases hcs:w.cells? 0 (a.add (i*P.cellsOf e)) (P.cellsOf e) with
         | none=>simp[hcs] at hy
         | some ecs=>simp[hcs] at hy;exact⟨ecs,y,rfl,hy⟩
     . simp at h
theorem J6V {a:Addr} {n:Nat} {ecs:List Value} (h:w.cells? 0 a n=some ecs) {j:Nat} (hj:j<n):∃u,ecs[j]?=some u/\w.cell? (a.add j)=some u:=by
 simp only[World.cells?,Nat.zero_le,if_true] at h;obtain⟨y,h1,h2⟩:=J3Z h j j (by simp[hj]);exact⟨y,h2,h1⟩
theorem Q31 {a:Addr} (h:a.spot=none) (x y:Nat):(a.add x).add y=⟨a.block,a.off+(x+y),none⟩:=by
 obtain⟨b,o,s⟩:=a;simp only at h;subst h;unfold Addr.add;split<;>split<;>simp_all<;>omega
theorem J4I {s len cap:Nat} {a:Addr} {f:Nat->Nat->V} (σ:Sg) (hs:0<s) (hle:len<=cap)
 (hc:∀i,i<len->∃ecs,w.cells? 0 (a.add (i*s)) s=some ecs/\∀j,j<s->∀u,ecs[j]?=some u->u.oneCell'=true/\Den (fun _=>False) w Sg.none (f i j) u) :
 Den (fun _=>False) w σ (.fz len s false f) (.slice (some a) len cap):=by
 rcases Nat.eq_zero_or_pos len with h0|h0
 . subst h0;exact .fz0 _ _ _ _ _ _ (by simp)
 obtain⟨ecs0,c0,_⟩:=hc 0 h0;obtain⟨u0,_,k0⟩:=J6V c0 hs;simp only[Nat.zero_mul,Addr.add,if_true] at k0;have hspot:a.spot=none:=by
  unfold World.cell? at k0;split at k0
  . split at k0
    . cases k0
    . rename_i h;simpa using h
  . cases k0
 have hb:a.block<w.heap.size:=by
  unfold World.cell? at k0;split at k0
  . rename_i h;exact lt_of_getElem? h
  . cases k0
 have key:∀i j,i<len->j<s->∃u,w.cell? ⟨a.block,a.off+(i*s+j),none⟩=some u/\u.oneCell'=true/\Den (fun _=>False) w Sg.none (f i j) u:=by
  intro i j hi hj;obtain⟨ecs,c1,c2⟩:=hc i hi;obtain⟨u,u1,u2⟩:=J6V c1 hj;rw[Q31 hspot] at u2;exact⟨u,u2,c2 j hj u u1⟩
 have ea:a=⟨a.block,a.off,none⟩:=by cases a;simp_all
 rw[ea];exact .fz _ _ _ _ _ _ _ _ (fun i j=>if h:i<len/\j<s then Classical.choose (key i j h.1 h.2) else undef) hle (by simp) (by simp) hb
  (fun i j hi hj=>by simp only[hi,hj,and_self,dite_true];exact(Classical.choose_spec (key i j hi hj)).1)
  (fun i j hi hj=>by simp only[hi,hj,and_self,dite_true];exact(Classical.choose_spec (key i j hi hj)).2.1)
  (fun i j hi hj=>by simp only[hi,hj,and_self,dite_true];exact(Classical.choose_spec (key i j hi hj)).2.2)
theorem Q17 {fuel:Nat} {t e:TypeId} {k:IntKind} {cs:List Value} {x:DataW H×List MemPlace} (σ:Sg) (ht:P.underlying t=some (.slice e)) (he:P.underlying e=some (.int k)) (hc:P.cellsOf e=1)
 (h:DataW.trod enc P w 0 sp hd fuel t cs=some x) :
 ∃u l,cs=[u]/\u.oneCell'=true/\Den (fun _=>False) w σ (.fz l.length 1 false (fun i _=>.int k (List.getD l i 0))) u/\l.length<=maxLen/\∀n∈l,(Lit.int k n).wf=true:=by
 rcases J10 ht h with rfl | ⟨a,len,cap,n,rfl,h1,h2,h3⟩
 . exact⟨_,[],rfl,rfl,.fz0 _ _ _ _ _ _ (by simp),by simp,by simp⟩
 . have key:∀i,i<len->∃m,w.cells? 0 (a.add (i*1)) 1=some [.int k m]/\(Lit.int k m).wf=true:=by
    intro i hi;obtain⟨ecs,y,c1,c2⟩:=h3 i hi;rw[hc] at c1;obtain⟨m,rfl,hm⟩:=J2t he c2;exact⟨m,c1,hm⟩
   let g:Nat->Int:=fun i=>if h:i<len then Classical.choose (key i h) else 0
   have hg:∀i (h:i<len),w.cells? 0 (a.add (i*1)) 1=some [.int k (g i)]/\(Lit.int k (g i)).wf=true:=fun i h=>by
    simp only[g,h,dite_true];exact Classical.choose_spec (key i h)
   refine⟨_,(List.range len).map g,rfl,rfl,?_,by simp;omega,?_⟩
   . simp only[List.length_map,List.length_range];refine J4I σ (by decide) h1 fun i hi=>⟨_,(hg i hi).1,fun j hj u hu=>?_⟩;obtain rfl:j=0:=by omega
     simp at hu;subst hu;refine⟨rfl,?_⟩;have:List.getD ((List.range len).map g) i 0=g i:=by simp[hi]
     rw[this];exact .int _ _ _
   . intro m hm;obtain⟨i,hi,rfl⟩:=List.mem_map.1 hm;exact(hg i (by simpa using hi)).2
theorem J2s {fuel:Nat} {t:TypeId} {fs:Array Field} {cs:List Value} {x:DataW H×List MemPlace} (ht:P.underlying t=some (.struct fs)) (h:DataW.trod enc P w 0 sp hd fuel t cs=some x) :
 cs.length=P.cellsOf t/\∃n,∀(i:Nat) (f:Field),fs.toList[i]?=some f->∃y,DataW.trod enc P w 0 sp hd n f.type ((cs.drop f.offset).take (P.cellsOf f.type))=some y:=by
 cases fuel with
 | zero=>simp[DataW.trod] at h
 | succ fuel =>
   simp only[DataW.trod,ht] at h;split at h
   . rename_i hl;refine⟨hl,fuel,fun i f hf=>?_⟩;cases hm:fs.toList.mapM fun f=>DataW.trod enc P w 0 sp hd fuel f.type ((cs.drop f.offset).take (P.cellsOf f.type)) with
     | none=>simp[hm] at h
     | some ys =>
       obtain⟨y,hy,_⟩:=J3Z hm i f hf;exact⟨y,hy⟩
   . simp at h
theorem Q0g {fuel:Nat} {t e:TypeId} {f0 f1:Field} {k:IntKind} {cs:List Value} {x:DataW H×List MemPlace} (σ:Sg) (ht:P.underlying t=some (.slice e)) (he:P.underlying e=some (.struct #[f0,f1])) (hc:P.cellsOf e=2)
 (o0:f0.offset=0) (o1:f1.offset=1) (t0:P.underlying f0.type=some (.int k)) (t1:P.underlying f1.type=some (.int k)) (c0:P.cellsOf f0.type=1) (c1:P.cellsOf f1.type=1)
 (h:DataW.trod enc P w 0 sp hd fuel t cs=some x) :
 ∃(u:Value) (l:List (Int×Int)),cs=[u]/\u.oneCell'=true/\Den (fun _=>False) w σ (.fz l.length 2 false (fun i j=>match j with|0=>.int k (List.getD l i (0,0)).1|_+1=>.int k (List.getD l i (0,0)).2)) u/\l.length<=maxLen /\
  ∀n∈l,(Lit.int k n.1).wf=true/\(Lit.int k n.2).wf=true:=by
 rcases J10 ht h with rfl | ⟨a,len,cap,n,rfl,h1,h2,h3⟩
 . exact⟨_,[],rfl,rfl,.fz0 _ _ _ _ _ _ (by simp),by simp,by simp⟩
 . have key:∀i,i<len->∃m:Int×Int,w.cells? 0 (a.add (i*2)) 2=some [.int k m.1,.int k m.2]/\(Lit.int k m.1).wf=true/\(Lit.int k m.2).wf=true:=by
    intro i hi;obtain⟨ecs,y,d1,d2⟩:=h3 i hi;rw[hc] at d1;obtain⟨hl,n',hf⟩:=J2s he d2;obtain⟨y0,z0⟩:=hf 0 f0 rfl;obtain⟨y1,z1⟩:=hf 1 f1 rfl;rw[o0,c0] at z0;rw[o1,c1] at z1;obtain⟨m0,e0,w0⟩:=J2t t0 z0;obtain⟨m1,e1,w1⟩:=J2t t1 z1;rw[hc] at hl
    match ecs,hl with
    | [q0,q1],_ =>
      simp at e0 e1;subst e0 e1;exact⟨(m0,m1),d1,w0,w1⟩
   let g:Nat->Int×Int:=fun i=>if h:i<len then Classical.choose (key i h) else (0,0)
   have hg:∀i (h:i<len),w.cells? 0 (a.add (i*2)) 2=some [.int k (g i).1,.int k (g i).2]/\(Lit.int k (g i).1).wf=true/\(Lit.int k (g i).2).wf=true:=fun i h=>by
    simp only[g,h,dite_true];exact Classical.choose_spec (key i h)
   refine⟨_,(List.range len).map g,rfl,rfl,?_,by simp;omega,?_⟩
   . simp only[List.length_map,List.length_range];refine J4I σ (by decide) h1 fun i hi=>⟨_,(hg i hi).1,fun j hj u hu=>?_⟩;have hgd:List.getD ((List.range len).map g) i (0,0)=g i:=by simp[hi]
     obtain rfl|rfl:j=0\/j=1:=by omega
     . simp at hu;subst hu;refine⟨rfl,?_⟩;simp only[hgd];exact .int _ _ _
     . simp at hu;subst hu;refine⟨rfl,?_⟩;simp only[hgd];exact .int _ _ _
   . intro m hm;obtain⟨i,hi,rfl⟩:=List.mem_map.1 hm;exact(hg i (by simpa using hi)).2
theorem J3d (hl:laidOutB P=true) {W W':World} {sp':Nat->Bool}:∀{ts:List TypeId} {vs:List Value} {ds:List (DataW H)} {ps:List MemPlace},
 (∀t∈ts,P.readableRec t=true/\t<P.types.size)->DataW.TrodAll enc P W 0 (fun _=>true) true ts vs ds ps->(∀p∈ps,W.sameAt W' p)->(∀p∈ps,sp' p.block=true)->DataW.TrodAll enc P W' 0 sp' true ts vs ds ps
 | [],vs,ds,ps,_,h,_,_=>by
   obtain⟨rfl,rfl,rfl⟩:=trodAll_nil h;rfl
 | t::ts,vs,ds,ps,ht,h,h1,h2=>by
   obtain⟨v,vs',d,ds',p,q,rfl,rfl,rfl,h3,h4⟩:=trodAll_cons h;refine⟨p,q,WideElems.Trod_stays hl (ht t (by simp)).1 (ht t (by simp)).2 h3 (fun x hx=>h1 x (by simp[hx])) (fun x hx=>h2 x (by simp[hx])),?_,rfl⟩;exact J3d hl (fun t' h'=>ht t' (by simp[h'])) h4 (fun x hx=>h1 x (by simp[hx])) (fun x hx=>h2 x (by simp[hx]))
theorem Q1u {f:Func} {s:ChangeSpec} {apart fresh handsOn:Bool} {W W':World} {args:Array Value} {ds gs:List (DataW H)} {before:List MemPlace} {tb:TypeId} (hl:laidOutB P=true) (hs:s.vars=[])
 (hW:DataW.Whole enc P f.params.toList s.vars apart W args.toList ds gs before) (hp:∀t∈f.params.toList,P.readableRec t=true/\t<P.types.size) (hr:f.resultTypes=#[tb]) (htb:P.underlying tb=some .bool)
 (h1:(s.fn H (ds++gs)).results=[.lit (.bool true)]) (h2:(s.fn H (ds++gs)).args=ds) (h3:(s.fn H (ds++gs)).vars=[]) (hb:Below W.heap.size W W') :
 s.post enc P f apart fresh handsOn false W args (.bool true) W':=by
 have hlt:=hW.lt;have hW0:=hW;obtain⟨p,q,hA,hV,rfl,_,_⟩:=hW;rw[hs] at hV;obtain⟨rfl,rfl⟩:=trodVars_none hV;have hlt':∀x∈p,x.block<W.heap.size:=fun x hx=>hlt x (by simp[hx]);refine⟨ds,[],p++[],[],p,[],hW0,?_,?_,?_,hb.frame _,fun h=>by cases h⟩
 . rw[hr,h1];exact trodAll_cons_mk (shut_bool htb _) trodAll_mk0
 . rw[h2];exact J3d hl hp hA (fun x hx=>hb.same (hlt' x hx)) (fun x hx=>by simpa using hlt' x hx)
 . rw[hs,h3];rfl
end
theorem J9n {P:Program} {f:FuncId} {vs:List V} {W:World} {args:Array Value} (h:Ret P f vs (.bool true)) (hl:vs.length=args.size)
 (hd:∀(i:Nat) (v:V) (u:Value),vs[i]?=some v->args[i]?=some u->Den (fun _=>False) W Sg.none v u) :
 Calls P f args W fun e W'=>e=.returned (.bool true)/\Below W.heap.size W W':=by
 have:=(h [] KS).out (fun _=>False) W Sg.none args.toList (by simpa using hl) (fun i v u hv hu=>hd i v u hv (by simpa using hu)) (J1V KS J58);rw[Array.toArray_toList] at this;refine this.mono ?_;rintro e W' ⟨M',σ',v,own',ks',u,rfl,hv,hh',tr,_,rfl,rfl,rfl⟩;cases hv;exact⟨rfl,tr.adv.os,tr.adv.tape.eq,tr.adv.output,tr.adv.size,fun b hb=>tr.adv.same b hb J03⟩
end Go.Eng
namespace Go.Eng
def CC2 (P:Program) (N:Nat) (sa sb:SC):Code->Code->Prop:=fun a b=>J0X P N a=some sa/\J0X P N b=some sb
theorem J7q {M:Nat->Prop} {w:World} {σ:Sg} {own:Own} {ks:List Nat} (h:J0G M w σ own ks) (o:Obj) :
 ∃M',J0G M' (w.alloc o) σ own ks/\Tr M w σ own M' (w.alloc o) σ own/\M' w.heap.size:=by
 let M':Nat->Prop:=fun n=>(M n/\n<w.heap.size)\/n=w.heap.size;have same:∀n,n<w.heap.size->(w.alloc o).heap[n]?=w.heap[n]?:=fun n hn=>J0P hn;have hE:Ext M w M' (w.alloc o):=⟨fun b hb hM=>⟨by rintro (⟨h,_⟩|h);exact hM h;omega,same b hb⟩,by simp⟩;have sameO:∀b,J0y w σ own b->(w.alloc o).heap[b]?=w.heap[b]?:=fun b hb=>same b (J0q h.own hb).2;have keep:∀k b n,(k,b)∈own->(J0i (w.alloc o) σ k b n↔J0i w σ k b n):=fun k b n hm=>J0J (Sg.le_refl _) (h.own.key hm) fun ob hob=>sameO ob ⟨k,b,hm,.inl hob⟩;refine⟨M',⟨⟨fun k b hm=>(h.own.blk k b hm).mono hE (Sg.le_refl _) fun n hn=>?_,h.own.nodup,fun k b k' b' n m1 m2 hne e1 e2=>h.own.apart k b k' b' n m1 m2 hne ((keep k b n m1).1 e1) ((keep k' b' n m2).1 e2)⟩,h.fresh,h.knodup⟩,⟨⟨rfl,.rf rfl rfl,rfl,by simp,fun b hb _=>same b hb,fun b hb _=>?_⟩,fun b hb=>.inl ((J2i h.own (Sg.le_refl _) sameO).1 hb),Sg.le_refl _⟩,.inr rfl⟩
 . obtain⟨m1,m2⟩:=J0q h.own ⟨k,b,hm,hn⟩;exact⟨.inl ⟨m1,m2⟩,same n m2⟩
 . constructor
   . rintro (h|h)
     . exact h.1
     . omega
   . intro h;exact .inl ⟨h,hb⟩
def Q4U (pe:Option (Option Nat)) (K:Out->Prop) (st:St):Prop :=
 match pe with
 | none=>K (.normal st)
 | some none=>K (.ret st)
 | some (some id)=>K (.exit id st)
def J9y (kL:Nat) (env:Env) (K:Out->Prop) (_:V) (own':Own) (ks':List Nat):Prop :=
 match look own' kL with
 | some (.loop st pe _ _ _ _)=>match st with
   | .busy=>False
   | _=>Q3I kL own' fun own''=>Q4U pe K ⟨env,own'',ks'⟩
 | _=>False
def J6A (P:Program) (N:Nat) (ps:List Nat) (sa sb:SC) (env:Env) (own:Own) (ks:List Nat) (K:Out->Prop) (fv:V):Prop :=
 match fv with
 | .fn (.func gf) false cap=>fresh ks fun kL ks'=>Chk (J06 P gf) (J0H P gf (.yld kL::cap) ((kL,.loop .ready none env N ps (CC2 P N sa sb))::own) ks' (J9y kL env K))
 | _=>False
def recB (kr:Option Nat) (own:Own):Bool:=match kr with
 | none=>true
 | some k=>match look own k with
   | some (.loop _ _ _ _ _ _)=>true
   | _=>false
def Q2r (P:Program) (N:Nat) (kr:Option Nat) (ps:List Nat) (sa sb:SC) (env:Env) (own:Own) (ks:List Nat) (K:Out->Prop) (fv:V):Prop :=
 match recB kr own with
 | true=>J6A P N ps sa sb env own ks K fv
 | false=>False
theorem J3G {kL:Nat} {env:Env} {K:Out->Prop} {v:V} {own':Own} {ks':List Nat} (h:J9y kL env K v own' ks') (hn:(own'.map (·.1)).Nodup) :
 ∃st pe e N ps C own'',(kL,.loop st pe e N ps C)∈own'/\st≠.busy/\(own''.map (·.1)).Nodup/\(∀k' c,(k',c)∈own''↔(k'≠kL/\(k',c)∈own')) /\
  Q4U pe K ⟨env,own'',ks'⟩:=by
 unfold J9y at h;split at h
 . rename_i st pe e N ps C hl;split at h
   . exact h.elim
   . rename_i hst;obtain⟨r,h1,h2,h3⟩:=J2c _ _ _ h hn;exact⟨st,pe,e,N,ps,C,r,J0c hl,hst,h2,h3,h1⟩
 . exact h.elim
theorem J9x {P:Program} {N:Nat} {ps:List Nat} {sa sb:SC} {env:Env} {own:Own} {ks:List Nat} {K:Out->Prop} {fv:V} (h:J6A P N ps sa sb env own ks K fv)
 {g0:Operand} {ca cb:Code} (hca:J0X P N ca=some sa) (hcb:J0X P N cb=some sb) {B:Nat} {σb:Sg} {M:Nat->Prop} {w:World} {σ:Sg} {act:Act} (hle:σb.le σ) (sim:Sim N B M w σ ⟨env,own,ks⟩ act)
 (hd:Den M w σ fv (act.eval g0)):(Code.rangeFunc g0 ps.toArray ca cb).wpIn (FR none) 0 P (XP N B σb M w σ own ks K) act w:=by
 unfold J6A at h;split at h
 case h_2=>exact h.elim
 rename_i gf cap;obtain⟨kL,ks',rfl,hcal,h⟩:=J0t h;generalize hge:act.eval g0=fu at hd;cases hd with
 | fn _ _ _ _ lb hcl hcd =>
 refine wpIn_rangeFunc ?_;intro fn _;obtain⟨rec,hrec⟩:∃rec:LoopState->Option Code->Loop,rec=fun st pe=>{ state:=st,pending:=pe,fn,tmps:=act.tmps,params:=ps.toArray,assign:=ca,body:=cb,defers:=w.heap.size }:=⟨_,rfl⟩;obtain⟨W0,hW0⟩:∃W0,w.alloc (.deferred (some []))=W0:=⟨_,rfl⟩;obtain⟨W1,hW1⟩:∃W1,W0.alloc (.loop (rec .ready none))=W1:=⟨_,rfl⟩;have hs0:W0.heap.size=w.heap.size+1:=by rw[<- hW0];simp
 have hs1:W1.heap.size=w.heap.size+2:=by rw[<- hW1];simp[hs0]
 have hL1:W1.heap[w.heap.size+1]?=some (.loop (rec .ready none)):=by
  rw[<- hW1,<- hs0];exact World.alloc_heap_new _ _
 have hK0:W0.heap[w.heap.size]?=some (.deferred (some [])):=by rw[<- hW0];exact World.alloc_heap_new w _
 have hK1:W1.heap[w.heap.size]?=some (.deferred (some [])):=by
  rw[<- hW1,J0P (by omega)];exact hK0
 obtain⟨M0,hh0,tr0,hM0⟩:=J7q sim.heap (.deferred (some []));rw[hW0] at hh0 tr0;have hE0:=tr0.ext sim.heap.own;obtain⟨M1,hh1,tr1⟩:=J1W (w':=W1) hh0 (some (w.heap.size+1),0,0) (.loop .ready none env N ps (CC2 P N sa sb)) (fun n e=>by simp at e;omega)
  (by rw[<- hW1];rfl) (by rw[<- hW1];exact .rf rfl rfl) (by rw[<- hW1];rfl) (by omega) (fun n hn=>by rw[<- hW1];exact J0P hn) (fun M' hM' hE=>by
    refine⟨w.heap.size+1,0,rec .ready none,Sg.set_same _ _ _,(hM' _).2 (.inr hs0.symm),hL1,by rw[hrec],by rw[hrec];rfl,by rw[hrec],?_,by rw[hrec];exact sim.size,?_⟩
    . rw[hrec];exact⟨hca,hcb⟩
    . intro t v hv;rw[hrec];exact((sim.env t v hv).mono hE0 (Sg.le_refl _)).mono hE (Sg.le_set _ (hh0.fresh kL (by simp))))
 have hσL:(σ.set kL (some (w.heap.size+1),0,0)) kL=some (some (w.heap.size+1),0,0):=Sg.set_same _ _ _;have kd1:Kd σ own (kL::ks') (σ.set kL (some (w.heap.size+1),0,0)) ((kL,.loop .ready none env N ps (CC2 P N sa sb))::own) ks':=J2U _ _ J13;have tr01:=tr0.trans tr1;have hE01:=tr01.ext sim.heap.own;generalize hσ1:σ.set kL (some (w.heap.size+1),0,0)=σ1 at *;refine⟨w.heap.size+1,[{ target:=.collected w.heap.size,args:=#[] }],W1,{ target:=.fn (.func gf) lb.toArray,args:=#[.func (.yield (w.heap.size+1)) #[] #[]] },W1,gf,
  #[.func (.yield (w.heap.size+1)) #[] #[]]++lb.toArray,W1,?_,?_,fun _ _=>trivial,?_,J2S none,J33 none ?_⟩
 . have:=run_enterLoop_outer (P:=P) (w:=w) fn act.tmps ps.toArray ca cb;rw[hW0] at this;rw[<- hW1,hrec];exact this
 . simp only[resolve,hge,fnB,fnC];simp[go_sem]
 . simp[invoke,go_sem,J1q hcal]
 . have e:#[Value.func (.yield (w.heap.size+1)) #[] #[]]++lb.toArray=(.func (.yield (w.heap.size+1)) #[] #[]::lb).toArray:=by
    apply Array.ext';simp
   rw[e];refine(h.out M1 W1 σ1 (.func (.yield (w.heap.size+1)) #[] #[]::lb) (by simp[hcl]) ?_ hh1).mono ?_
   . intro i v u hv hu;cases i with
     | zero=>simp at hv hu;subst hv hu;exact .yld _ _ _ _ _ hσL
     | succ i=>exact(hcd i v u (by simpa using hv) (by simpa using hu)).mono hE01 tr01.le
   . rintro e w3 ⟨M',σ',v,own',ks'',u,rfl,_,hh',tr,kd,hK⟩;obtain⟨st,pe,e0,N0,ps0,C0,own'',hm,hst,hnd,hdel,hK⟩:=J3G hK hh'.own.nodup;obtain⟨l,κ,r,z1,z2,z3,z4,z5,z6,z7,z8,z9⟩:=hh'.own.blk kL _ hm;have hl:l=w.heap.size+1:=by
      have:=tr.le kL _ hσL;rw[z1] at this;simp at this;exact this.1
     subst hl;have hend:=run_endLoop (P:=P) z3 (by rw[z4];exact hst);have trA:=tr01.trans tr;have hsz:=trA.adv.size;have hsz3:=tr.adv.size;have hbL:J0p σ' kL=some (w.heap.size+1):=by simp[J0p,z1]
     let w4:=w3.putObj (w.heap.size+1) (.loop { r with state:=.exhausted });have hother:∀b,b≠w.heap.size+1->w4.heap[b]?=w3.heap[b]?:=fun b hb=>World.putObj_heap_other hb;have hE4:Ext M' w3 M' w4:=⟨fun b hb hM=>⟨hM,hother b fun e=>hM (e▸z2)⟩,by simp[w4]⟩;have hne4:∀k b n,k≠kL->(k,b)∈own'->J0i w3 σ' k b n->n≠w.heap.size+1:=fun k b n q1 q2 hn e=>by
      subst e;exact hh'.own.apart k b kL _ _ q2 hm q1 hn (.inl hbL)
     have keep4:∀k b n,k≠kL->(k,b)∈own'->(J0i w4 σ' k b n↔J0i w3 σ' k b n):=fun k b n q1 q2=>J0J (Sg.le_refl _) (hh'.own.key q2) fun ob hob=>hother ob (hne4 k b ob q1 q2 (.inl hob));have hh4:J0G M' w4 σ' own'' ks'' :=
      ⟨⟨fun k b hkb=>by
         obtain⟨q1,q2⟩:=(hdel k b).1 hkb;refine(hh'.own.blk k b q2).mono hE4 (Sg.le_refl _) fun n hn=>⟨(J0q hh'.own ⟨k,b,q2,hn⟩).1,hother n fun e=>?_⟩;subst e;exact hh'.own.apart k b kL _ _ q2 hm q1 hn (.inl hbL),hnd,fun k b k' b' n m1 m2 hne e1 e2=>hh'.own.apart k b k' b' n ((hdel k b).1 m1).2 ((hdel k' b').1 m2).2 hne ((keep4 k b n ((hdel k b).1 m1).1 ((hdel k b).1 m1).2).1 e1) ((keep4 k' b' n ((hdel k' b').1 m2).1 ((hdel k' b').1 m2).2).1 e2)⟩,hh'.fresh,hh'.knodup⟩
     have ho'':∀n,J0y w4 σ' own'' n->J0y w3 σ' own' n:=fun n ⟨k,b,hkb,e⟩=>⟨k,b,((hdel k b).1 hkb).2,(keep4 k b n ((hdel k b).1 hkb).1 ((hdel k b).1 hkb).2).1 e⟩;have tr4:Tr0 M w σ own M' w4 σ' own'':=by
      refine⟨⟨trA.adv.os,⟨trA.adv.tape.eq,trA.adv.tape.le⟩,trA.adv.output,by simpa[w4] using hsz,fun b hb hn=>?_,trA.adv.muts⟩,fun b hb=>trA.new b (ho'' b hb)⟩;rw[hother b (by omega)];exact trA.adv.same b hb hn
     have hEw:Ext M w M' w4:=tr4.adv.ext fun b hb=>(J0q sim.heap.own hb).1;have sameW1:∀b,J0y w σ own b->W1.heap[b]?=w.heap[b]?:=fun b hb=>by
      have:=(J0q sim.heap.own hb).2;rw[<- hW1,J0P (by omega),<- hW0,J0P this]
     have hnoD:¬ J0y W1 σ1 ((kL,.loop .ready none env N ps (CC2 P N sa sb))::own) w.heap.size:=by
      intro ho;rcases J2I.1 ho with e|e
      . simp[J0i,J3P,J0p,hσL] at e
      . have:=(J0q sim.heap.own ((J2i sim.heap.own tr01.le sameW1).1 e)).2;simp at this
     have hM1D:M1 w.heap.size:=(tr1.adv.muts w.heap.size (by omega) (fun ho=>by
      have:=(J0q sim.heap.own ((J2i sim.heap.own (Sg.le_refl _) (fun b hb=>by
       have:=(J0q sim.heap.own hb).2;rw[<- hW0,J0P this])).1 ho)).2
      simp at this)).2 hM0
     have hD3:w4.heap[w.heap.size]?=some (.deferred (some [])):=by
      rw[hother _ (by omega),tr.adv.same w.heap.size (by omega) hnoD];exact hK1
     have gd:=sim.defers.tr0 tr4;have sim4:Sim N B M' w4 σ' ⟨env,own'',ks''⟩ { act with defers:={ target:=.collected w.heap.size,args:=#[] }::act.defers }:=by
      refine⟨fun t v hv=>(sim.env t v hv).mono hEw (Sg.le_trans trA.le (Sg.le_refl _)),hh4,sim.size,⟨gd.base,fun d hd=>?_,?_⟩⟩
      . rcases List.mem_cons.1 hd with e|e
        . refine⟨w.heap.size,e,sim.defers.base,hD3,fun ho=>?_,(tr.adv.muts w.heap.size (by omega) hnoD).2 hM1D⟩;rcases tr.new _ (ho'' _ ho) with x|x
          . exact hnoD x
          . omega
        . exact gd.mark d e
      . simp only[List.nodup_cons];refine⟨fun hm=>?_,gd.nodup⟩;obtain⟨D,e,_,q2,_⟩:=sim.defers.mark _ hm;simp at e;subst e;have:=lt_of_getElem? q2;omega
     have kdA:=kd1.trans kd;have kd4:Kd σ own (kL::ks') σ' own'' ks'':=⟨kdA.1,kdA.2.1,fun k hk=>by
      obtain⟨⟨q,c⟩,x1,x2⟩:=List.mem_map.1 hk;simp only at x2;subst x2;exact kdA.2.2 q (List.mem_map.2 ⟨_,((hdel q c).1 x1).2,rfl⟩)⟩
     refine⟨r.pending,w4,hend,?_⟩;rw[z5];have le4:=Sg.le_trans hle trA.le;cases pe with
     | none=>exact⟨M',σ',_,sim4,tr4,kd4,le4,hK⟩
     | some j =>
       cases j with
       | none=>exact wpIn_ret ⟨M',σ',_,sim4,tr4,kd4,le4,hK⟩
       | some id=>exact wpIn_exit ⟨M',σ',_,sim4,tr4,kd4,le4,hK⟩
theorem Q1X {P:Program} {w:World} {l:Nat} {r:Loop} (h:w.heap[l]?=some (.loop r)) (fn:FuncId) (tmps:Array Value) (ps:Array Tmp) (ca cb:Code) :
 (Instr.enterLoop fn tmps ps ca cb (some l)).run P w =
   .ok (w.heap.size,[]) (w.alloc (.loop { state:=.ready,pending:=none,fn:=fn,tmps:=tmps,params:=ps,assign:=ca,body:=cb,defers:=r.defers })):=by
 simp[Instr.enterLoop,Sem.run_bind,run_getLoop h,Result.andThen]
theorem Q1s {P:Program} {N:Nat} {ps:List Nat} {sa sb:SC} {env:Env} {own:Own} {ks:List Nat} {K:Out->Prop} {fv:V} (h:J6A P N ps sa sb env own ks K fv)
 {g0:Operand} {ca cb:Code} (hca:J0X P N ca=some sa) (hcb:J0X P N cb=some sb) {B:Nat} {σb:Sg} {M:Nat->Prop} {w:World} {σ:Sg} {act:Act} (hle:σb.le σ) (sim:Sim N B M w σ ⟨env,own,ks⟩ act)
 (hd:Den M w σ fv (act.eval g0)) {l0:Nat} {r0:Loop} (h0:w.heap[l0]?=some (.loop r0)):(Code.rangeFunc g0 ps.toArray ca cb).wpIn (FR (some l0)) 0 P (XP N B σb M w σ own ks K) act w:=by
 unfold J6A at h;split at h
 case h_2=>exact h.elim
 rename_i gf cap;obtain⟨kL,ks',rfl,hcal,h⟩:=J0t h;generalize hge:act.eval g0=fu at hd;cases hd with
 | fn _ _ _ _ lb hcl hcd =>
 refine wpIn_rangeFunc ?_;intro fn _;obtain⟨rec,hrec⟩:∃rec:LoopState->Option Code->Loop,rec=fun st pe=>{ state:=st,pending:=pe,fn,tmps:=act.tmps,params:=ps.toArray,assign:=ca,body:=cb,defers:=r0.defers }:=⟨_,rfl⟩;obtain⟨W1,hW1⟩:∃W1,w.alloc (.loop (rec .ready none))=W1:=⟨_,rfl⟩;have hs1:W1.heap.size=w.heap.size+1:=by rw[<- hW1];simp
 have hL1:W1.heap[w.heap.size]?=some (.loop (rec .ready none)):=by
  rw[<- hW1];exact World.alloc_heap_new _ _
 obtain⟨M1,hh1,tr1⟩:=J1W (w':=W1) sim.heap (some (w.heap.size),0,0) (.loop .ready none env N ps (CC2 P N sa sb)) (fun n e=>by simp at e;omega)
  (by rw[<- hW1];rfl) (by rw[<- hW1];exact .rf rfl rfl) (by rw[<- hW1];rfl) (by omega) (fun n hn=>by rw[<- hW1];exact J0P hn) (fun M' hM' hE=>by
    refine⟨w.heap.size,0,rec .ready none,Sg.set_same _ _ _,(hM' _).2 (.inr rfl),hL1,by rw[hrec],by rw[hrec];rfl,by rw[hrec],?_,by rw[hrec];exact sim.size,?_⟩
    . rw[hrec];exact⟨hca,hcb⟩
    . intro t v hv;rw[hrec];exact(sim.env t v hv).mono hE (Sg.le_set _ (sim.heap.fresh kL (by simp))))
 have hσL:(σ.set kL (some (w.heap.size),0,0)) kL=some (some (w.heap.size),0,0):=Sg.set_same _ _ _;have kd1:Kd σ own (kL::ks') (σ.set kL (some (w.heap.size),0,0)) ((kL,.loop .ready none env N ps (CC2 P N sa sb))::own) ks':=J2U _ _ J13;have tr01:=tr1;have hE01:=tr01.ext sim.heap.own;generalize hσ1:σ.set kL (some (w.heap.size),0,0)=σ1 at *;refine⟨w.heap.size,[],W1,{ target:=.fn (.func gf) lb.toArray,args:=#[.func (.yield (w.heap.size)) #[] #[]] },W1,gf,
  #[.func (.yield (w.heap.size)) #[] #[]]++lb.toArray,W1,?_,?_,fun _ _=>trivial,?_,J2S _,J33 _ ?_⟩
 . rw[<- hW1,hrec];exact Q1X h0 fn act.tmps ps.toArray ca cb
 . simp only[resolve,hge,fnB,fnC];simp[go_sem]
 . simp[invoke,go_sem,J1q hcal]
 . have e:#[Value.func (.yield (w.heap.size)) #[] #[]]++lb.toArray=(.func (.yield (w.heap.size)) #[] #[]::lb).toArray:=by
    apply Array.ext';simp
   rw[e];refine(h.out M1 W1 σ1 (.func (.yield (w.heap.size)) #[] #[]::lb) (by simp[hcl]) ?_ hh1).mono ?_
   . intro i v u hv hu;cases i with
     | zero=>simp at hv hu;subst hv hu;exact .yld _ _ _ _ _ hσL
     | succ i=>exact(hcd i v u (by simpa using hv) (by simpa using hu)).mono hE01 tr01.le
   . rintro e w3 ⟨M',σ',v,own',ks'',u,rfl,_,hh',tr,kd,hK⟩;obtain⟨st,pe,e0,N0,ps0,C0,own'',hm,hst,hnd,hdel,hK⟩:=J3G hK hh'.own.nodup;obtain⟨l,κ,r,z1,z2,z3,z4,z5,z6,z7,z8,z9⟩:=hh'.own.blk kL _ hm;have hl:l=w.heap.size:=by
      have:=tr.le kL _ hσL;rw[z1] at this;simp at this;exact this.1
     subst hl;have hend:=run_endLoop (P:=P) z3 (by rw[z4];exact hst);have trA:=tr01.trans tr;have hsz:=trA.adv.size;have hsz3:=tr.adv.size;have hbL:J0p σ' kL=some (w.heap.size):=by simp[J0p,z1]
     let w4:=w3.putObj (w.heap.size) (.loop { r with state:=.exhausted });have hother:∀b,b≠w.heap.size->w4.heap[b]?=w3.heap[b]?:=fun b hb=>World.putObj_heap_other hb;have hE4:Ext M' w3 M' w4:=⟨fun b hb hM=>⟨hM,hother b fun e=>hM (e▸z2)⟩,by simp[w4]⟩;have hne4:∀k b n,k≠kL->(k,b)∈own'->J0i w3 σ' k b n->n≠w.heap.size:=fun k b n q1 q2 hn e=>by
      subst e;exact hh'.own.apart k b kL _ _ q2 hm q1 hn (.inl hbL)
     have keep4:∀k b n,k≠kL->(k,b)∈own'->(J0i w4 σ' k b n↔J0i w3 σ' k b n):=fun k b n q1 q2=>J0J (Sg.le_refl _) (hh'.own.key q2) fun ob hob=>hother ob (hne4 k b ob q1 q2 (.inl hob));have hh4:J0G M' w4 σ' own'' ks'' :=
      ⟨⟨fun k b hkb=>by
         obtain⟨q1,q2⟩:=(hdel k b).1 hkb;refine(hh'.own.blk k b q2).mono hE4 (Sg.le_refl _) fun n hn=>⟨(J0q hh'.own ⟨k,b,q2,hn⟩).1,hother n fun e=>?_⟩;subst e;exact hh'.own.apart k b kL _ _ q2 hm q1 hn (.inl hbL),hnd,fun k b k' b' n m1 m2 hne e1 e2=>hh'.own.apart k b k' b' n ((hdel k b).1 m1).2 ((hdel k' b').1 m2).2 hne ((keep4 k b n ((hdel k b).1 m1).1 ((hdel k b).1 m1).2).1 e1) ((keep4 k' b' n ((hdel k' b').1 m2).1 ((hdel k' b').1 m2).2).1 e2)⟩,hh'.fresh,hh'.knodup⟩
     have ho'':∀n,J0y w4 σ' own'' n->J0y w3 σ' own' n:=fun n ⟨k,b,hkb,e⟩=>⟨k,b,((hdel k b).1 hkb).2,(keep4 k b n ((hdel k b).1 hkb).1 ((hdel k b).1 hkb).2).1 e⟩;have tr4:Tr0 M w σ own M' w4 σ' own'':=by
      refine⟨⟨trA.adv.os,⟨trA.adv.tape.eq,trA.adv.tape.le⟩,trA.adv.output,by simpa[w4] using hsz,fun b hb hn=>?_,trA.adv.muts⟩,fun b hb=>trA.new b (ho'' b hb)⟩;rw[hother b (by omega)];exact trA.adv.same b hb hn
     have hEw:Ext M w M' w4:=tr4.adv.ext fun b hb=>(J0q sim.heap.own hb).1;have gd:=sim.defers.tr0 tr4;have sim4:Sim N B M' w4 σ' ⟨env,own'',ks''⟩ act:=⟨fun t v hv=>(sim.env t v hv).mono hEw (Sg.le_trans trA.le (Sg.le_refl _)),hh4,sim.size,gd⟩;have kdA:=kd1.trans kd;have kd4:Kd σ own (kL::ks') σ' own'' ks'':=⟨kdA.1,kdA.2.1,fun k hk=>by
      obtain⟨⟨q,c⟩,x1,x2⟩:=List.mem_map.1 hk;simp only at x2;subst x2;exact kdA.2.2 q (List.mem_map.2 ⟨_,((hdel q c).1 x1).2,rfl⟩)⟩
     refine⟨r.pending,w4,hend,?_⟩;have eact:({ act with defers:=[]++act.defers }:Act)=act:=rfl;rw[eact];rw[z5];have le4:=Sg.le_trans hle trA.le;cases pe with
     | none=>exact⟨M',σ',_,sim4,tr4,kd4,le4,hK⟩
     | some j =>
       cases j with
       | none=>exact wpIn_ret ⟨M',σ',_,sim4,tr4,kd4,le4,hK⟩
       | some id=>exact wpIn_exit ⟨M',σ',_,sim4,tr4,kd4,le4,hK⟩
theorem J46 {P:Program} {N:Nat} {kr:Option Nat} {g:X} {ps:List Nat} {sa sb:SC} {env:Env} {own:Own} {ks:List Nat} {K:Out->Prop}
 (h:g.get env (Q2r P N kr ps sa sb env own ks K)):Q0B P N kr g ps sa sb env own ks K:=by
 constructor;intro r σb hr g0 ca cb hg0 hca hcb B M w σ act hle sim;obtain⟨fv,hF,hfv⟩:=J0b hg0 h;clear h;have hd:=hfv M w σ act (fun n _ v hv=>sim.env n v hv);unfold Q2r at hF;split at hF
 case h_2=>exact hF.elim
 rename_i hrec;rcases hr with ⟨_,rfl⟩ | ⟨k,l,κ,rfl,rfl,hk⟩
 . exact J9x hF hca hcb hle sim hd
 . simp only[recB] at hrec;split at hrec
   case h_2=>cases hrec
   rename_i hl;obtain⟨l',κ',r0,z1,_,z3,_⟩:=sim.heap.own.blk k _ (J0c hl);rw[hle k _ hk] at z1;simp only[Option.some.injEq,Prod.mk.injEq] at z1;obtain⟨rfl,_⟩:=z1;exact Q1s hF hca hcb hle sim hd z3
def Q2W:List Nat->List V->Env->Env
 | p::ps,v::vs,env=>Q2W ps vs ((p,v)::env)
 | _,_,env=>env
theorem J7B {M:Nat->Prop} {w:World} {σ:Sg}:∀(ps:List Nat) (vs:List V) (us:List Value) (env:Env) (tmps:Array Value),J2n M w σ env { tmps:=tmps,defers:=[] }->vs.length=us.length->J9K tmps.size ps=true ->
 (∀(i:Nat) (v:V) (u:Value),vs[i]?=some v->us[i]?=some u->Den M w σ v u) ->
 J2n M w σ (Q2W ps vs env) { tmps:=(ps.zip us).foldl (fun t (p,v)=>t.setIfInBounds p v) tmps,defers:=[] }/\((ps.zip us).foldl (fun(t:Array Value) (p,v)=>t.setIfInBounds p v) tmps).size=tmps.size
 | [],vs,us,env,tmps,he,_,_,_=>⟨by cases vs<;>simpa[Q2W] using he,by simp⟩
 | p::ps,[],us,env,tmps,he,hl,_,_=>by
   cases us with
   | nil=>exact⟨by simpa[Q2W] using he,by simp⟩
   | cons=>simp at hl
 | p::ps,v::vs,us,env,tmps,he,hl,hlt,hd=>by
   cases us with
   | nil=>simp at hl
   | cons u us =>
     unfold J9K at hlt;split at hlt
     . rename_i hp;have hp:=Nat.le_of_ble_eq_true hp;have he':=he.put (d:=p) (v:=v) (u:=u) hp (hd 0 v u (by simp) (by simp));have:=J7B ps vs us ((p,v)::env) (tmps.setIfInBounds p u) (by simpa[Act.put] using he') (by simpa using hl) (by simpa using hlt) (fun i v u hv hu=>hd (i+1) v u (by simpa using hv) (by simpa using hu));simpa[Q2W] using this
     . cases hlt
def J6x (k:Nat) (st:LoopState) (pe:Option (Option Nat)) (v:V) (K:V->Own->List Nat->Prop) (own:Own) (ks:List Nat):Prop :=
 match look own k with
 | some (.loop _ _ env N ps C)=>J8v k (.loop st pe env N ps C) own fun own=>K v own ks
 | _=>False
def Q4B (k:Nat) (K:V->Own->List Nat->Prop) (o:Out):Prop :=
 match o with
 | .normal ⟨_,own,ks⟩=>J6x k .ready none (.bool true) K own ks
 | .ret ⟨_,own,ks⟩=>J6x k .done (some none) (.bool false) K own ks
 | .exit id ⟨_,own,ks⟩=>J6x k .done (some (some id)) (.bool false) K own ks
def Q2R (k:Nat) (b:CC) (K:Out->Prop) (o:Out):Prop :=
 match o with
 | .normal ⟨env,own,ks⟩=>match look own k with
   | some (.loop .ready pe e N ps C)=>J8v k (.loop .busy pe e N ps C) own fun own=>b env own ks K
   | _=>False
 | _=>False
theorem J49 {M:Nat->Prop} {w:World} {σ:Sg} {own own':Own} {ks:List Nat} (hh:J0G M w σ own ks) {k l base κ:Nat} {st st':LoopState} {pe pe':Option (Option Nat)} {e:Env} {N:Nat} {ps:List Nat} {C:Code->Code->Prop}
 (hm:(k,.loop st pe e N ps C)∈own) (hk:σ k=some (some l,base,κ)) (hu1:own'.map (·.1)=own.map (·.1)) (hu2:∀k' c,(k',c)∈own'↔(k'=k/\c=.loop st' pe' e N ps C)\/(k'≠k/\(k',c)∈own)) :
 ∃r,w.heap[l]?=some (.loop r)/\r.state=st/\r.pending=pe.map J4u/\J0G M (w.putObj l (.loop { r with state:=st',pending:=pe'.map J4u })) σ own' ks/\Tr M w σ own M (w.putObj l (.loop { r with state:=st',pending:=pe'.map J4u })) σ own':=by
 obtain⟨l',κ',r,z1,z2,z3,z4,z5,z6,z7,z8,z9⟩:=hh.own.blk k _ hm;rw[hk] at z1;simp only[Option.some.injEq,Prod.mk.injEq] at z1;obtain⟨rfl,rfl,rfl⟩:=z1;have hlt:=lt_of_getElem? z3;obtain⟨a1,a2⟩:=J1n (w':=w.putObj l (.loop { r with state:=st',pending:=pe'.map J4u })) hh k l _ (.loop st' pe' e N ps C) hm (.inl (by simp[J0p,hk])) hu2 hu1 rfl (J0R.rf rfl rfl) rfl (by simp)
  (fun n hn=>World.putObj_heap_other hn) (fun hE=>⟨l,κ,_,hk,z2,World.putObj_heap_same hlt,rfl,rfl,z6,z7,z8,fun t v hv=>(z9 t v hv).mono hE (Sg.le_refl _)⟩)
 exact⟨r,z3,z4,z5,a1,a2⟩
theorem J9V {σ:Sg} {own own':Own} {ks:List Nat} (h:own'.map (·.1)=own.map (·.1)):Kd σ own ks σ own' ks:=⟨fun _ h=>h,fun _ h _=>h,fun k hk=>.inl (by rw[h] at hk;exact hk)⟩
theorem J3p {P:Program} (hm:P.follows .mixedOrders=true) {k:Nat} {vs:List V} {own:Own} {ks:List Nat} {K:V->Own->List Nat->Prop} {st:LoopState} {pe:Option (Option Nat)} {env:Env} {N:Nat} {ps:List Nat} {sa sb:SC}
 (hlook:look own k=some (.loop st pe env N ps (CC2 P N sa sb))) (hchk:(J9K N ps&&Nat.beq ps.length vs.length)=true)
 (h:vcR P N ⟨ks,some k⟩ sa (Q2W ps vs env) own ks (Q2R k (vcR P N ⟨ks,some k⟩ sb) (Q4B k K))):Q2S P k vs own ks K:=by
 simp only[Bool.and_eq_true] at hchk;obtain⟨hps,hlen⟩:=hchk;have hlen:=Nat.eq_of_beq_eq_true hlen;rw[J4Z,J4Z] at h;constructor;intro M w σ us l base κ hl hd hh hk;obtain⟨l',κ',r,z1,z2,z3,z4,z5,z6,z7,z8,z9⟩:=hh.own.blk k _ (J0c hlook);have z1':=z1;rw[hk] at z1';simp only[Option.some.injEq,Prod.mk.injEq] at z1';obtain⟨rfl,rfl,rfl⟩:=z1';have hy:=run_yield (P:=P) (args:=us.toArray) z3 (by rw[z6];simp;omega);refine⟨r.fn,_,r.assign,r.body,hy,roundIn_of_wpIn trivial ?_⟩;obtain⟨e1,e2⟩:=J7B ps vs us env r.tmps z9 hl (by rw[z8];exact hps) hd;have etm:(r.params.zip us.toArray).foldl (fun tmps (t,a)=>tmps.setIfInBounds t a) r.tmps=(ps.zip us).foldl (fun(t:Array Value) (p,v)=>t.setIfInBounds p v) r.tmps:=by
  rw[z6];simp
 rw[etm];have sim:Sim N w.heap.size M w σ ⟨Q2W ps vs env,own,ks⟩ { tmps:=(ps.zip us).foldl (fun(t:Array Value) (p,v)=>t.setIfInBounds p v) r.tmps,defers:=[] }:=⟨e1,hh,by rw[<- z8];exact e2,.nil (Nat.le_refl _)⟩;refine wpIn_mono (J2E hm (bk:=⟨ks,some k⟩) (σb:=σ) hh.fresh (some l) (.inr ⟨k,l,_,rfl,rfl,z1⟩) r.assign sa _ _ own ks M w σ _ z7.1 h sim (Sg.le_refl _)) ?_;intro e a1 w1 hx;obtain⟨M1,σ1,⟨env1,own1,ks1⟩,s1,t1,q1,l1,k1⟩:=hx;cases e<;>try exact k1.elim
 case normal =>
 simp only[Q2R] at k1;split at k1
 case h_2=>exact k1.elim
 rename_i pe1 e1' N1 ps1 C1 hlook1;obtain⟨own2,k2,hu1,hu2⟩:=J0U _ _ _ _ k1 s1.heap.own.nodup ⟨_,J0c hlook1⟩;have hk1:σ1 k=some (some l,0,κ):=l1 k _ hk;obtain⟨r1,y1,y2,y3,y4,y5⟩:=J49 (st':=.busy) (pe':=pe1) s1.heap (J0c hlook1) hk1 hu1 hu2;have hbr:=run_beginRound (P:=P) y1 y2;have er:({ r1 with state:=.busy,pending:=pe1.map J4u }:Loop)={ r1 with state:=.busy }:=by rw[<- y3]
 rw[er] at y4 y5;refine⟨_,hbr,?_⟩;have s2:Sim N w.heap.size M1 (w1.putObj l (.loop { r1 with state:=.busy })) σ1 ⟨env1,own2,ks1⟩ a1:=⟨s1.env.mono (y5.ext s1.heap.own) (Sg.le_refl _),y4,s1.size,s1.defers.tr y5⟩;refine wpIn_mono (J2E hm (bk:=⟨ks,some k⟩) (σb:=σ) hh.fresh (some l) (.inr ⟨k,l,_,rfl,rfl,z1⟩) r.body sb _ env1 own2 ks1 M1 _ σ1 a1 z7.2 k2 s2 l1) ?_;intro e a3 w3 hx;obtain⟨M3,σ3,⟨env3,own3,ks3⟩,s3,t3,q3,l3,k3⟩:=hx;have hk3:σ3 k=some (some l,0,κ):=l3 k _ hk;have t13:=(t1.trans y5.t0).trans t3;have q13:=(q1.trans (J9V hu1)).trans q3;have fin:∀(jump:Option Code) (st:LoopState) (pe:Option (Option Nat)) (b:Bool),jump=pe.map J4u->b=jump.isNone->st=(if jump.isNone then .ready else .done)->J6x k st pe (.bool b) K own3 ks3 ->
  ∃v w',(Instr.endRound l jump).run P w3=.ok v w'/\∃M' σ' v' own' ks' u,Ending.returned v=.returned u/\Den M' w' σ' v' u/\J0G M' w' σ' own' ks'/\Tr M w σ own M' w' σ' own'/\Kd σ own ks σ' own' ks'/\K v' own' ks':=by
  intro jump st pe b e1 e2 e3 hE;unfold J6x at hE;split at hE
  case h_2=>exact hE.elim
  rename_i st0 pe0 env0 N0 ps0 C0 hlook3;obtain⟨own4,hK,hv1,hv2⟩:=J0U _ _ _ _ hE s3.heap.own.nodup ⟨_,J0c hlook3⟩;obtain⟨r3,x1,x2,x3,x4,x5⟩:=J49 (st':=st) (pe':=pe) s3.heap (J0c hlook3) hk3 hv1 hv2;have hen:=run_endRound (P:=P) jump x1;refine⟨_,_,hen,M3,σ3,.bool b,own4,ks3,.bool b,by rw[e2],.bool _ _,?_,?_,q13.trans (J9V hv1),hK⟩
  . rw[<- e3,e1];exact x4
  . rw[<- e3,e1];have:=t13.trans x5.t0;exact⟨this.adv,this.new,l3⟩
 cases e with
 | normal=>exact fin none .ready none true rfl rfl rfl k3
 | ret=>exact fin (some .ret) .done (some none) false rfl rfl rfl k3
 | exit id=>exact fin (some (.exit id)) .done (some (some id)) false rfl rfl rfl k3
 | goto t=>exact k3.elim
 | panic ch=>exact k3.elim
 | outgrown=>exact k3.elim
def J2T:Own->Nat->Blk->Own
 | [],_,_=>[]
 | (k,b)::r,t,x=>match Nat.beq k t with|true=>(k,x)::r|false=>(k,b)::J2T r t x
theorem J0A {P:Program} (hm:P.follows .mixedOrders=true) {N:Nat} {bk:BK} {b:SC} {env:Env} {own:Own} {ks:List Nat} {K:Out->Prop} (live chg ks0 okeys:List Nat) {α:Type} (J1Z:α->Env) (ownf:Own->α->Own) (I:Nat->α->Prop) (n0:Nat) (x0:α)
 (h0:I n0 x0)
 (hchg:((chg.all fun k=>J09 k bk.ks&&(J09 k (own.map (·.1)) || J09 k ks))&&(ks0.all fun k=>J09 k ks)&&(okeys.all fun k=>J09 k (own.map (·.1)) || J09 k ks))=true)
 (hkeys:∀x,(ownf own x).map (·.1)=okeys)
 (hw0:J8U N chg ⟨env,own,ks⟩ ⟨J1Z x0++J2X env live,ownf own x0,ks0⟩)
 (step:∀n x,I n x->vcR P N bk b (J1Z x++J2X env live) (ownf own x) ks0 (Q1R N chg (fun x=>⟨J1Z x++J2X env live,ownf own x,ks0⟩) I n K)):J60 P N bk b env own ks K :=
 J1H hm live chg ks0 okeys J1Z (ownf own) I n0 x0 h0 hchg hkeys hw0 step
def unrK (ih:CC) (K:Out->Prop) (o:Out):Prop :=
 match o with
 | .normal ⟨env,own,ks⟩=>ih env own ks K
 | .exit id st=>K (.exit id st)
 | .ret st=>K (.ret st)
def unr (P:Program) (N:Nat) (bk:BK) (b:SC) (fuel:Nat):CC:=@Nat.rec (fun _=>CC) (fun _ _ _ _=>False) (fun _ ih env own ks K=>vcR P N bk b env own ks (unrK ih K)) fuel
theorem J04 {P:Program} (hm:P.follows .mixedOrders=true) {N:Nat} {bk:BK} {b:SC} {env:Env} {own:Own} {ks:List Nat} {K:Out->Prop} (fuel:Nat) (h:unr P N bk b fuel env own ks K):J60 P N bk b env own ks K:=by
 constructor;intro r σb hr c hc B M w σ a hbk hle0 sim fb k cs hro hbf hroom;have key:∀(fuel:Nat) (env:Env) (own₁:Own) (ks₁:List Nat) (M₁:Nat->Prop) (w₁:World) (σ₁:Sg) (a₁:Act),unr P N bk b fuel env own₁ ks₁ K->Sim N B M₁ w₁ σ₁ ⟨env,own₁,ks₁⟩ a₁->σb.le σ₁ ->
  ∃e a' w',XP N B σb M₁ w₁ σ₁ own₁ ks₁ K e a' w'/\ArrivesIn (Machine.fenced P (FR r)) P (lone (fb.atR a₁ (.code c::.inLoop c::k)) cs w₁) fb k cs e a' w':=by
  intro fuel
  induction fuel with
  | zero=>intro env own₁ ks₁ M₁ w₁ σ₁ a₁ h _ _;exact h.elim
  | succ fuel ih =>
    intro env own₁ ks₁ M₁ w₁ σ₁ a₁ h hs hle;have h':vcR P N bk b env own₁ ks₁ (unrK (unr P N bk b fuel) K):=h;rw[J4Z] at h';have hb:=J2E hm hbk r hr c _ _ env own₁ ks₁ M₁ w₁ σ₁ a₁ hc h' hs hle;obtain⟨e,a₂,w₂,hq,harr⟩:=hb fb (.inLoop c::k) cs hro hbf hroom;obtain⟨M₂,σ₂,⟨env₂,own₂,ks₂⟩,s2,t2,q2,l2,k2⟩:=hq;cases e with
    | normal =>
      obtain⟨e',a',w',hx,harr'⟩:=ih env₂ own₂ ks₂ M₂ w₂ σ₂ a₂ k2 s2 l2;exact⟨e',a',w',XP.tr t2 q2 hx,.of_steps (StepsIn.trans harr (.one (fenced_calm hbf hroom rfl) stepR_inLoop)) harr'⟩
    | exit id=>exact⟨_,a₂,w₂,⟨M₂,σ₂,_,s2,t2,q2,l2,k2⟩,.pass (x:=.inLoop c) rfl (fun _ _=>.inl (by simp)) harr⟩
    | ret=>exact⟨_,a₂,w₂,⟨M₂,σ₂,_,s2,t2,q2,l2,k2⟩,.pass (x:=.inLoop c) rfl (fun _ _=>.inl (by simp)) harr⟩
    | goto l=>exact k2.elim
    | panic ch=>exact k2.elim
    | outgrown=>exact k2.elim
 obtain⟨e,a',w',hx,harr⟩:=key fuel env own ks M w σ a h sim hle0;exact⟨e,a',w',hx,.of_steps (.one (fenced_calm hbf hroom rfl) stepR_loop) harr⟩
end Go.Eng
