import Derived.Test.YtbceaajfhcgnjaaGreatEngQ
import Derived.Carry
import Derived.ProofKit
import Derived.OpenShut
namespace Go.Eng
theorem LLe.dens {cs cs':List V} (h:LLe cs cs') {M:Nat->Prop} {w:World} {us:List Value} (hl:cs.length=us.length) (hd:∀(i:Nat) (v:V) (u:Value),cs[i]?=some v->us[i]?=some u->Den M w Sg.none v u) :
 cs'.length=us.length/\∀(i:Nat) (v:V) (u:Value),cs'[i]?=some v->us[i]?=some u->Den M w Sg.none v u:=by
 obtain⟨l,hr⟩:=h.out;refine⟨by omega,fun i v u hv hu=>?_⟩;have hi:i<cs.length:=by rw[<- l];exact(List.getElem?_eq_some_iff.1 hv).1
 exact(hr i cs[i] v (by simp[hi]) hv).out M w u (hd i cs[i] u (by simp[hi]) hu)
theorem call_frz {P:Program} {f:FuncId} {args args0:List V} {X:V} {own:Own} {ks:List Nat} {K:V->Own->List Nat->Prop} (keys:List Nat) (h:Ret P f args0 X)
 (hb:bors (keepK keys own) args fun args'=>LLe args' args0) (hK:K X (dropK keys own) ks):CallF P f args own ks K:=by
 obtain⟨args',hle,hl,hs⟩:=bors_sound hb;constructor;intro M w σ us hlen hd hh;obtain⟨s2,hM⟩:=freeze_sim hh keys;have ho:=keep_sim hh keys;obtain⟨d1,d2⟩:=hle.dens (M:=lent M w σ (keepK keys own)) (w:=w) (us:=us) (by omega) (fun i v' u hv' hu=>by
  have hi:i<args.length:=by rw[<- hl];exact(List.getElem?_eq_some_iff.1 hv').1
  exact hs M w σ ho i args[i] v' u (by simp[hi]) hv' (hd i args[i] u (by simp[hi]) hu))
 refine((h (dropK keys own) ks).out (lent M w σ (keepK keys own)) w σ us d1 (fun i v u hv hu=>(d2 i v u hv hu).mono (Ext.mk (fun _ _ h=>⟨h,rfl⟩) (Nat.le_refl _)) (Sg.none_le σ)) s2).mono ?_;rintro e w' ⟨M',σ',v,own',ks',u,rfl,hv,hh',tr,kd,rfl,rfl,rfl⟩;have hsub:∀b,owned w σ (dropK keys own) b->owned w σ own b:=fun b ⟨k,c,h1,h2⟩=>⟨k,c,(dropK_mem.1 h1).1,h2⟩;refine⟨M',σ',_,_,_,u,rfl,hv,hh',⟨⟨tr.adv.os,tr.adv.tape,tr.adv.output,tr.adv.size,fun b hb hn=>tr.adv.same b hb fun x=>hn (hsub b x),fun b hb hn=>(tr.adv.muts b hb fun x=>hn (hsub b x)).trans (hM b hn)⟩,?_,tr.le⟩,⟨kd.1,kd.2.1,fun k hk=>?_⟩,hK⟩
 . intro b hb;rcases tr.new b hb with x|x
   . exact .inl (hsub b x)
   . exact .inr x
 . rcases kd.2.2 k hk with x|x
   . obtain⟨⟨q,c⟩,h1,h2⟩:=List.mem_map.1 x;exact .inl (List.mem_map.2 ⟨_,(dropK_mem.1 h1).1,h2⟩)
   . exact .inr x
end Go.Eng
namespace Go.Eng
open Go.ChangeShapes Go.WideShapes Go.ChangeAt Go.RowKit
section
variable {H:Type} {enc:TypeId×Value->H} {P:Program} {w:World} {sp:Nat->Bool} {hd:Bool}
theorem mapM_get {α β:Type} {f:α->Option β}:∀{l:List α} {r:List β},l.mapM f=some r->∀(i:Nat) (x:α),l[i]?=some x->∃y,f x=some y/\r[i]?=some y
 | [],r,h,i,x,hx=>by simp at hx
 | a::l,r,h,i,x,hx=>by
   rw[List.mapM_cons] at h;cases ha:f a with
   | none=>simp[ha] at h
   | some y =>
     cases hl:l.mapM f with
     | none=>simp[ha,hl] at h
     | some ys =>
       simp[ha,hl] at h;subst h;cases i with
       | zero=>simp at hx;subst hx;exact⟨y,ha,by simp⟩
       | succ i=>simp at hx;simpa using mapM_get hl i x hx
theorem trod_int_inv {fuel:Nat} {t:TypeId} {k:IntKind} {cs:List Value} {x:DataW H×List MemPlace} (ht:P.underlying t=some (.int k)) (h:DataW.trod enc P w 0 sp hd fuel t cs=some x) :
 ∃n,cs=[.int k n]/\(Lit.int k n).wf=true:=by
 cases fuel with
 | zero=>simp[DataW.trod] at h
 | succ fuel =>
   unfold DataW.trod at h;rw[ht] at h;split at h<;>simp_all
theorem trod_bool_inv {fuel:Nat} {t:TypeId} {cs:List Value} {x:DataW H×List MemPlace} (ht:P.underlying t=some .bool) (h:DataW.trod enc P w 0 sp hd fuel t cs=some x) :
 ∃b,cs=[.bool b]:=by
 cases fuel with
 | zero=>simp[DataW.trod] at h
 | succ fuel =>
   unfold DataW.trod at h;rw[ht] at h;split at h<;>simp_all
theorem trod_slice_inv {fuel:Nat} {t e:TypeId} {cs:List Value} {x:DataW H×List MemPlace} (ht:P.underlying t=some (.slice e)) (h:DataW.trod enc P w 0 sp hd fuel t cs=some x) :
 cs=[.slice none 0 0]\/∃a len cap n,cs=[.slice (some a) len cap]/\len<=cap/\cap<=maxLen /\
  ∀i,i<len->∃ecs y,w.cells? 0 (a.add (i*P.cellsOf e)) (P.cellsOf e)=some ecs/\DataW.trod enc P w 0 sp hd n e ecs=some y:=by
 cases fuel with
 | zero=>simp[DataW.trod] at h
 | succ fuel =>
   unfold DataW.trod at h;rw[ht] at h;split at h<;>first|(rename_i he;cases he;done)|skip
   all_goals try (rename_i he;simp at he;done)
   all_goals try (simp at h;done)
   . exact .inl rfl
   . rename_i e' a len cap he;simp at he;subst he;right;split at h
     . rename_i hc;cases hm:(List.range len).mapM fun i=>(w.cells? 0 (a.add (i*P.cellsOf e)) (P.cellsOf e)).bind (DataW.trod enc P w 0 sp hd fuel e) with
       | none=>simp[hm] at h
       | some ys =>
         refine⟨a,len,cap,fuel,rfl,hc.2.1,hc.2.2,fun i hi=>?_⟩;obtain⟨y,hy,_⟩:=mapM_get hm i i (by simp[hi]);cases hcs:w.cells? 0 (a.add (i*P.cellsOf e)) (P.cellsOf e) with
         | none=>simp[hcs] at hy
         | some ecs=>simp[hcs] at hy;exact⟨ecs,y,rfl,hy⟩
     . simp at h
theorem cells_get {a:Addr} {n:Nat} {ecs:List Value} (h:w.cells? 0 a n=some ecs) {j:Nat} (hj:j<n):∃u,ecs[j]?=some u/\w.cell? (a.add j)=some u:=by
 simp only[World.cells?,Nat.zero_le,if_true] at h;obtain⟨y,h1,h2⟩:=mapM_get h j j (by simp[hj]);exact⟨y,h2,h1⟩
theorem add_add {a:Addr} (h:a.spot=none) (x y:Nat):(a.add x).add y=⟨a.block,a.off+(x+y),none⟩:=by
 obtain⟨b,o,s⟩:=a;simp only at h;subst h;unfold Addr.add;split<;>split<;>simp_all<;>omega
theorem den_fz_of {s len cap:Nat} {a:Addr} {f:Nat->Nat->V} (σ:Sg) (hs:0<s) (hle:len<=cap)
 (hc:∀i,i<len->∃ecs,w.cells? 0 (a.add (i*s)) s=some ecs/\∀j,j<s->∀u,ecs[j]?=some u->u.oneCell'=true/\Den (fun _=>False) w Sg.none (f i j) u) :
 Den (fun _=>False) w σ (.fz len s false f) (.slice (some a) len cap):=by
 rcases Nat.eq_zero_or_pos len with h0|h0
 . subst h0;exact .fz0 _ _ _ _ _ _ (by simp)
 obtain⟨ecs0,c0,_⟩:=hc 0 h0;obtain⟨u0,_,k0⟩:=cells_get c0 hs;simp only[Nat.zero_mul,Addr.add,if_true] at k0;have hspot:a.spot=none:=by
  unfold World.cell? at k0;split at k0
  . split at k0
    . cases k0
    . rename_i h;simpa using h
  . cases k0
 have hb:a.block<w.heap.size:=by
  unfold World.cell? at k0;split at k0
  . rename_i h;exact lt_of_getElem? h
  . cases k0
 have key:∀i j,i<len->j<s->∃u,w.cell? ⟨a.block,a.off+(i*s+j),none⟩=some u/\u.oneCell'=true/\Den (fun _=>False) w Sg.none (f i j) u:=by
  intro i j hi hj;obtain⟨ecs,c1,c2⟩:=hc i hi;obtain⟨u,u1,u2⟩:=cells_get c1 hj;rw[add_add hspot] at u2;exact⟨u,u2,c2 j hj u u1⟩
 have ea:a=⟨a.block,a.off,none⟩:=by cases a;simp_all
 rw[ea];exact .fz _ _ _ _ _ _ _ _ (fun i j=>if h:i<len/\j<s then Classical.choose (key i j h.1 h.2) else undef) hle (by simp) (by simp) hb
  (fun i j hi hj=>by simp only[hi,hj,and_self,dite_true];exact(Classical.choose_spec (key i j hi hj)).1)
  (fun i j hi hj=>by simp only[hi,hj,and_self,dite_true];exact(Classical.choose_spec (key i j hi hj)).2.1)
  (fun i j hi hj=>by simp only[hi,hj,and_self,dite_true];exact(Classical.choose_spec (key i j hi hj)).2.2)
theorem den_ints {fuel:Nat} {t e:TypeId} {k:IntKind} {cs:List Value} {x:DataW H×List MemPlace} (σ:Sg) (ht:P.underlying t=some (.slice e)) (he:P.underlying e=some (.int k)) (hc:P.cellsOf e=1)
 (h:DataW.trod enc P w 0 sp hd fuel t cs=some x) :
 ∃u l,cs=[u]/\u.oneCell'=true/\Den (fun _=>False) w σ (.fz l.length 1 false (fun i _=>.int k (List.getD l i 0))) u/\l.length<=maxLen/\∀n∈l,(Lit.int k n).wf=true:=by
 rcases trod_slice_inv ht h with rfl | ⟨a,len,cap,n,rfl,h1,h2,h3⟩
 . exact⟨_,[],rfl,rfl,.fz0 _ _ _ _ _ _ (by simp),by simp,by simp⟩
 . have key:∀i,i<len->∃m,w.cells? 0 (a.add (i*1)) 1=some [.int k m]/\(Lit.int k m).wf=true:=by
    intro i hi;obtain⟨ecs,y,c1,c2⟩:=h3 i hi;rw[hc] at c1;obtain⟨m,rfl,hm⟩:=trod_int_inv he c2;exact⟨m,c1,hm⟩
   let g:Nat->Int:=fun i=>if h:i<len then Classical.choose (key i h) else 0
   have hg:∀i (h:i<len),w.cells? 0 (a.add (i*1)) 1=some [.int k (g i)]/\(Lit.int k (g i)).wf=true:=fun i h=>by
    simp only[g,h,dite_true];exact Classical.choose_spec (key i h)
   refine⟨_,(List.range len).map g,rfl,rfl,?_,by simp;omega,?_⟩
   . simp only[List.length_map,List.length_range];refine den_fz_of σ (by decide) h1 fun i hi=>⟨_,(hg i hi).1,fun j hj u hu=>?_⟩;obtain rfl:j=0:=by omega
     simp at hu;subst hu;refine⟨rfl,?_⟩;have:List.getD ((List.range len).map g) i 0=g i:=by simp[hi]
     rw[this];exact .int _ _ _
   . intro m hm;obtain⟨i,hi,rfl⟩:=List.mem_map.1 hm;exact(hg i (by simpa using hi)).2
theorem trod_struct_inv {fuel:Nat} {t:TypeId} {fs:Array Field} {cs:List Value} {x:DataW H×List MemPlace} (ht:P.underlying t=some (.struct fs)) (h:DataW.trod enc P w 0 sp hd fuel t cs=some x) :
 cs.length=P.cellsOf t/\∃n,∀(i:Nat) (f:Field),fs.toList[i]?=some f->∃y,DataW.trod enc P w 0 sp hd n f.type ((cs.drop f.offset).take (P.cellsOf f.type))=some y:=by
 cases fuel with
 | zero=>simp[DataW.trod] at h
 | succ fuel =>
   simp only[DataW.trod,ht] at h;split at h
   . rename_i hl;refine⟨hl,fuel,fun i f hf=>?_⟩;cases hm:fs.toList.mapM fun f=>DataW.trod enc P w 0 sp hd fuel f.type ((cs.drop f.offset).take (P.cellsOf f.type)) with
     | none=>simp[hm] at h
     | some ys =>
       obtain⟨y,hy,_⟩:=mapM_get hm i f hf;exact⟨y,hy⟩
   . simp at h
theorem trodAll_stays (hl:laidOutB P=true) {W W':World} {sp':Nat->Bool}:∀{ts:List TypeId} {vs:List Value} {ds:List (DataW H)} {ps:List MemPlace},
 (∀t∈ts,P.readableRec t=true/\t<P.types.size)->DataW.TrodAll enc P W 0 (fun _=>true) true ts vs ds ps->(∀p∈ps,W.sameAt W' p)->(∀p∈ps,sp' p.block=true)->DataW.TrodAll enc P W' 0 sp' true ts vs ds ps
 | [],vs,ds,ps,_,h,_,_=>by
   obtain⟨rfl,rfl,rfl⟩:=trodAll_nil h;rfl
 | t::ts,vs,ds,ps,ht,h,h1,h2=>by
   obtain⟨v,vs',d,ds',p,q,rfl,rfl,rfl,h3,h4⟩:=trodAll_cons h;refine⟨p,q,WideElems.Trod_stays hl (ht t (by simp)).1 (ht t (by simp)).2 h3 (fun x hx=>h1 x (by simp[hx])) (fun x hx=>h2 x (by simp[hx])),?_,rfl⟩;exact trodAll_stays hl (fun t' h'=>ht t' (by simp[h'])) h4 (fun x hx=>h1 x (by simp[hx])) (fun x hx=>h2 x (by simp[hx]))
theorem post_law {f:Func} {s:ChangeSpec} {apart fresh handsOn:Bool} {W W':World} {args:Array Value} {ds gs:List (DataW H)} {before:List MemPlace} {tb:TypeId} (hl:laidOutB P=true) (hs:s.vars=[])
 (hW:DataW.Whole enc P f.params.toList s.vars apart W args.toList ds gs before) (hp:∀t∈f.params.toList,P.readableRec t=true/\t<P.types.size) (hr:f.resultTypes=#[tb]) (htb:P.underlying tb=some .bool)
 (h1:(s.fn H (ds++gs)).results=[.lit (.bool true)]) (h2:(s.fn H (ds++gs)).args=ds) (h3:(s.fn H (ds++gs)).vars=[]) (hb:Below W.heap.size W W') :
 s.post enc P f apart fresh handsOn false W args (.bool true) W':=by
 have hlt:=hW.lt;have hW0:=hW;obtain⟨p,q,hA,hV,rfl,_,_⟩:=hW;rw[hs] at hV;obtain⟨rfl,rfl⟩:=trodVars_none hV;have hlt':∀x∈p,x.block<W.heap.size:=fun x hx=>hlt x (by simp[hx]);refine⟨ds,[],p++[],[],p,[],hW0,?_,?_,?_,hb.frame _,fun h=>by cases h⟩
 . rw[hr,h1];exact trodAll_cons_mk (shut_bool htb _) trodAll_mk0
 . rw[h2];exact trodAll_stays hl hp hA (fun x hx=>hb.same (hlt' x hx)) (fun x hx=>by simpa using hlt' x hx)
 . rw[hs,h3];rfl
end
theorem ret_calls {P:Program} {f:FuncId} {vs:List V} {W:World} {args:Array Value} (h:Ret P f vs (.bool true)) (hl:vs.length=args.size)
 (hd:∀(i:Nat) (v:V) (u:Value),vs[i]?=some v->args[i]?=some u->Den (fun _=>False) W Sg.none v u) :
 Calls P f args W fun e W'=>e=.returned (.bool true)/\Below W.heap.size W W':=by
 have:=(h [] KS).out (fun _=>False) W Sg.none args.toList (by simpa using hl) (fun i v u hv hu=>hd i v u hv (by simpa using hu)) (hsim_nothing KS KS_nodup);rw[Array.toArray_toList] at this;refine this.mono ?_;rintro e W' ⟨M',σ',v,own',ks',u,rfl,hv,hh',tr,_,rfl,rfl,rfl⟩;cases hv;exact⟨rfl,tr.adv.os,tr.adv.tape,tr.adv.output,tr.adv.size,fun b hb=>tr.adv.same b hb owned_nil⟩
end Go.Eng
namespace Go.Eng
def updO:Own->Nat->Blk->Own
 | [],_,_=>[]
 | (k,b)::r,t,x=>match Nat.beq k t with|true=>(k,x)::r|false=>(k,b)::updO r t x
theorem loop_u {P:Program} (hm:P.follows .mixedOrders=true) {N:Nat} {bk:BK} {b:SC} {env:Env} {own:Own} {ks:List Nat} {K:Out->Prop} (live chg ks0 okeys:List Nat) {α:Type} (vals:α->Env) (ownf:Own->α->Own) (I:Nat->α->Prop) (n0:Nat) (x0:α)
 (h0:I n0 x0)
 (hchg:((chg.all fun k=>memN k bk.ks&&(memN k (own.map (·.1)) || memN k ks))&&(ks0.all fun k=>memN k ks)&&(okeys.all fun k=>memN k (own.map (·.1)) || memN k ks))=true)
 (hkeys:∀x,(ownf own x).map (·.1)=okeys)
 (hw0:Weak N chg ⟨env,own,ks⟩ ⟨vals x0++selE env live,ownf own x0,ks0⟩)
 (step:∀n x,I n x->vcR P N bk b (vals x++selE env live) (ownf own x) ks0 (headK N chg (fun x=>⟨vals x++selE env live,ownf own x,ks0⟩) I n K)):LoopI P N bk b env own ks K :=
 loop_w hm live chg ks0 okeys vals (ownf own) I n0 x0 h0 hchg hkeys hw0 step
def unrK (ih:CC) (K:Out->Prop) (o:Out):Prop :=
 match o with
 | .normal ⟨env,own,ks⟩=>ih env own ks K
 | .exit id st=>K (.exit id st)
 | .ret st=>K (.ret st)
def unr (P:Program) (N:Nat) (bk:BK) (b:SC) (fuel:Nat):CC:=@Nat.rec (fun _=>CC) (fun _ _ _ _=>False) (fun _ ih env own ks K=>vcR P N bk b env own ks (unrK ih K)) fuel
theorem loop_fuel {P:Program} (hm:P.follows .mixedOrders=true) {N:Nat} {bk:BK} {b:SC} {env:Env} {own:Own} {ks:List Nat} {K:Out->Prop} (fuel:Nat) (h:unr P N bk b fuel env own ks K):LoopI P N bk b env own ks K:=by
 constructor;intro r σb hr c hc B M w σ a hbk hle0 sim fb k cs hro hbf hroom;have key:∀(fuel:Nat) (env:Env) (own₁:Own) (ks₁:List Nat) (M₁:Nat->Prop) (w₁:World) (σ₁:Sg) (a₁:Act),unr P N bk b fuel env own₁ ks₁ K->Sim N B M₁ w₁ σ₁ ⟨env,own₁,ks₁⟩ a₁->σb.le σ₁ ->
  ∃e a' w',XP N B σb M₁ w₁ σ₁ own₁ ks₁ K e a' w'/\ArrivesIn (Machine.fenced P (FR r)) P (lone (fb.atR a₁ (.code c::.inLoop c::k)) cs w₁) fb k cs e a' w':=by
  intro fuel
  induction fuel with
  | zero=>intro env own₁ ks₁ M₁ w₁ σ₁ a₁ h _ _;exact h.elim
  | succ fuel ih =>
    intro env own₁ ks₁ M₁ w₁ σ₁ a₁ h hs hle;have h':vcR P N bk b env own₁ ks₁ (unrK (unr P N bk b fuel) K):=h;rw[vcR_eq] at h';have hb:=vc_sound hm hbk r hr c _ _ env own₁ ks₁ M₁ w₁ σ₁ a₁ hc h' hs hle;obtain⟨e,a₂,w₂,hq,harr⟩:=hb fb (.inLoop c::k) cs hro hbf hroom;obtain⟨M₂,σ₂,⟨env₂,own₂,ks₂⟩,s2,t2,q2,l2,k2⟩:=hq;cases e with
    | normal =>
      obtain⟨e',a',w',hx,harr'⟩:=ih env₂ own₂ ks₂ M₂ w₂ σ₂ a₂ k2 s2 l2;exact⟨e',a',w',XP.tr t2 q2 hx,.of_steps (StepsIn.trans harr (.one (fenced_calm hbf hroom rfl) stepR_inLoop)) harr'⟩
    | exit id=>exact⟨_,a₂,w₂,⟨M₂,σ₂,_,s2,t2,q2,l2,k2⟩,.pass (x:=.inLoop c) rfl (fun _ _=>.inl (by simp)) harr⟩
    | ret=>exact⟨_,a₂,w₂,⟨M₂,σ₂,_,s2,t2,q2,l2,k2⟩,.pass (x:=.inLoop c) rfl (fun _ _=>.inl (by simp)) harr⟩
    | goto l=>exact k2.elim
    | panic ch=>exact k2.elim
    | outgrown=>exact k2.elim
 obtain⟨e,a',w',hx,harr⟩:=key fuel env own ks M w σ a h sim hle0;exact⟨e,a',w',hx,.of_steps (.one (fenced_calm hbf hroom rfl) stepR_loop) harr⟩
end Go.Eng
