import Derived.Test.YtojoidgjneapfaaWXC
import Derived.Shelf.SlSortCmp.WholeK
namespace Go.Proofs.Ytojoidgjneapfaa
open Go.Eng
set_option maxRecDepth 100000
set_option linter.unusedVariables false
def btL (c:Cf):List Int:=c.map fun r=>(gI r 0).tdiv c.length
theorem Q3U (c:Cf):(btL c).length=c.length:=by simp[btL]
theorem Q3V (c:Cf) {v:Nat} (h:v<c.length):gI (btL c) v=(gI (gC c v) 0).tdiv c.length:=by simp[btL,gI,gC,List.getD,h]
def G.botX (g:G) (c:Cf):List Int:=if g.conn&&g.xconf c then btL c else[]
def btF (c:Cf) (v:Nat):Nat->Nat->V:=fun i _=>.int .i64 (if i<v then gI (btL c) i else 0)
theorem Q3W (c:Cf) (v i t:Nat) (x:Int) (hx:x=gI (btL c) v) (ht:t<1):VLe (J2b (btF c v) v 0 [.int .i64 x] i t) (btF c (v+1) i t):=by
 obtain rfl:t=0:=by omega
 apply VLe.of_eq;by_cases e:i=v
 . subst e;simp[J2b,btF,hx]
 . have:(i<v+1)=(i<v):=by simp;omega
   simp[J2b,btF,e,this]
theorem Q06 {a:Int} {n:Nat} (h0:0<=a) (h1:a<=1000):0<=a.tdiv n/\a.tdiv n<=1000:=by
 rw[Int.tdiv_eq_ediv_of_nonneg h0];exact⟨Int.ediv_nonneg h0 (Int.natCast_nonneg _),Int.le_trans (Int.ediv_le_self _ h0) h1⟩
set_option maxHeartbeats 4000000 in
theorem J65 (g:G) (hs:g.Small) (c:Cf) (hc:J5t c):Ret Try.prog 12 [g.v,cV c] (.fz (g.botX c).length 1 false (vI (g.botX c))):=by
 have hcf:=J1R g hs c hc;have hcl:=hc.len;refine J0h rfl ?_;refine J0d mixed Try.func12 rfl hc12 hr12 rfl ?_;by_cases h:(g.conn&&g.xconf c)=true
 . rw[h] at hcf;rw[G.botX,if_pos h,Q3U];rw[Bool.and_eq_true] at h;obtain⟨e1,e2⟩:=J36 h.2;obtain⟨f1,f2,f3,f4,f5,f6,f7⟩:=J0f (J0o h.1).1
   repeat' ((conv=>whnf);first|(refine Br.tt ?_)|(refine Bd.q ?_)|(refine Len.q ?_)|(refine MkS.vec ?_)|(refine hcf.go ?_))
   all_goals (conv=>whnf)
   refine J0A mixed [1,5,15,16] [] [2,3,4,5,6,7,8,9,10,11,12,13,14,15,16,17,18,19,20,21,22,23,24,25,26,27,28,29] [1,0] (fun v:Nat=>[(17,.int .i64 v)]) (fun own v=>J2T own 1 (.vec c.length 1 (btF c v))) (fun m v=>m=c.length-v/\v<=c.length) c.length 0 ⟨rfl,Nat.zero_le _⟩ rfl (fun _=>rfl) ?_ ?_
   . refine J0g (fun _ _=>[(0,some 0),(1,some 1)]) ?_ ?_ rfl
     . repeat' (first|exact tI|(refine⟨⟨_,rfl,?_⟩,?_⟩)|exact J0a.kf rfl|exact J0a.q)
     . repeat' (first|(refine⟨Nat.le_refl _,rfl,fun i j hi hj=>VLe.of_eq ?_⟩;obtain rfl:j=0:=(by omega);rfl)|exact tI|(refine⟨⟨_,rfl,?_⟩,?_⟩)|exact J0a.kf rfl|apply And.intro)
   rintro m v ⟨hm,hv⟩;by_cases hvl:v<c.length
   . have hr:=e2 v hvl;have hd:=Q06 (n:=c.length) hr.2.1 (by omega)
     repeat' ((conv=>whnf);first|(refine Ar.q ?_)|(refine Br.dec ?_ ?_<;>intro _<;>try omega)|(refine Nz.mk (by omega) ?_)|(refine Ix.q ?_)|(refine Ix.mk 0 rfl (by omega) ?_)|(refine Ltn.q ?_))
     all_goals (conv=>whnf)
     refine⟨c.length-(v+1),v+1,by omega,⟨rfl,by omega⟩,?_⟩;refine J0g (fun _ _=>[(0,some 0),(1,some 1)]) ?_ ?_ rfl
     . repeat' (first|exact tI|(refine⟨⟨_,rfl,?_⟩,?_⟩)|exact J0a.kf rfl|exact J0a.q)
     . repeat' (first|(refine⟨Nat.le_refl _,rfl,fun i j hi hj=>?_⟩;simp only[Nat.zero_add];exact Q3W c v i j _ (Q3V c hvl).symm hj)|exact tI|(refine⟨⟨_,rfl,?_⟩,?_⟩)|exact J0a.kf rfl|apply And.intro)
   . have ev:v=c.length:=by omega
     subst ev
     repeat' ((conv=>whnf);first|(refine Br.dec ?_ ?_<;>intro _<;>try omega)|(refine Len.q ?_))
     all_goals (conv=>whnf)
     refine VLe.fz rfl (fun h=>h) (fun i j hi hj=>VLe.of_eq ?_);obtain rfl:j=0:=by omega
     rw[J1i,Nat.zero_add,btF,if_pos hi];rfl
 . rw[G.botX,if_neg h];simp only[Bool.not_eq_true] at h;rw[h] at hcf
   repeat' ((conv=>whnf);first|(refine Br.ff ?_)|(refine hcf.go ?_))
   all_goals (conv=>whnf)
   exact VLe.nilfz rfl
noncomputable def vlV (g:G):V:=.fz (J1Z g).length 1 false (vI (J1Z g))
def gCs (g:G):List V:=[.fz g.ids.length 1 false (vI g.ids),.fz g.ports.length 1 false (vP g.ports)]
noncomputable def Q5d (g:G) (v:Nat) (l:Int×Int):Bool:=decide (exI g (gI (J1Z g) l.1.toNat) l.2=gI (J1Z g) v)
theorem Q26 {g:G} (h:g.conn=true) {v:Nat} (hv:v<g.ids.length) (h0:v≠0):upW g v=fpI (Q5d g v) 0 (gR g.ports v):=by
 obtain⟨f1,f2,f3,f4,f5,f6,f7⟩:=J0f (J0o h).1;rw[upW,if_neg h0];refine J7s fun l hl=>?_;have hok:=(J0s.1 (f6 v (by omega))).1 l hl;rw[Q5d,J3c hv,J3c (show l.1.toNat<g.ids.length by omega)]
theorem Q0Z {g:G} (h:g.conn=true) (v:Nat):0<=gI (J1Z g) v/\gI (J1Z g) v<=400:=by
 obtain⟨f1,f2,f3,f4,f5,f6,f7⟩:=J0f (J0o h).1;by_cases hv:v<g.ids.length
 . rw[J3c hv];have:=J6g h hv;omega
 . have hl:=J3b g;have:gI (J1Z g) v=0:=by simp[gI,List.getD,List.getElem?_eq_none (show(J1Z g).length<=v by omega)]
   omega
theorem J9R (g:G) (hgc:g.conn=true) (v:Nat) (hv:v<g.ports.length) (i:Nat) (hi:i<(gR g.ports v).length) :
 Ret Try.prog 28 [.agg [.int .i64 (gF (gR g.ports v) i).1,.int .i64 (gF (gR g.ports v) i).2],.fe 1 2 (tab [gCs g]) 0 0,.fe 1 1 (tab [[vlV g]]) 0 0,.fe 1 1 (tab [[.int .i64 v]]) 0 0] (.bool (Q5d g v (gF (gR g.ports v) i))):=by
 obtain⟨hg,_⟩:=J0o hgc;obtain⟨f1,f2,f3,f4,f5,f6,f7⟩:=J0f hg;have hok:=(J0s.1 (f6 v (by omega))).1 _ (J02 hi);have hr:=J7l (f6 v hv) hi;have hl:=J3b g;have hy:=Q0Z hgc (0+(gF (gR g.ports v) i).1.toNat);have hext:=J25 g hg (gI (J1Z g) (0+(gF (gR g.ports v) i).1.toNat)) ⟨by omega,by omega⟩ (gF (gR g.ports v) i) ⟨by omega,by omega⟩;have hext2:=J25 g hg (gI (J1Z g) (gF (gR g.ports v) i).1.toNat) ⟨by rw[Nat.zero_add] at hy;omega,by rw[Nat.zero_add] at hy;omega⟩ (gF (gR g.ports v) i) ⟨by omega,by omega⟩;refine J0h rfl ?_;refine J0d mixed Try.func28 rfl hc28 hr28 rfl ?_
 repeat' ((conv=>whnf);first|(refine Br.dec ?_ ?_<;>intro _<;>try omega)|(refine Ix.q ?_)|(refine Ix.int (by omega) (by omega) ?_)|(refine hext2.go ?_)|(refine And.intro rfl ?_))
 all_goals (conv=>whnf)
 . rename_i h;exact VLe.bool (decide_eq_true (by simpa using h)).symm
 . rename_i h;exact VLe.bool (decide_eq_false (by simpa using h)).symm
theorem Q4m (g:G) (hgc:g.conn=true) (v:Nat) (hv:v<g.ports.length) (h0:v≠0) :
 J0H Try.prog 27 [g.v,.int .i64 v,.fn (.func 28) false [.loc 2 0,.loc 1 0,.loc 0 0]] [(2,.cells (gCs g)),(1,.cells [vlV g]),(0,.cells [.int .i64 v])] [3,4,5,6,7,8,9,10,11,12,13,14,15,16,17,18,19,20,21,22,23,24,25,26,27,28,29] fun X own' _=>X=.int .i64 (upW g v)/\own'=[(2,.cells (gCs g)),(1,.cells [vlV g]),(0,.cells [.int .i64 v])]:=by
 obtain⟨hg,_⟩:=J0o hgc;obtain⟨f1,f2,f3,f4,f5,f6,f7⟩:=J0f hg;have hup:=Q26 hgc (show v<g.ids.length by omega) h0;have hrl:=J2Z hg v;refine J2d ?_;refine J0d mixed Try.func27 rfl hc27 hr27 rfl ?_
 repeat' ((conv=>whnf);first|(refine Ix.q ?_))
 all_goals (conv=>whnf)
 refine J1r mixed [2,13,14] (fun i:Nat=>[(15,.int .i64 i)]) (fun m i=>m=(gR g.ports v).length-i/\i<=(gR g.ports v).length/\∀l∈(gR g.ports v).take i,Q5d g v l=false) (gR g.ports v).length 0 ⟨rfl,Nat.zero_le _,by simp⟩ ?_ ?_
 . exact J0e (fun _ _=>[(0,some 0),(1,some 1),(2,some 2),(3,some 3)])
 rintro m i ⟨hm,hi,hall⟩;by_cases hil:i<(gR g.ports v).length
 . have h1:=J9R g hgc v hv i hil;cases hb:Q5d g v (gF (gR g.ports v) i) with
   | true =>
     rw[hb] at h1
     repeat' ((conv=>whnf);first|(refine Br.tt ?_)|(refine Br.dec ?_ ?_<;>intro _<;>try omega)|(refine Ix.q ?_)|(refine Chk.q ?_)|(refine J1N h1 rfl ⟨VLe.rfl,VLe.rfl,VLe.rfl,VLe.rfl,True.intro⟩ ?_))
     all_goals (conv=>whnf)
     have e:upW g v=i:=by rw[hup,J4C _ _ 0 i hi hall,Q1S hil,fpI,if_pos hb];omega
     exact J2H (fun _=>[(0,some 0),(1,some 1),(2,some 2)]) _ _ ⟨by rw[e],rfl⟩ (J0a.kf rfl) (by repeat' (first|exact tI|(refine⟨⟨_,rfl,?_⟩,?_⟩)|exact J0a.kf rfl|apply And.intro)) rfl
   | false =>
     rw[hb] at h1
     repeat' ((conv=>whnf);first|(refine Br.ff ?_)|(refine Br.dec ?_ ?_<;>intro _<;>try omega)|(refine Ar.q ?_)|(refine Ix.q ?_)|(refine Chk.q ?_)|(refine J1N h1 rfl ⟨VLe.rfl,VLe.rfl,VLe.rfl,VLe.rfl,True.intro⟩ ?_))
     all_goals (conv=>whnf)
     refine⟨(gR g.ports v).length-(i+1),i+1,by omega,⟨rfl,by omega,fun l hl=>?_⟩,?_⟩
     . rw[J1k _ i hil] at hl;rcases List.mem_append.1 hl with h|h
       . exact hall l h
       . simp at h;rw[h];exact hb
     . exact J0e (fun _ _=>[(0,some 0),(1,some 1),(2,some 2),(3,some 3)])
 . repeat' ((conv=>whnf);first|(refine Br.dec ?_ ?_<;>intro _<;>try omega))
   all_goals (conv=>whnf)
   have e:upW g v=-1:=by rw[hup,J4C _ _ 0 i hi hall,List.drop_of_length_le (by omega)];rfl
   exact J2H (fun _=>[(0,some 0),(1,some 1),(2,some 2)]) _ _ ⟨by rw[e],rfl⟩ (J0a.kf rfl) (by repeat' (first|exact tI|(refine⟨⟨_,rfl,?_⟩,?_⟩)|exact J0a.kf rfl|apply And.intro)) rfl
set_option maxHeartbeats 4000000 in
theorem J8q (g:G) (hs:g.Small) (c:Cf) (hc:J5t c):Ret Try.prog 10 [g.v,cV c] (.bool (g.xleg c)):=by
 have h0:=J1R g hs c hc;have hcl:=hc.len;refine J0h rfl ?_;refine J0d mixed Try.func10 rfl hc10 hr10 rfl ?_;rw[G.xleg];cases hgc:g.conn&&g.xconf c with
 | false =>
   rw[hgc] at h0
   repeat' ((conv=>whnf);first|(refine Br.ff ?_)|(refine h0.go ?_))
   all_goals (conv=>whnf)
   exact VLe.rfl
 | true =>
   rw[hgc] at h0;rw[Bool.true_and];rw[Bool.and_eq_true] at hgc;obtain⟨h1,_⟩:=J0o hgc.1;obtain⟨f1,f2,f3,f4,f5,f6,f7⟩:=J0f h1;obtain⟨e1,e2⟩:=J36 hgc.2;have hv:=J85 g hs hgc.1;have hvl:=J3b g
   repeat' ((conv=>whnf);first|(refine Br.tt ?_)|(refine h0.go ?_)|(refine hv.go ?_))
   all_goals (conv=>whnf)
   refine J1r mixed [1,2,5,15,16] (fun i:Nat=>[(17,.int .i64 i)]) (fun m i=>m=c.length-i/\i<=c.length/\∀v,v<i->gI (gC c v) 0=gI (J1Z g) v/\gI (gC c v) 1=upW g v) c.length 0 ⟨rfl,Nat.zero_le _,fun v hv=>by omega⟩ ?_ ?_
   . exact J0e (fun _ _=>[(0,some 0),(1,some 1)])
   rintro m i ⟨hm,hi,hall⟩;by_cases hil:i<c.length
   . have hrow:=e2 i hil;have hno:∀a:Prop,(gI (gC c i) 0≠gI (J1Z g) i\/gI (gC c i) 1≠upW g i)->VLe (V.bool false) (.bool (Q4t g c)):=fun _ q=>VLe.bool (by
      cases e:Q4t g c with
      | false=>rfl
      | true =>
        obtain⟨q1,q2⟩:=J5B.1 e i hil;rcases q with q|q
        . exact(q q1).elim
        . exact(q q2).elim)
     by_cases hz:i=0
     . have hup:upW g i=-1:=if_pos hz
       repeat' ((conv=>whnf);first|(refine Ix.mk 1 rfl (by omega) ?_)|(refine Br.dec ?_ ?_<;>intro _<;>try omega)|(refine Br.bne ?_ ?_<;>intro _<;>try omega)|(refine Ar.q ?_)|(refine Ix.q ?_)|(refine Ix.mk 0 rfl (by omega) ?_))
       all_goals (conv=>whnf)
       . rename_i h;exact hno True (.inl h)
       . rename_i h;exact hno True (.inr (by rw[hup];exact h))
       . rename_i q1 q2;refine⟨c.length-(i+1),i+1,by omega,⟨rfl,by omega,fun v hv=>?_⟩,?_⟩
         . by_cases e:v=i
           . subst e;exact⟨q1,by rw[hup];exact q2⟩
           . exact hall v (by omega)
         . exact J0e (fun _ _=>[(0,some 0),(1,some 1)])
     . have hfp:=Q4m g hgc.1 i (by omega) hz
       repeat' ((conv=>whnf);first|(refine Ix.mk 1 rfl (by omega) ?_)|(refine Br.dec ?_ ?_<;>intro _<;>try omega)|(refine Br.bne ?_ ?_<;>intro _<;>try omega)|(refine Ar.q ?_)|(refine Ix.q ?_)|(refine Ix.mk 0 rfl (by omega) ?_)|(refine J0W [(0,some 2),(1,some 1),(2,some 0)] [] (hfp.mono ?_) ⟨J0a.kf rfl,J0a.int rfl,J0a.fn ⟨J0a.loc rfl,J0a.loc rfl,J0a.loc rfl,True.intro⟩,True.intro⟩ (by repeat' (first|exact tI|(refine⟨⟨_,rfl,?_⟩,?_⟩)|exact J0a.kf rfl|apply And.intro)) rfl;rintro _ _ _ ⟨rfl,rfl⟩)|(refine Chk.mk rfl ?_))
       all_goals (conv=>whnf)
       . rename_i h;exact hno True (.inl h)
       . rename_i h;exact hno True (.inr h)
       . rename_i q1 q2;refine⟨c.length-(i+1),i+1,by omega,⟨rfl,by omega,fun v hv=>?_⟩,?_⟩
         . by_cases e:v=i
           . subst e;exact⟨q1,q2⟩
           . exact hall v (by omega)
         . exact J0e (fun _ _=>[(0,some 0),(1,some 1)])
   . repeat' ((conv=>whnf);first|(refine Br.dec ?_ ?_<;>intro _<;>try omega))
     all_goals (conv=>whnf)
     exact VLe.bool (J5B.2 (fun v hv=>hall v (by omega))).symm
inductive JD (D:List (Nat×Nat)):Nat->Nat->Prop
 | refl (u:Nat):JD D u u
 | edge {u v:Nat} (h:(u,v)∈D):JD D u v
 | symm {u v:Nat} (h:JD D u v):JD D v u
 | trans {u v w:Nat} (h:JD D u v) (h':JD D v w):JD D u w
theorem JD.mono {D D':List (Nat×Nat)} (hs:∀p∈D,p∈D') {u v:Nat} (h:JD D u v):JD D' u v:=by
 induction h with
 | refl u=>exact .refl u
 | edge h=>exact .edge (hs _ h)
 | symm _ ih=>exact .symm ih
 | trans _ _ i1 i2=>exact .trans i1 i2
theorem JD.snoc {D:List (Nat×Nat)} {a b u v:Nat}:JD (D++[(a,b)]) u v↔JD D u v\/(JD D u a/\JD D b v)\/(JD D u b/\JD D a v):=by
 constructor
 . intro h
   induction h with
   | refl u=>exact .inl (.refl u)
   | edge h =>
     rcases List.mem_append.1 h with h|h
     . exact .inl (.edge h)
     . simp at h;obtain⟨rfl,rfl⟩:=h;exact .inr (.inl ⟨.refl _,.refl _⟩)
   | symm _ ih =>
     rcases ih with h | ⟨h1,h2⟩ | ⟨h1,h2⟩
     . exact .inl h.symm
     . exact .inr (.inr ⟨h2.symm,h1.symm⟩)
     . exact .inr (.inl ⟨h2.symm,h1.symm⟩)
   | trans _ _ i1 i2 =>
     rcases i1 with h | ⟨h1,h2⟩ | ⟨h1,h2⟩<;>rcases i2 with k | ⟨k1,k2⟩ | ⟨k1,k2⟩
     . exact .inl (h.trans k)
     . exact .inr (.inl ⟨h.trans k1,k2⟩)
     . exact .inr (.inr ⟨h.trans k1,k2⟩)
     . exact .inr (.inl ⟨h1,h2.trans k⟩)
     . exact .inr (.inl ⟨h1,k2⟩)
     . exact .inl (h1.trans k2)
     . exact .inr (.inr ⟨h1,h2.trans k⟩)
     . exact .inl (h1.trans k2)
     . exact .inr (.inr ⟨h1,k2⟩)
 . intro h;have hm:∀{x y:Nat},JD D x y->JD (D++[(a,b)]) x y:=fun h=>h.mono fun p hp=>List.mem_append.2 (.inl hp);have he:JD (D++[(a,b)]) a b:=.edge (List.mem_append.2 (.inr (by simp)));rcases h with h | ⟨h1,h2⟩ | ⟨h1,h2⟩
   . exact hm h
   . exact((hm h1).trans he).trans (hm h2)
   . exact((hm h1).trans he.symm).trans (hm h2)
def PtI (n:Nat) (D:List (Nat×Nat)) (p:Nat->Int):Prop:=∀u v,u<n->v<n->(p u=p v↔JD D u v)
theorem PtI.start (n:Nat):PtI n [] (fun v=>(v:Int)):=by
 intro u v _ _;constructor
 . intro e;have e:(u:Int)=(v:Int):=e;have:u=v:=by omega
   subst this;exact .refl u
 . intro h;have key:∀{x y:Nat},JD [] x y->x=y:=fun h=>by
    induction h with
    | refl u=>rfl
    | edge h=>simp at h
    | symm _ ih=>exact ih.symm
    | trans _ _ i1 i2=>exact i1.trans i2
   rw[key h]
def joP (p:Nat->Int) (a b:Nat):Nat->Int:=fun v=>if p v=max (p a) (p b) then min (p a) (p b) else p v
theorem PtI.join {n:Nat} {D:List (Nat×Nat)} {p:Nat->Int} (h:PtI n D p) {a b:Nat} (ha:a<n) (hb:b<n):PtI n (D++[(a,b)]) (joP p a b):=by
 intro u v hu hv;rw[JD.snoc,<- h u v hu hv,<- h u a hu ha,<- h b v hb hv,<- h u b hu hb,<- h a v ha hv,joP,joP];generalize p u=x;generalize p v=y;generalize p a=s;generalize p b=t;split<;>split<;>omega
inductive Jn (g:G) (w:Int) (a:Nat):Nat->Prop
 | refl:Jn g w a a
 | step {v:Nat} {l:Int×Int} (hv:v<g.ids.length) (hl:l∈gR g.ports v) (hw:l.2<w) (h:Jn g w a l.1.toNat):Jn g w a v
def ClJ (g:G) (w:Int) (x:Nat->Bool):Prop:=∀v,v<g.ids.length->∀l∈gR g.ports v,l.2<w->x l.1.toNat=true->x v=true
theorem Jn.in_ {g:G} {w:Int} {a:Nat} {x:Nat->Bool} (hc:ClJ g w x) (ha:x a=true) {v:Nat} (h:Jn g w a v):x v=true:=by
 induction h with
 | refl=>exact ha
 | step hv hl hw _ ih=>exact hc _ hv _ hl hw ih
structure J28 (g:G) (u v:Nat) (w:Int):Prop where
 lu:u<g.ids.length
 lv:v<g.ids.length
 mem:((v:Int),w)∈gR g.ports u
theorem J28.symm {g:G} (hg:g.valid=true) {u v:Nat} {w:Int} (h:J28 g u v w):J28 g v u w:=by
 obtain⟨f1,f2,f3,f4,f5,f6,f7⟩:=J0f hg;have:=f7 u (by rw[f3];exact h.lu) _ h.mem;simp only[Int.toNat_natCast] at this;exact⟨h.lv,h.lu,this⟩
def LtD (g:G) (w:Int) (D:List (Nat×Nat)):Prop:=(∀u v,(u,v)∈D->∃k,J28 g u v k/\k<w)/\∀u v k,J28 g u v k->k<w->(u,v)∈D\/(v,u)∈D
theorem Q5F {g:G} (hg:g.valid=true) {w:Int} {D:List (Nat×Nat)} (hD:LtD g w D) {a v:Nat} (ha:a<g.ids.length):Jn g w a v↔(v<g.ids.length/\JD D a v):=by
 obtain⟨f1,f2,f3,f4,f5,f6,f7⟩:=J0f hg;constructor
 . intro h
   induction h with
   | refl=>exact⟨ha,.refl a⟩
   | step hv hl hw hu ih =>
     rename_i v l;have hok:=(J0s.1 (f6 v (by omega))).1 l hl;refine⟨hv,ih.2.trans ?_⟩;have he:J28 g v l.1.toNat l.2:=⟨hv,by omega,by rw[Int.toNat_of_nonneg (by omega)];exact hl⟩;rcases hD.2 _ _ _ he hw with q|q
     . exact(JD.edge q).symm
     . exact JD.edge q
 . rintro⟨hv,h⟩;have tr:∀{x y z:Nat},Jn g w x y->Jn g w y z->Jn g w x z:=fun h h'=>by
    induction h' with
    | refl=>exact h
    | step hv hl hw _ ih=>exact .step hv hl hw ih
   have one:∀{x y:Nat} {k:Int},J28 g x y k->k<w->Jn g w x y:=fun {x y k} he hk=>by
    have he':=he.symm hg;exact .step (l:=((x:Int),k)) he.lv he'.mem hk (by simp only[Int.toNat_natCast];exact .refl)
   have sy:∀{x y:Nat},x<g.ids.length->Jn g w x y->Jn g w y x/\y<g.ids.length:=fun {x y} hx h=>by
    induction h with
    | refl=>exact⟨.refl,hx⟩
    | step hv hl hw hu ih =>
      rename_i v l;have hok:=(J0s.1 (f6 v (by omega))).1 l hl;have he:J28 g v l.1.toNat l.2:=⟨hv,by omega,by rw[Int.toNat_of_nonneg (by omega)];exact hl⟩;exact⟨tr (one he hw) ih.1,hv⟩
   have key:∀{x y:Nat},JD D x y->(x<g.ids.length\/y<g.ids.length)->Jn g w x y/\x<g.ids.length/\y<g.ids.length:=by
    intro x y h
    induction h with
    | refl u=>intro q;exact⟨.refl,by omega,by omega⟩
    | edge h =>
      intro _;obtain⟨k,he,hk⟩:=hD.1 _ _ h;exact⟨one he hk,he.lu,he.lv⟩
    | symm _ ih =>
      intro q;obtain⟨i1,i2,i3⟩:=ih q.symm;exact⟨(sy i2 i1).1,i3,i2⟩
    | trans _ _ i1 i2 =>
      intro q;rcases q with q|q
      . obtain⟨a1,a2,a3⟩:=i1 (.inl q);obtain⟨b1,b2,b3⟩:=i2 (.inl a3);exact⟨tr a1 b1,a2,b3⟩
      . obtain⟨b1,b2,b3⟩:=i2 (.inr q);obtain⟨a1,a2,a3⟩:=i1 (.inr b2);exact⟨tr a1 b1,a2,b3⟩
   exact(key h (.inl ha)).1
theorem J8h {x:Nat->Bool} {a:Nat} (h:x a=true):∀{n:Nat},a<n->1<=J3S x n
 | n+1,hn=>by
   simp only[J3S];by_cases e:a=n
   . subst e;rw[h];simp
   . have:=J8h h (n:=n) (by omega);omega
structure Ed where
 a:Nat
 b:Nat
 w:Int
 deriving DecidableEq
instance:Inhabited Ed:=⟨⟨0,0,0⟩⟩
def Ed.lt (e f:Ed):Prop:=e.a<f.a\/(e.a=f.a/\e.b<f.b)
theorem J4d {α:Type} {r:α->α->Prop} (has:∀x y,r x y->¬ r y x):∀(l m:List α),l.Pairwise r->m.Pairwise r->(∀x,x∈l↔x∈m)->l=m
 | [],m,_,_,h=>by
   cases m with
   | nil=>rfl
   | cons y m=>exact absurd ((h y).2 (by simp)) (by simp)
 | x::l,[],_,_,h=>absurd ((h x).1 (by simp)) (by simp)
 | x::l,y::m,hl,hm,h=>by
   rw[List.pairwise_cons] at hl hm;have hxy:x=y:=by
    apply Classical.byContradiction;intro ne;have h1:x∈m:=by
     rcases List.mem_cons.1 ((h x).1 (by simp)) with q|q
     . exact(ne q).elim
     . exact q
    have h2:y∈l:=by
     rcases List.mem_cons.1 ((h y).2 (by simp)) with q|q
     . exact(ne q.symm).elim
     . exact q
    exact has _ _ (hl.1 y h2) (hm.1 x h1)
   subst hxy;have irr:∀z,z∈l->z≠x:=fun z hz e=>by subst e;exact has _ _ (hl.1 z hz) (hl.1 z hz)
   have irr2:∀z,z∈m->z≠x:=fun z hz e=>by subst e;exact has _ _ (hm.1 z hz) (hm.1 z hz)
   rw[J4d has l m hl.2 hm.2 fun z=>?_];constructor
   . intro hz;rcases List.mem_cons.1 ((h z).1 (List.mem_cons_of_mem _ hz)) with q|q
     . exact(irr z hz q).elim
     . exact q
   . intro hz;rcases List.mem_cons.1 ((h z).2 (List.mem_cons_of_mem _ hz)) with q|q
     . exact(irr2 z hz q).elim
     . exact q
theorem J9J (e f:Ed) (h:e.lt f):¬ f.lt e:=by
 intro h';rcases h with h|h<;>rcases h' with h'|h'<;>omega
def edE (g:G) (a b:Nat):Option Ed:=if a<b/\0<=Q3n 0 (gR g.ports a) b then some ⟨a,b,(gF (gR g.ports a) (Q3n 0 (gR g.ports a) b).toNat).2⟩ else none
def J0l (g:G):List Ed:=(List.range g.ids.length).flatMap fun a=>(List.range g.ids.length).filterMap (edE g a)
theorem J3V {b:Int}:∀{l:Q2V} {k:Nat},(Q3n k l b=-1/\∀a∈l,a.1≠b)\/∃i,i<l.length/\Q3n k l b=((k+i:Nat):Int)/\(gF l i).1=b
 | [],_=>.inl ⟨rfl,by simp⟩
 | a::r,k=>by
   rw[Q3n];by_cases e:a.1=b
   . rw[if_pos e];exact .inr ⟨0,by simp,rfl,e⟩
   . rw[if_neg e];rcases J3V (b:=b) (l:=r) (k:=k+1) with ⟨h1,h2⟩ | ⟨i,h1,h2,h3⟩
     . refine .inl ⟨h1,fun x hx=>?_⟩;rcases List.mem_cons.1 hx with q|q
       . rw[q];exact e
       . exact h2 x q
     . exact .inr ⟨i+1,by simp;omega,by rw[h2];congr 1;omega,by simpa[gF] using h3⟩
theorem J7r {r:Q2V} (h:(r.map (·.1)).Nodup) {x y:Int×Int} (hx:x∈r) (hy:y∈r) (e:x.1=y.1):x=y:=by
 obtain⟨i,hi,rfl⟩:=List.getElem_of_mem hx;obtain⟨j,hj,rfl⟩:=List.getElem_of_mem hy;have hp:=List.pairwise_iff_getElem.1 h;rcases Nat.lt_trichotomy i j with q|q|q
 . exact(hp i j (by simpa using hi) (by simpa using hj) q (by simpa using e)).elim
 . subst q;rfl
 . exact(hp j i (by simpa using hj) (by simpa using hi) q (by simpa using e.symm)).elim
theorem Q0e {g:G} (hg:g.valid=true) {a b:Nat} (ha:a<g.ids.length) (hb:b<g.ids.length) {e:Ed}:edE g a b=some e↔(e.a=a/\e.b=b/\a<b/\J28 g a b e.w):=by
 obtain⟨f1,f2,f3,f4,f5,f6,f7⟩:=J0f hg;have hnd:=(J0s.1 (f6 a (by omega))).2;rw[edE];rcases J3V (b:=(b:Int)) (l:=gR g.ports a) (k:=0) with ⟨h1,h2⟩ | ⟨i,h1,h2,h3⟩
 . rw[if_neg (by omega)];refine⟨fun h=>(by cases h),fun⟨_,_,_,h⟩=>(h2 _ h.mem rfl).elim⟩
 . rw[Nat.zero_add] at h2;rw[h2,Int.toNat_natCast];have hm:=J02 h1;by_cases q:a<b
   . rw[if_pos ⟨q,by omega⟩];constructor
     . intro h;cases h;refine⟨rfl,rfl,q,⟨ha,hb,?_⟩⟩;simp only;rw[<- h3];exact hm
     . rintro⟨e1,e2,_,h⟩;have:=J7r hnd h.mem hm (by rw[h3]);obtain⟨ea,eb,ew⟩:=e;simp only at e1 e2 this;subst e1 e2;rw[<- this]
   . rw[if_neg (fun h=>q h.1)];exact⟨fun h=>(by cases h),fun h=>(q h.2.2.1).elim⟩
theorem J1J {g:G} (hg:g.valid=true) {e:Ed}:e∈J0l g↔(e.a<e.b/\J28 g e.a e.b e.w):=by
 simp only[J0l,List.mem_flatMap,List.mem_range,List.mem_filterMap];constructor
 . rintro⟨a,ha,b,hb,h⟩;obtain⟨rfl,rfl,h1,h2⟩:=(Q0e hg ha hb).1 h;exact⟨h1,h2⟩
 . rintro⟨h1,h2⟩;exact⟨e.a,h2.lu,e.b,h2.lv,(Q0e hg h2.lu h2.lv).2 ⟨rfl,rfl,h1,h2⟩⟩
theorem J2B (g:G):(J0l g).Pairwise Ed.lt:=by
 have hr:∀n:Nat,(List.range n).Pairwise (·<·):=fun n=>List.pairwise_lt_range;have ea:∀{a b:Nat} {e:Ed},edE g a b=some e->e.a=a/\e.b=b:=fun {a b e} h=>by
  rw[edE] at h;split at h
  . cases h;exact⟨rfl,rfl⟩
  . cases h
 rw[J0l,List.pairwise_flatMap];refine⟨fun a _=>?_,(hr _).imp fun {a a'} haa x hx y hy=>?_⟩
 . rw[List.pairwise_filterMap];refine(hr _).imp fun {b b'} hbb x hx y hy=>?_;obtain⟨x1,x2⟩:=ea hx;obtain⟨y1,y2⟩:=ea hy;exact .inr ⟨by omega,by omega⟩
 . obtain⟨b,_,hx⟩:=List.mem_filterMap.1 hx;obtain⟨b',_,hy⟩:=List.mem_filterMap.1 hy;obtain⟨x1,x2⟩:=ea hx;obtain⟨y1,y2⟩:=ea hy;exact .inl (by omega)
def Q0I (v:Nat) (l:Int×Int):Option Ed:=if (v:Int)<l.1 then some ⟨v,l.1.toNat,l.2⟩ else none
def J7i (g:G):List Ed:=(List.range g.ids.length).flatMap fun v=>(gR g.ports v).filterMap (Q0I v)
theorem J9t {g:G} (hg:g.valid=true) {e:Ed}:e∈J7i g↔(e.a<e.b/\J28 g e.a e.b e.w):=by
 obtain⟨f1,f2,f3,f4,f5,f6,f7⟩:=J0f hg;simp only[J7i,List.mem_flatMap,List.mem_range,List.mem_filterMap,Q0I];constructor
 . rintro⟨v,hv,l,hl,h⟩;have hok:=(J0s.1 (f6 v (by omega))).1 l hl;split at h
   . rename_i q;cases h;refine⟨by show v<l.1.toNat;omega,⟨hv,by show l.1.toNat<_;omega,?_⟩⟩;show(((l.1.toNat:Nat):Int),l.2)∈_;rw[Int.toNat_of_nonneg (by omega)];exact hl
   . cases h
 . rintro⟨h1,h2⟩;refine⟨e.a,h2.lu,_,h2.mem,?_⟩;rw[if_pos (by simp only;omega)];simp
theorem J6y {g:G} (hg:g.valid=true):(J7i g).Nodup:=by
 obtain⟨f1,f2,f3,f4,f5,f6,f7⟩:=J0f hg;rw[J7i,List.nodup_iff_pairwise_ne,List.pairwise_flatMap];have ra:∀{v:Nat} {l:Int×Int} {e:Ed},Q0I v l=some e->e.a=v/\e.b=l.1.toNat/\(v:Int)<l.1:=fun {v l e} h=>by
  rw[Q0I] at h;split at h
  . rename_i q;cases h;exact⟨rfl,rfl,q⟩
  . cases h
 refine⟨fun v hv=>?_,List.pairwise_lt_range.imp fun {a a'} haa x hx y hy e=>?_⟩
 . rw[List.pairwise_filterMap];have hnd:=(J0s.1 (f6 v (by have:=List.mem_range.1 hv;omega))).2;rw[List.nodup_iff_pairwise_ne,List.pairwise_map] at hnd;refine hnd.imp fun {l l'} hne x hx y hy e=>?_;obtain⟨x1,x2,x3⟩:=ra hx;obtain⟨y1,y2,y3⟩:=ra hy;apply hne;rw[e] at x2;omega
 . obtain⟨l,_,hx⟩:=List.mem_filterMap.1 hx;obtain⟨l',_,hy⟩:=List.mem_filterMap.1 hy;have:=(ra hx).1;have:=(ra hy).1;rw[e] at *;omega
theorem J6n {g:G} (hg:g.valid=true) {L:List Ed} (hp:L.Perm (J7i g)) (hs:L.Pairwise fun e f=>¬ f.lt e):L=J0l g:=by
 obtain⟨f1,f2,f3,f4,f5,f6,f7⟩:=J0f hg;have hmem:∀e,e∈L↔(e.a<e.b/\J28 g e.a e.b e.w):=fun e=>by rw[hp.mem_iff,J9t hg]
 have hnd:L.Nodup:=hp.nodup_iff.2 (J6y hg);have hst:L.Pairwise Ed.lt:=by
  rw[List.nodup_iff_pairwise_ne] at hnd;have hboth:=hs.and hnd;refine List.Pairwise.imp_of_mem (fun {e f} he hf h=>?_) hboth;obtain⟨h1,h2⟩:=h;apply Classical.byContradiction;intro q;apply h2;have hab:e.a=f.a/\e.b=f.b:=by simp only[Ed.lt] at h1 q;omega
  have me:=((hmem e).1 he).2;have mf:=((hmem f).1 hf).2;have hndr:=(J0s.1 (f6 e.a (by have:=me.lu;omega))).2;rw[<- hab.1,<- hab.2] at mf;have:=J7r hndr me.mem mf.mem rfl;obtain⟨ea,eb,ew⟩:=e;obtain⟨fa,fb,fw⟩:=f;simp only at hab this;obtain⟨rfl,rfl⟩:=hab;rw[(Prod.mk.inj this).2]
 exact J4d J9J _ _ hst (J2B g) fun e=>by rw[hmem,J1J hg]
open Classical in
noncomputable def chE (g:G) (e:Ed):Bool:=decide (¬ Jn g e.w e.a e.b)
noncomputable def J2X (g:G) (a b:Nat):Option (Nat×Nat):=match edE g a b with
 | some e=>if chE g e=true then some (a,b) else none
 | none=>none
noncomputable def J2v (g:G):List (Nat×Nat):=(List.range g.ids.length).flatMap fun a=>(List.range g.ids.length).filterMap (J2X g a)
theorem J41 (g:G):((J0l g).filter (chE g)).map (fun e=>(e.a,e.b))=J2v g:=by
 rw[J0l,J2v,List.filter_flatMap,List.map_flatMap];congr 1;funext a;rw[List.filter_filterMap,List.map_filterMap];congr 1;funext b;rw[J2X];cases h:edE g a b with
 | none=>rfl
 | some e =>
   have:e.a=a/\e.b=b:=by
    rw[edE] at h;split at h
    . cases h;exact⟨rfl,rfl⟩
    . cases h
   simp only[Option.filter,Option.map];by_cases q:chE g e=true
   . rw[if_pos q,if_pos q];simp[this.1,this.2]
   . rw[if_neg q,if_neg q]
def prs (l:List Ed):List (Nat×Nat):=l.map fun e=>(e.a,e.b)
theorem J8I {g:G} (hg:g.valid=true) {B:List Ed} (hp:B.Perm (J0l g)) (hs:B.Pairwise fun e f=>e.w<=f.w) {i:Nat} {w:Int} (hlt:∀j,j<i->∀e,B[j]?=some e->e.w<w) (hge:∀j,i<=j->∀e,B[j]?=some e->w<=e.w) :
 LtD g w (prs (B.take i)):=by
 constructor
 . intro u v h;obtain⟨e,he,q⟩:=List.mem_map.1 h;simp only[Prod.mk.injEq] at q;obtain⟨rfl,rfl⟩:=q;obtain⟨j,hj,ej⟩:=List.getElem_of_mem he;rw[List.getElem_take] at ej;have hm:=((J1J hg).1 (hp.mem_iff.1 (List.mem_of_mem_take he))).2;exact⟨e.w,hm,hlt j (by simp at hj;omega) e (by rw[List.getElem?_eq_getElem (by simp at hj;omega),ej])⟩
 . intro u v k h hk;have key:∀{u v:Nat},J28 g u v k->u<v->(u,v)∈prs (B.take i):=fun {u v} h huv=>by
    have hm:(⟨u,v,k⟩:Ed)∈B:=hp.mem_iff.2 ((J1J hg).2 ⟨huv,h⟩);obtain⟨j,hj,ej⟩:=List.getElem_of_mem hm;have hji:j<i:=by
     apply Nat.lt_of_not_le;intro q;have:=hge j q ⟨u,v,k⟩ (by rw[List.getElem?_eq_getElem hj,ej]);simp only at this;omega
    refine List.mem_map.2 ⟨⟨u,v,k⟩,?_,rfl⟩;rw[<- ej];exact List.mem_iff_getElem.2 ⟨j,by simp;omega,by rw[List.getElem_take]⟩
   rcases Nat.lt_trichotomy u v with q|q|q
   . exact .inl (key h q)
   . exfalso;subst q;obtain⟨f1,f2,f3,f4,f5,f6,f7⟩:=J0f hg;have:=(J0s.1 (f6 u (by have:=h.lu;omega))).1 _ h.mem;simp only at this;omega
   . exact .inr (key (h.symm hg) q)
abbrev gE (L:List Ed) (i:Nat):Ed:=L.getD i default
def eF (L:List Ed):Nat->Nat->V:=fun i j=>match j with
 | 0=>.int .i64 (gE L i).a
 | 1=>.int .i64 (gE L i).b
 | _=>.int .i64 (gE L i).w
structure Wo (lt:Ed->Ed->Prop):Prop where
 asy:∀x y,lt x y->¬ lt y x
 nt:∀x y z,¬ lt y x->¬ lt z y->¬ lt z x
def swE (L:List Ed) (i j:Nat):List Ed:=(L.set i (gE L j)).set j (gE L i)
theorem J7e (L:List Ed) (i j:Nat):(swE L i j).length=L.length:=by simp[swE]
theorem J2h {L:List Ed} {i j:Nat} (hi:i<L.length) (hj:j<L.length) (k:Nat):gE (swE L i j) k=if k=j then gE L i else if k=i then gE L j else gE L k:=by
 simp only[gE,swE,List.getD,List.getElem?_set,List.length_set];by_cases e:k=j
 . subst e;simp[hj]
 . rw[if_neg (fun q=>e q.symm),if_neg e];by_cases e2:k=i
   . subst e2;simp[hi]
   . rw[if_neg (fun q=>e2 q.symm),if_neg e2]
theorem Q42 {l m:List Ed} (hl:l.length=m.length) (h:∀k,k<l.length->gE l k=gE m k):l=m :=
 List.ext_getElem hl fun k h1 h2=>by have:=h k h1;simpa[gE,List.getD,h1,h2] using this
theorem Q1a {L:List Ed} {i:Nat} (hi:i+1<L.length):(swE L (i+1) i).Perm L:=by
 have e:L=L.take i++(gE L i::gE L (i+1)::L.drop (i+2)):=by
  have h1:L.drop i=gE L i::L.drop (i+1):=by rw[List.drop_eq_getElem_cons (by omega)];simp[gE,List.getD,show i<L.length by omega]
  have h2:L.drop (i+1)=gE L (i+1)::L.drop (i+2):=by rw[List.drop_eq_getElem_cons (by omega)];simp[gE,List.getD,hi]
  rw[<- h2,<- h1,List.take_append_drop]
 have e2:swE L (i+1) i=L.take i++(gE L (i+1)::gE L i::L.drop (i+2)):=by
  refine Q42 (by rw[J7e];simp;omega) fun k hk=>?_;rw[J7e] at hk;rw[J2h hi (by omega)];have ht:(L.take i).length=i:=by simp;omega
  simp only[gE,List.getD];rcases Nat.lt_trichotomy k i with q|q|q
  . rw[if_neg (by omega),if_neg (by omega),List.getElem?_append_left (by omega),List.getElem?_take,if_pos q]
  . subst q;rw[if_pos rfl,List.getElem?_append_right (by omega),ht];simp
  . rw[if_neg (by omega),List.getElem?_append_right (by omega),ht];by_cases q2:k=i+1
    . subst q2;rw[if_pos rfl,show i+1-i=1 by omega];simp
    . rw[if_neg q2];obtain⟨d,rfl⟩:∃d,k=i+2+d:=⟨k-(i+2),by omega⟩;rw[show i+2+d-i=d+2 by omega];simp
 rw[e2]
 conv=>rhs;rw[e]
 exact(List.Perm.swap _ _ _).append_left _
def SoI (lt:Ed->Ed->Prop) (L:List Ed) (i:Nat):Prop:=∀p q,p<q->q<i->¬ lt (gE L q) (gE L p)
structure SoJ (lt:Ed->Ed->Prop) (L:List Ed) (i j:Nat):Prop where
 le:j<=i
 but:∀p q,p<q->q<=i->p≠j->q≠j->¬ lt (gE L q) (gE L p)
 behind:∀q,j<q->q<=i->¬ lt (gE L q) (gE L j)
theorem SoJ.start {lt:Ed->Ed->Prop} {L:List Ed} {i:Nat} (h:SoI lt L i):SoJ lt L i i :=
 ⟨Nat.le_refl _,fun p q h1 h2 h3 h4=>h p q h1 (by omega),fun q h1 h2=>by omega⟩
theorem SoJ.done {lt:Ed->Ed->Prop} (hw:Wo lt) {L:List Ed} {i j:Nat} (h:SoJ lt L i j) (hj:j=0\/¬ lt (gE L j) (gE L (j-1))):SoI lt L (i+1):=by
 intro p q h1 h2;by_cases e:q=j
 . subst e;rcases hj with hj|hj
   . omega
   . by_cases e2:p=q-1
     . rw[e2];exact hj
     . exact hw.nt _ _ _ (h.but p (q-1) (by omega) (by omega) (by omega) (by omega)) hj
 . by_cases e2:p=j
   . subst e2;exact h.behind q h1 (by omega)
   . exact h.but p q h1 (by omega) e2 e
theorem SoJ.step {lt:Ed->Ed->Prop} (hw:Wo lt) {L:List Ed} {i j:Nat} (h:SoJ lt L i (j+1)) (hi:i<L.length) (hlt:lt (gE L (j+1)) (gE L j)):SoJ lt (swE L (j+1) j) i j:=by
 have hle:=h.le;have hg:=fun k=>J2h (L:=L) (i:=j+1) (j:=j) (by omega) (by omega) k;refine⟨by omega,fun p q h1 h2 h3 h4=>?_,fun q h1 h2=>?_⟩
 . rw[hg,hg,if_neg h4,if_neg h3];by_cases e:q=j+1
   . rw[if_pos e,if_neg (by omega)];exact h.but p j (by omega) (by omega) (by omega) (by omega)
   . rw[if_neg e];by_cases e2:p=j+1
     . rw[if_pos e2];exact h.but j q (by omega) h2 (by omega) e
     . rw[if_neg e2];exact h.but p q h1 h2 e2 e
 . rw[hg,hg,if_neg (by omega),if_pos rfl];by_cases e:q=j+1
   . rw[if_pos e];exact hw.asy _ _ hlt
   . rw[if_neg e];exact h.behind q (by omega) h2
theorem SoI.pairwise {lt:Ed->Ed->Prop} {L:List Ed} (h:SoI lt L L.length):L.Pairwise fun e f=>¬ lt f e:=by
 rw[List.pairwise_iff_getElem];intro i j h1 h2 h3;have:=h i j h3 h2;simpa[gE,List.getD,h1,h2] using this
theorem SoI.one {lt:Ed->Ed->Prop} {L:List Ed} {i:Nat} (h:i<=1):SoI lt L i:=fun p q h1 h2=>by omega
def ltW (e f:Ed):Prop:=e.w<f.w
theorem Q5p:Wo Ed.lt:=⟨fun x y h h'=>J9J x y h h',fun x y z h1 h2 h3=>by simp only[Ed.lt] at h1 h2 h3;omega⟩
theorem wo_w:Wo ltW:=⟨fun x y h h'=>by simp only[ltW] at h h';omega,fun x y z h1 h2 h3=>by simp only[ltW] at h1 h2 h3;omega⟩
instance (l:List IntKind):DecidableEq (KyS l):=KyS.dec l
abbrev KE:List IntKind:=[.i64,.i64,.i64]
def Q2z (e:Ed):KyT (.st KE):=((e.a:Int),(e.b:Int),e.w,())
theorem J75 {e f:Ed} (h:Q2z e=Q2z f):e=f:=by
 obtain⟨a,b,w⟩:=e;obtain⟨a',b',w'⟩:=f;obtain⟨h1,h⟩:=Prod.mk.inj h;obtain⟨h2,h⟩:=Prod.mk.inj h;obtain⟨h3,_⟩:=Prod.mk.inj h;simp only at h1 h2 h3;obtain rfl:a=a':=by omega
 obtain rfl:b=b':=by omega
 rw[h3]
theorem J7Z {α:Type} [DecidableEq α]:∀{l:List (α×V)} {k:α} {v:V},(∀p∈l,p.1≠k)->mput l k v=l++[(k,v)]
 | [],_,_,_=>rfl
 | (q,u)::r,k,v,h=>by
   rw[mput,if_neg (h (q,u) (by simp)),J7Z (fun p hp=>h p (by simp[hp]))];rfl
theorem J6H {α:Type} [DecidableEq α] {β:Type} {f:β->α} {v:β->V} (hf:∀x y,f x=f y->x=y):∀{l:List β} {x:β},x∈l->J1z (l.map fun x=>(f x,v x)) (f x)=some (v x)
 | [],_,h=>by simp at h
 | y::r,x,h=>by
   rw[List.map_cons,J1z];by_cases e:f y=f x
   . rw[if_pos e,hf _ _ e]
   . rw[if_neg e];rcases List.mem_cons.1 h with q|q
     . subst q;exact(e rfl).elim
     . exact J6H hf q
noncomputable def enM (g:G) (l:List Ed):List (KyT (.st KE)×V):=l.map fun e=>(Q2z e,.bool (chE g e))
theorem J6O {L:List Ed} {i:Nat} (h:i<L.length):L[i]=gE L i:=by simp[gE,List.getD,h]
theorem J5C {L:List Ed} {i:Nat} (h:i<L.length):L.take (i+1)=L.take i++[gE L i]:=by
 rw[List.take_succ_eq_append_getElem h,J6O h]
theorem Q3G (g:G) {B:List Ed} (hn:B.Nodup) {i:Nat} (hi:i<B.length) {v:V} (hv:v=.bool (chE g (gE B i))):mput (enM g (B.take i)) (Q2z (gE B i)) v=enM g (B.take (i+1)):=by
 rw[J7Z,J5C hi,enM,enM,List.map_append,hv]
 . rfl
 . intro p hp q;obtain⟨e,he,rfl⟩:=List.mem_map.1 hp;have:=J75 q;subst this;obtain⟨j,hj,ej⟩:=List.getElem_of_mem he;simp at hj;rw[List.getElem_take,J6O (by omega)] at ej;have hp:=List.pairwise_iff_getElem.1 (List.nodup_iff_pairwise_ne.1 hn) j i (by omega) hi (by omega);rw[J6O,J6O] at hp;exact hp ej
theorem Q10 (g:G) {B:List Ed} {e:Ed} (he:e∈B):J1z (enM g B) (Q2z e)=some (.bool (chE g e)):=J6H (fun _ _ h=>J75 h) he
theorem Q2E:∃f:G->List Ed->List (KyT (.st KE)×V),∀g l,f g l=enM g l:=⟨enM,fun _ _=>rfl⟩
noncomputable def enX:G->List Ed->List (KyT (.st KE)×V):=Classical.choose Q2E
theorem J8e (g:G) (l:List Ed):enX g l=enM g l:=Classical.choose_spec Q2E g l
theorem Q3F (g:G) (B:List Ed):enX g (B.take 0)=[]:=by rw[J8e];rfl
theorem Q3E (g:G) {B:List Ed} (hn:B.Nodup) {i:Nat} (hi:i<B.length) {v:V} (hv:v=.bool (chE g (gE B i))):mput (enX g (B.take i)) (Q2z (gE B i)) v=enX g (B.take (i+1)):=by
 rw[J8e,J8e];exact Q3G g hn hi hv
theorem Q1Z (g:G) {B:List Ed} {e:Ed} (he:e∈B):J1z (enX g B) (Q2z e)=some (.bool (chE g e)):=by
 rw[J8e];exact Q10 g he
structure ByW (g:G) (B:List Ed):Prop where
 perm:B.Perm (J0l g)
 so:SoI ltW B B.length
theorem ByW.le {g:G} {B:List Ed} (h:ByW g B) {i j:Nat} (hij:i<=j) (hj:j<B.length):(gE B i).w<=(gE B j).w:=by
 by_cases e:i=j
 . subst e;exact Int.le_refl _
 . have:=h.so i j (by omega) hj;simp only[ltW] at this;omega
theorem ByW.nodup {g:G} (hg:g.valid=true) {B:List Ed} (h:ByW g B):B.Nodup:=by
 rw[h.perm.nodup_iff,List.nodup_iff_pairwise_ne];exact(J2B g).imp fun {e f} hl q=>by subst q;exact J9J _ _ hl hl
theorem ByW.edge {g:G} (hg:g.valid=true) {B:List Ed} (h:ByW g B) {i:Nat} (hi:i<B.length):(gE B i).a<(gE B i).b/\J28 g (gE B i).a (gE B i).b (gE B i).w:=by
 rw[<- J1J hg,<- h.perm.mem_iff,<- J6O hi];exact List.getElem_mem hi
structure Cls (g:G) (B:List Ed) (i:Nat) (p:Nat->Int):Prop where
 le:i<=B.length
 pt:PtI g.ids.length (prs (B.take i)) p
 bd:∀j,j<i->i<B.length->(gE B j).w<(gE B i).w
theorem Cls.start {g:G} (B:List Ed):Cls g B 0 (fun v=>(v:Int)):=⟨Nat.zero_le _,by simpa[prs] using PtI.start g.ids.length,fun j hj=>by omega⟩
theorem Cls.ch {g:G} (hg:g.valid=true) {B:List Ed} (hB:ByW g B) {i:Nat} {p:Nat->Int} (h:Cls g B i p) {k:Nat} (hik:i<=k) (hk:k<B.length) (hw:(gE B k).w=(gE B i).w) :
 (!decide (p (gE B k).a=p (gE B k).b))=chE g (gE B k):=by
 have he:=(hB.edge hg hk).2;have hD:LtD g (gE B k).w (prs (B.take i)):=by
  refine J8I hg hB.perm ?_ (fun j hj e ee=>?_) (fun j hj e ee=>?_)
  . refine hB.so.pairwise.imp fun {e f} q=>?_;simp only[ltW] at q;omega
  . have hjl:j<B.length:=by have:=h.le;omega
    rw[List.getElem?_eq_getElem hjl,J6O hjl] at ee;cases ee;rw[hw];exact h.bd j hj (by omega)
  . have hjl:j<B.length:=(List.getElem?_eq_some_iff.1 ee).1;rw[List.getElem?_eq_getElem hjl,J6O hjl] at ee;cases ee;rw[hw];exact hB.le hj hjl
 have hj:=Q5F hg hD (v:=(gE B k).b) he.lu;have hp:=h.pt _ _ he.lu he.lv;rw[chE,<- decide_not,decide_eq_decide,hj,hp];exact⟨fun q r=>q r.2,fun q r=>q ⟨he.lv,r⟩⟩
structure Jng (g:G) (B:List Ed) (i k m:Nat) (p:Nat->Int):Prop where
 le:i<=m/\m<=k/\k<=B.length
 pt:PtI g.ids.length (prs (B.take m)) p
theorem Jng.step {g:G} (hg:g.valid=true) {B:List Ed} (hB:ByW g B) {i k m:Nat} {p:Nat->Int} (h:Jng g B i k m p) (hm:m<k):Jng g B i k (m+1) (joP p (gE B m).a (gE B m).b):=by
 have hl:=h.le;have he:=(hB.edge hg (i:=m) (by omega)).2;refine⟨⟨by omega,by omega,hl.2.2⟩,?_⟩;rw[J5C (by omega),prs,List.map_append];exact h.pt.join he.lu he.lv
theorem Jng.next {g:G} {B:List Ed} (hB:ByW g B) {i k:Nat} {p:Nat->Int} (h:Jng g B i k k p) (hik:i<k) (hw:∀j,i<=j->j<k->(gE B j).w=(gE B i).w) (hn:k<B.length->(gE B k).w≠(gE B i).w):Cls g B k p:=by
 have hl:=h.le;refine⟨hl.2.2,h.pt,fun j hj hk=>?_⟩;have h1:=hB.le (i:=i) (j:=k) (by omega) hk;have h2:=hn hk;have h3:(gE B j).w<=(gE B i).w:=by
  by_cases e:i<=j
  . rw[hw j e hj];exact Int.le_refl _
  . exact hB.le (by omega) (by omega)
 omega
def cpI (a b:Int):Int:=if a<b then -1 else if a > b then 1 else 0
def edC (e:Ed):List V:=[.int .i64 e.a,.int .i64 e.b,.int .i64 e.w]
def edV (e:Ed):V:=.agg (edC e)
theorem J76 (a:Int):Ret Try.prog 37 [.int .i64 a] (.bool false):=by
 refine J0h rfl ?_;refine J0d mixed Try.func37 rfl hc37 hr37 rfl ?_
 repeat' ((conv=>whnf);first|(refine Br.bne ?_ ?_<;>intro _<;>try omega))
 all_goals (conv=>whnf)
 all_goals first
  | exact VLe.rfl
  | (exfalso;rename_i h;exact h rfl)
theorem J3C (a b:Int):Ret Try.prog 18 [.int .i64 a,.int .i64 b] (.int .i64 (cpI a b)):=by
 have h1:=J76 a;have h2:=J76 b;refine J0h rfl ?_;refine J0d mixed Try.func18 rfl hc18 hr18 rfl ?_
 repeat' ((conv=>whnf);first|(refine Br.ff ?_)|(refine Br.dec ?_ ?_<;>intro _<;>try omega)|(refine h1.go ?_)|(refine h2.go ?_))
 all_goals (conv=>whnf)
 all_goals exact VLe.int (by rw[cpI];repeat' split;all_goals first|rfl|omega)
theorem Q5y (a b:Int):Ret Try.prog 35 [.fz 2 1 false (vI [a,b])] (.int .i64 (if a=0 then b else a)):=by
 refine J0h rfl ?_;refine J0d mixed Try.func35 rfl hc35 hr35 rfl ?_;have e0:vI [a,b] 0 0=.int .i64 a:=rfl;have e1:vI [a,b] 1 0=.int .i64 b:=rfl
 repeat' ((conv=>whnf);first|fail)
 all_goals (conv=>whnf)
 refine J04 mixed 3 ?_
 repeat' ((conv=>whnf);first|(refine Br.tt ?_)|(refine Br.ff ?_)|(refine Br.bne ?_ ?_<;>intro _<;>try omega)|(refine Ar.q ?_)|(refine Ix.mk 0 rfl (by omega) ?_)|(refine Ix.mk 1 rfl (by omega) ?_))
 all_goals (conv=>whnf)
 all_goals first
  | (rename_i h;have h:a≠0:=h;rw[if_neg h];exact VLe.rfl)
  | (rename_i h _;have h:a=0:=h;rw[if_pos h];exact VLe.rfl)
  | (rename_i h h2;have h:a=0:=h;have h2:b=0:=h2;rw[if_pos h,h2];exact VLe.rfl)
def cfE (x y:Ed):Int:=if cpI x.a y.a=0 then cpI x.b y.b else cpI x.a y.a
theorem J6U (x y:Ed):cfE x y<0↔x.lt y:=by
 simp only[cfE,cpI,Ed.lt]
 repeat' split
 all_goals omega
theorem Q2H (x y:Ed):cpI x.w y.w<0↔ltW x y:=by
 simp only[cpI,ltW]
 repeat' split
 all_goals omega
theorem J7O (x y:Ed):Ret Try.prog 17 [edV x,edV y] (.int .i64 (cpI x.w y.w)):=by
 have h:=J3C x.w y.w;refine J0h rfl ?_;refine J0d mixed Try.func17 rfl hc17 hr17 rfl ?_
 repeat' ((conv=>whnf);first|(refine h.go ?_))
 all_goals (conv=>whnf)
 exact VLe.rfl
theorem J6Q (x y:Ed):Ret Try.prog 34 [edV x,edV y] (.int .i64 (cfE x y)):=by
 have h1:=J3C x.a y.a;have h2:=J3C x.b y.b;have h3:=Q5y (cpI x.a y.a) (cpI x.b y.b);refine J0h rfl ?_;refine J0d mixed Try.func34 rfl hc34 hr34 rfl ?_
 repeat' ((conv=>whnf);first|(refine h1.go ?_)|(refine h2.go ?_)|(refine And.intro rfl ?_)|(refine J1N h3 rfl ⟨by decide,VLe.fz rfl (fun h=>h) (J9b _ _ _ rfl rfl),True.intro⟩ ?_))
 all_goals (conv=>whnf)
 exact VLe.rfl
theorem J1K (e:Ed) (j:Nat) (hj:j<3) (L:List Ed) (i:Nat) (he:gE L i=e):eF L i j=(edC e).getD j default:=by
 subst he;rcases (show j=0\/j=1\/j=2 by omega) with rfl|rfl|rfl<;>rfl
theorem J9f (L:List Ed) (q:Nat) (hq:q+1<L.length) (i t:Nat) (ht:t<3):VLe (J2b (J2b (eF L) (q+1) 0 (edC (gE L q))) q 0 (edC (gE L (q+1))) i t) (eF (swE L (q+1) q) i t):=by
 apply VLe.of_eq;have hg:=J2h (L:=L) (i:=q+1) (j:=q) hq (by omega) i;have hl:∀e:Ed,(edC e).length=3:=fun e=>rfl;simp only[J2b,hl,Nat.sub_zero,Nat.zero_le,true_and,Nat.zero_add];by_cases e1:i=q
 . rw[if_pos e1] at hg;rw[if_pos ⟨e1,ht⟩,J1K _ t ht _ i hg]
 . rw[if_neg e1] at hg;rw[if_neg (fun h=>e1 h.1)];by_cases e2:i=q+1
   . rw[if_pos e2] at hg;rw[if_pos ⟨e2,ht⟩,J1K _ t ht _ i hg]
   . rw[if_neg e2] at hg;rw[if_neg (fun h=>e2 h.1),J1K _ t ht _ i hg,J1K _ t ht _ i rfl]
set_option maxHeartbeats 8000000 in
theorem Q4V (cl:FuncId) (hcl:J06 Try.prog cl=true) (cf:Ed->Ed->Int) (hcf:∀x y,Ret Try.prog cl [edV x,edV y] (.int .i64 (cf x y))) (lt:Ed->Ed->Prop) (hw:Wo lt) (hlt:∀x y,cf x y<0↔lt x y) (L0:List Ed) (hL:L0.length<=1000) :
 J0H Try.prog 50 [.vec 0 3 0 L0.length,.int .i64 0,.int .i64 L0.length,.fn (.func cl) false []] [(0,.vec L0.length 3 (eF L0))] [1,2,3,4,5,6,7,8,9,10,11,12,13,14,15,16,17,18,19,20,21,22,23,24,25,26,27,28,29]
  fun v own' _=>∃L:List Ed,(L.Perm L0/\SoI lt L L.length)/\v=.tup []/\own'=[(0,.vec L0.length 3 (eF L))]:=by
 refine J0d mixed Try.func50 rfl Q5I Q5G rfl ?_
 repeat' ((conv=>whnf);first|(refine Ar.q ?_))
 all_goals (conv=>whnf)
 refine J0A mixed [0,1,2,3] [] [1,2,3,4,5,6,7,8,9,10,11,12,13,14,15,16,17,18,19,20,21,22,23,24,25,26,27,28,29] [0] (fun p:Nat×List Ed=>[(8,.int .i64 ((p.1:Int)+1))]) (fun own p=>J2T own 0 (.vec L0.length 3 (eF p.2))) (fun m p=>m=L0.length-p.1/\(p.1=0\/p.1+1<=L0.length)/\p.2.Perm L0/\SoI lt p.2 (p.1+1)) L0.length (0,L0) ⟨rfl,.inl rfl,.refl _,SoI.one (by omega)⟩ rfl (fun _=>rfl) ?_ ?_
 . exact J0e (fun _ _=>[(0,some 0)])
 rintro m ⟨k,L1⟩ ⟨hm,hk,hp1,hs1⟩;simp only at hm hk hp1 hs1;have hl1:=hp1.length_eq;by_cases hkn:k+1<L0.length
 . dsimp only
   repeat' ((conv=>whnf);first|(refine Br.dec ?_ ?_<;>intro _<;>try omega))
   all_goals (conv=>whnf)
   refine J0A mixed [0,1,2,3,8] [] [1,2,3,4,5,6,7,8,9,10,11,12,13,14,15,16,17,18,19,20,21,22,23,24,25,26,27,28,29] [0] (fun p:Nat×List Ed=>[(9,.int .i64 p.1)]) (fun own p=>J2T own 0 (.vec L0.length 3 (eF p.2))) (fun m p=>m=p.1/\SoJ lt p.2 (k+1) p.1/\p.2.Perm L0) (k+1) (k+1,L1) ⟨rfl,SoJ.start hs1,hp1⟩ rfl (fun _=>rfl) ?_ ?_
   . exact J0e (fun _ _=>[(0,some 0)])
   rintro m ⟨j,L⟩ ⟨hm2,hj,hp⟩;simp only at hm2 hj hp;have hl:=hp.length_eq;have hle:=hj.le;subst hm2;rcases m with _|q
   . dsimp only
     repeat' ((conv=>whnf);first|(refine Br.ff ?_)|(refine Ar.q ?_))
     all_goals (conv=>whnf)
     refine⟨L0.length-(k+1),(k+1,L),by omega,⟨rfl,.inr (by omega),hp,hj.done hw (.inl rfl)⟩,?_⟩;exact J0e (fun _ _=>[(0,some 0)])
   . dsimp only;have h1:=hcf (gE L (0+(q+1))) (gE L (0+q));have z1:0+(q+1)=q+1:=Nat.zero_add _;have z2:0+q=q:=Nat.zero_add _;by_cases hc:cf (gE L (0+(q+1))) (gE L (0+q))<0
     . repeat' ((conv=>whnf);first|(refine Ix.w (q+1) ?_)|(refine Ix.w q ?_)|(refine Br.dec ?_ ?_<;>intro _<;>try omega)|(refine Ar.q ?_)|(refine Ltn.q ?_)|(refine Chk.mk hcl ?_)|(refine h1.go ?_))
       all_goals (conv=>whnf)
       rw[z1,z2] at hc;refine⟨q,(q,swE L (q+1) q),by omega,⟨rfl,hj.step hw (by omega) ((hlt _ _).1 hc),(Q1a (by omega)).trans hp⟩,?_⟩;refine J0g (fun _ _=>[(0,some 0)]) ?_ ?_ rfl
       . repeat' (first|exact tI|(refine J0a.fn ?_)|(refine⟨⟨_,rfl,?_⟩,?_⟩)|exact J0a.kf rfl|exact J0a.int (by omega)|exact J0a.q)
       . repeat' (first|exact⟨Nat.le_refl _,rfl,fun i t hi ht=>by simp only[Nat.zero_add];exact J9f L q (by omega) i t ht⟩|exact tI|(refine⟨⟨_,rfl,?_⟩,?_⟩))
     . repeat' ((conv=>whnf);first|(refine Ix.w (q+1) ?_)|(refine Ix.w q ?_)|(refine Br.dec ?_ ?_<;>intro _<;>try omega)|(refine Ar.q ?_)|(refine Ltn.q ?_)|(refine Chk.mk hcl ?_)|(refine h1.go ?_))
       all_goals (conv=>whnf)
       rw[z1,z2] at hc;refine⟨L0.length-(k+1),(k+1,L),by omega,⟨rfl,.inr (by omega),hp,hj.done hw (.inr (fun h=>hc ((hlt _ _).2 h)))⟩,?_⟩;exact J0e (fun _ _=>[(0,some 0)])
 . dsimp only
   repeat' ((conv=>whnf);first|(refine Br.dec ?_ ?_<;>intro _<;>try omega))
   all_goals (conv=>whnf)
   refine⟨L1,⟨hp1,?_⟩,rfl,rfl⟩;intro p q h1 h2;exact hs1 p q h1 (by omega)
open Go.Eng Go.Sort Go.Lib Go.Shelf
def J4R (e:Ed):List Value:=[.int .i64 e.a,.int .i64 e.b,.int .i64 e.w]
theorem Q1Y (e:Ed):(J4R e).length=3:=rfl
theorem dE (L:List Ed) (i:Nat):L.toArray[i]! = gE L i:=by
 simp[gE,List.getD,List.getElem!_eq_getElem?_getD]
theorem J95 (d:Array Ed) (i:Nat):gE d.toList i=d[i]!:=by rw[<- dE]
theorem Q2F (L:List Ed) (i j:Nat) (hj:j<3):∃x:Int,eF L i j=.int .i64 x/\(J4R (gE L i))[j]! = .int .i64 x:=by
 rcases (show j=0\/j=1\/j=2 by omega) with rfl|rfl|rfl
 . exact⟨_,rfl,rfl⟩
 . exact⟨_,rfl,rfl⟩
 . exact⟨_,rfl,rfl⟩
theorem Q3C (d:Array Ed) (i j:Nat) (hi:i<d.size) (hj:j<3):(flatK J4R 3 d)[i*3+j]! = (J4R d[i]!)[j]!:=by
 rw[get_flatK _ _ _ _ (by omega),show(i*3+j) / 3=i by omega,show(i*3+j) % 3=j by omega]
theorem Q4G (off:Nat) (d:Array Value) (c:Array Value) (t:Nat) (ht:t<d.size) (hc:off+d.size<=c.size):(putCells id off d c)[off+t]?=some d[t]!:=by
 simp only[putCells,Array.getElem?_mapIdx];rw[Array.getElem?_eq_getElem (by omega),Option.map_some,if_pos ⟨by omega,by omega⟩,show off+t-off=t by omega];rfl
theorem Q1t (off:Nat) (d:Array Value) (c:Array Value):(putCells id off d c).size=c.size:=by simp[putCells]
theorem J7d (w:World) (b base n:Nat) (d:Array Ed) (os:Array Obj):(sortWorldK J4R 3 w b base n d os).heap=w.heap.modify b (onCells (putCells id base (flatK J4R 3 d)))++os:=rfl
theorem Q3b {w:World} {b base n:Nat} {d:Array Ed} {os:Array Obj} {cells:Array Value} {ty:TypeId} (h:w.heap[b]?=some (.cells cells ty (0,0))):(sortWorldK J4R 3 w b base n d os).heap[b]?=some (.cells (putCells id base (flatK J4R 3 d) cells) ty (0,0)):=by
 have hb:b<w.heap.size:=by
  rcases Nat.lt_or_ge b w.heap.size with q|q
  . exact q
  . rw[Array.getElem?_eq_none q] at h;cases h
 rw[J7d,Array.getElem?_append_left (by simpa using hb),Array.getElem?_modify,if_pos rfl,h];rfl
theorem Q09 {w:World} {b base n:Nat} {d:Array Ed} {os:Array Obj} {q:Nat} (hq:q<w.heap.size) (hne:q≠b):(sortWorldK J4R 3 w b base n d os).heap[q]?=w.heap[q]?:=by
 rw[J7d,Array.getElem?_append_left (by simpa using hq),Array.getElem?_modify,if_neg (fun e=>hne e.symm)]
theorem J7g {P:Program} {f cl:FuncId} {cf:Ed->Ed->Int} {lt:Ed->Ed->Prop} (hlt:∀x y,cf x y<0↔lt x y) (L0:List Ed) (h0:0<L0.length)
 (hc:∀(blk off cap:Nat) (w:World),HoldsK J4R 3 w blk off L0.toArray->blk<w.heap.size->Calls P f #[.slice (some ⟨blk,off,none⟩) L0.toArray.size cap,.func (.func cl) #[] #[]] w fun e w' =>
   e=.returned (.tuple #[])/\∃d' n os,PermIn 0 L0.toArray.size L0.toArray d'/\SortedIn (ltOf cf) 0 L0.toArray.size d'/\w'=sortWorldK J4R 3 w blk off n d' os) (ks:List Nat) :
 J0H P f [.vec 0 3 0 L0.length,.fn (.func cl) false []] [(0,.vec L0.length 3 (eF L0))] ks fun v own' _=>∃L:List Ed,(L.Perm L0/\SoI lt L L.length)/\v=.tup []/\own'=[(0,.vec L0.length 3 (eF L))]:=by
 refine⟨fun M w σ us hlen hd hh=>?_⟩
 match us,hlen,hd with
 | [u0,u1],_,hd =>
   have d0:=hd 0 _ u0 rfl rfl;have d1:=hd 1 _ u1 rfl rfl;obtain⟨bo,base,κ,hσ,hn,hcase⟩:=hh.own.blk 0 _ (List.mem_singleton.2 rfl);rcases hcase with ⟨hk,_⟩ | ⟨b,ty,cells,rfl,hMb,hheap,hsz,hcells⟩
   . omega
   cases d0 with
   | vec _ _ _ _ _ bo' base' κ' c a hs' hcκ hl ha =>
     rw[hσ] at hs';cases hs';obtain⟨b',e1,rfl⟩:=ha (by omega);cases e1;cases d1 with
     | fn _ _ _ _ vs hvl hvd =>
       obtain rfl:vs=[]:=List.eq_nil_of_length_eq_zero hvl.symm;have hb:b<w.heap.size:=by
        rcases Nat.lt_or_ge b w.heap.size with q|q
        . exact q
        . rw[Array.getElem?_eq_none q] at hheap;cases hheap
       have hH:HoldsK J4R 3 w b base L0.toArray:=by
        intro t ht;rw[size_flatK,List.size_toArray] at ht;have hi:t / 3<L0.length:=by omega
        have hj:t % 3<3:=Nat.mod_lt _ (by omega);obtain⟨u,hu,_,hden⟩:=hcells (t / 3) (t % 3) hi hj;obtain⟨x,e2,e3⟩:=Q2F L0 (t / 3) (t % 3) hj;rw[e2] at hden;cases hden;have et:t / 3*3+t % 3=t:=by omega
        rw[et] at hu;refine⟨?_,?_⟩
        . rw[get_flatK _ _ _ _ (by simpa using ht),dE,id,e3];simp[World.cell?,hheap,hu]
        . simp[World.frozen?,hheap]
       have hcall:=hc b (base+0*3) c w (by simpa using hH) hb;rw[List.size_toArray] at hcall;refine hcall.mono ?_;rintro e w' ⟨rfl,d',n,os,hp,hs,rfl⟩;have hsz':d'.size=L0.length:=by have:=hp.1;simpa using this
       have hperm:d'.toList.Perm L0:=by
        have q:=hp.2.2;have e1:d'.extract 0 L0.length=d':=by rw[<- hsz'];simp
        have e2:L0.toArray.extract 0 L0.length=L0.toArray:=by simp
        rw[e1,e2] at q;simpa using q
       refine⟨M,σ,.tup [],[(0,.vec L0.length 3 (eF d'.toList))],ks,.tuple #[],rfl,.tup _ [] [] rfl (fun i v u h=>by simp at h),⟨⟨?_,?_,?_⟩,hh.fresh,hh.knodup⟩,⟨⟨rfl,⟨rfl,Nat.le_add_right _ _⟩,rfl,?_,?_,fun _ _ _=>Iff.rfl⟩,?_,Sg.le_refl _⟩,⟨fun _ h=>h,fun _ h _=>h,fun k hk=>.inl hk⟩,d'.toList,⟨hperm,?_⟩,rfl,rfl⟩
       . intro k blk hm;obtain⟨rfl,rfl⟩:=by simpa using hm
         refine⟨some b,base,κ,hσ,hn,.inr ⟨b,ty,_,rfl,hMb,by simpa using Q3b (d:=d') (os:=os) (n:=n) (base:=base) hheap,by rw[Q1t];exact hsz,fun i j hi hj=>?_⟩⟩;obtain⟨x,e2,e3⟩:=Q2F d'.toList i j hj;refine⟨.int .i64 x,?_,rfl,by rw[e2];exact .int _ _ _⟩;rw[Q4G _ _ _ _ (by rw[size_flatK];omega) (by rw[size_flatK];omega),Q3C _ _ _ (by omega) hj,<- J95,e3]
       . simp
       . intro k b1 k' b2 q h1 h2 hne;obtain⟨rfl,rfl⟩:=by simpa using h1
         obtain⟨rfl,rfl⟩:=by simpa using h2
         exact(hne rfl).elim
       . rw[J7d];simp
       . intro q hq hno;refine Q09 hq fun e=>hno ⟨0,_,List.mem_singleton.2 rfl,.inl ?_⟩;rw[e,J0p,hσ]
       . rintro q ⟨k,blk,hm,hq⟩;obtain⟨rfl,rfl⟩:=by simpa using hm
         rcases hq with hq|hq
         . exact .inl ⟨0,_,List.mem_singleton.2 rfl,.inl hq⟩
         . exact hq.elim
       . intro p q hpq hq hl2;rw[J95,J95] at hl2;have:=hs p q (by omega) hpq (by simpa[hsz'] using hq);rw[ltOf,decide_eq_false_iff_not] at this;exact this ((hlt _ _).2 hl2)
theorem J9g {L:List Ed} {i j:Nat} (hi:i<L.length) (hj:j<L.length):(swE L i j).Perm L:=by
 rw[List.perm_iff_count];intro x;have e1:gE L j=L[j]:=by simp[gE,List.getD,hj]
 have e2:gE L i=L[i]:=by simp[gE,List.getD,hi]
 rw[swE,List.count_set (by rw[List.length_set];exact hj),List.count_set hi,e1,e2];have c1:∀k (hk:k<L.length),(L[k] == x)=true->0<L.count x:=fun k hk e=>by
  have:=eq_of_beq e;rw[<- this];exact List.count_pos_iff.2 (List.getElem_mem hk)
 have h1:=c1 i hi;have h2:=c1 j hj;have h3:(L.set i L[j])[j]'(by rw[List.length_set];exact hj)=L[j]:=by
  rw[List.getElem_set];split
  . rfl
  . rfl
 rw[h3];by_cases q1:(L[i] == x)=true
 . have h1:=h1 q1;by_cases q2:(L[j] == x)=true
   . rw[if_pos q1,if_pos q2];omega
   . rw[if_pos q1,if_neg q2];omega
 . by_cases q2:(L[j] == x)=true
   . rw[if_neg q1,if_pos q2];omega
   . rw[if_neg q1,if_neg q2];omega
structure RgP (L L':List Ed) (a b:Nat):Prop where
 len:L'.length=L.length
 perm:L'.Perm L
 out:∀k,k<a\/b<=k->gE L' k=gE L k
 inn:∀k,a<=k->k<b->∃j,a<=j/\j<b/\gE L' k=gE L j
theorem RgP.refl (L:List Ed) (a b:Nat):RgP L L a b:=⟨rfl,.refl _,fun _ _=>rfl,fun k h1 h2=>⟨k,h1,h2,rfl⟩⟩
theorem RgP.trans {L M N:List Ed} {a b:Nat} (h:RgP L M a b) (h':RgP M N a b):RgP L N a b :=
 ⟨h'.len.trans h.len,h'.perm.trans h.perm,fun k q=>(h'.out k q).trans (h.out k q),fun k q1 q2=>by
   obtain⟨j,j1,j2,e⟩:=h'.inn k q1 q2;obtain⟨i,i1,i2,e2⟩:=h.inn j j1 j2;exact⟨i,i1,i2,e.trans e2⟩⟩
theorem RgP.wide {L M:List Ed} {a b c d:Nat} (h:RgP L M a b) (h1:c<=a) (h2:b<=d):RgP L M c d :=
 ⟨h.len,h.perm,fun k q=>h.out k (by omega),fun k q1 q2=>by
   by_cases q:a<=k/\k<b
   . obtain⟨j,j1,j2,e⟩:=h.inn k q.1 q.2;exact⟨j,by omega,by omega,e⟩
   . exact⟨k,q1,q2,h.out k (by omega)⟩⟩
theorem RgP.swap {L:List Ed} {a b i j:Nat} (hb:b<=L.length) (h1:a<=i) (h2:i<b) (h3:a<=j) (h4:j<b):RgP L (swE L i j) a b:=by
 have hg:=fun k=>J2h (L:=L) (i:=i) (j:=j) (by omega) (by omega) k;refine⟨J7e _ _ _,J9g (by omega) (by omega),fun k q=>?_,fun k q1 q2=>?_⟩
 . rw[hg,if_neg (by omega),if_neg (by omega)]
 . rw[hg];split
   . exact⟨i,h1,h2,rfl⟩
   . split
     . exact⟨j,h3,h4,rfl⟩
     . exact⟨k,q1,q2,rfl⟩
def SoR (lt:Ed->Ed->Prop) (L:List Ed) (a b:Nat):Prop:=∀p q,a<=p->p<q->q<b->¬ lt (gE L q) (gE L p)
variable {lt:Ed->Ed->Prop}
theorem SoR.one {L:List Ed} {a b:Nat} (h:b<=a+1):SoR lt L a b:=fun p q h1 h2 h3=>by omega
theorem SoR.congr {L M:List Ed} {a b:Nat} (h:SoR lt L a b) (he:∀k,a<=k->k<b->gE M k=gE L k):SoR lt M a b:=fun p q h1 h2 h3=>by
 rw[he p h1 (by omega),he q (by omega) h3];exact h p q h1 h2 h3
theorem SoR.part {L:List Ed} {a b c d:Nat} (h:SoR lt L a b) (h1:a<=c) (h2:d<=b):SoR lt L c d:=fun p q h3 h4 h5=>h p q (by omega) h4 (by omega)
theorem SoR.le (hw:Wo lt) {L:List Ed} {a b:Nat} (h:SoR lt L a b) {p q:Nat} (h1:a<=p) (h2:p<=q) (h3:q<b):¬ lt (gE L q) (gE L p):=by
 rcases Nat.lt_or_ge p q with e|e
 . exact h p q h1 e h3
 . obtain rfl:p=q:=by omega
   intro z;exact hw.asy _ _ z z
structure SoK (lt:Ed->Ed->Prop) (L:List Ed) (a i j:Nat):Prop where
 le:j<=i
 ge:a<=j
 but:∀p q,a<=p->p<q->q<=i->p≠j->q≠j->¬ lt (gE L q) (gE L p)
 behind:∀q,j<q->q<=i->¬ lt (gE L q) (gE L j)
theorem SoK.start {L:List Ed} {a i:Nat} (h:SoR lt L a i) (ha:a<=i):SoK lt L a i i :=
 ⟨Nat.le_refl _,ha,fun p q h0 h1 h2 h3 h4=>h p q h0 h1 (by omega),fun q h1 h2=>by omega⟩
theorem SoK.done (hw:Wo lt) {L:List Ed} {a i j:Nat} (h:SoK lt L a i j) (hj:j=a\/¬ lt (gE L j) (gE L (j-1))):SoR lt L a (i+1):=by
 have hge:=h.ge;intro p q h0 h1 h2;by_cases e:q=j
 . subst e;rcases hj with hj|hj
   . omega
   . by_cases e2:p=q-1
     . rw[e2];exact hj
     . exact hw.nt _ _ _ (h.but p (q-1) h0 (by omega) (by omega) (by omega) (by omega)) hj
 . by_cases e2:p=j
   . subst e2;exact h.behind q h1 (by omega)
   . exact h.but p q h0 h1 (by omega) e2 e
theorem SoK.step (hw:Wo lt) {L:List Ed} {a i j:Nat} (h:SoK lt L a i (j+1)) (ha:a<=j) (hi:i<L.length) (hlt:lt (gE L (j+1)) (gE L j)):SoK lt (swE L (j+1) j) a i j:=by
 have hle:=h.le;have hg:=fun k=>J2h (L:=L) (i:=j+1) (j:=j) (by omega) (by omega) k;refine⟨by omega,ha,fun p q h0 h1 h2 h3 h4=>?_,fun q h1 h2=>?_⟩
 . rw[hg,hg,if_neg h4,if_neg h3];by_cases e:q=j+1
   . rw[if_pos e,if_neg (by omega)];exact h.but p j h0 (by omega) (by omega) (by omega) (by omega)
   . rw[if_neg e];by_cases e2:p=j+1
     . rw[if_pos e2];exact h.but j q ha (by omega) h2 (by omega) e
     . rw[if_neg e2];exact h.but p q h0 h1 h2 e2 e
 . rw[hg,hg,if_neg (by omega),if_pos rfl];by_cases e:q=j+1
   . rw[if_pos e];exact hw.asy _ _ hlt
   . rw[if_neg e];exact h.behind q (by omega) h2
def swI (x y n k:Nat):Nat:=if x<=k/\k<x+n then k+(y-x) else if y<=k/\k<y+n then k-(y-x) else k
def SwP (L M:List Ed) (x y n:Nat):Prop:=∀k,gE M k=gE L (swI x y n k)
theorem SwP.zero (L:List Ed) (x y:Nat):SwP L L x y 0:=fun k=>by rw[swI,if_neg (by omega),if_neg (by omega)]
theorem SwP.next {L M:List Ed} {x y n:Nat} (h:SwP L M x y n) (hl:M.length=L.length) (hxy:x+(n+1)<=y) (hy:y+n<L.length):SwP L (swE M (x+n) (y+n)) x y (n+1):=fun k=>by
 rw[J2h (by omega) (by omega),h,h,h];unfold swI;by_cases e1:k=y+n
 . subst e1;rw[if_pos rfl];congr 1
   repeat' split
   all_goals omega
 . rw[if_neg e1];by_cases e2:k=x+n
   . subst e2;rw[if_pos rfl];congr 1
     repeat' split
     all_goals omega
   . rw[if_neg e2];congr 1
     repeat' split
     all_goals omega
def roI (s i j k:Nat):Nat:=if s<=k/\k<s+j then k+i else if s+j<=k/\k<s+i+j then k-j else k
def RoP (L:List Ed) (T:Nat->Ed) (s i j:Nat):Prop:=∀k,T k=gE L (roI s i j k)
theorem RoP.fst {L M:List Ed} {T:Nat->Ed} {s i j:Nat} (h:RoP L T s i j) (hij:j<i) (hs:SwP L M s (s+i) j):RoP M T (s+j) (i-j) j:=fun k=>by
 rw[h,hs];congr 1;unfold swI roI
 repeat' split
 all_goals omega
theorem RoP.snd {L M:List Ed} {T:Nat->Ed} {s i j:Nat} (h:RoP L T s i j) (hij:i<j) (hs:SwP L M s (s+j) i):RoP M T s i (j-i):=fun k=>by
 rw[h,hs];congr 1;unfold swI roI
 repeat' split
 all_goals omega
theorem RoP.last {L M:List Ed} {T:Nat->Ed} {s i:Nat} (h:RoP L T s i i) (hs:SwP L M s (s+i) i) (k:Nat):T k=gE M k:=by
 rw[h,hs];congr 1;unfold swI roI
 repeat' split
 all_goals omega
def goI (a k q:Nat):Nat:=if q=k then a else if a<=q/\q<k then q+1 else q
def UpP (L M:List Ed) (a k:Nat):Prop:=∀q,gE M q=gE L (goI a k q)
theorem UpP.zero (L:List Ed) (a:Nat):UpP L L a a:=fun q=>by
 congr 1;unfold goI
 repeat' split
 all_goals omega
theorem UpP.next {L M:List Ed} {a k:Nat} (h:UpP L M a k) (ha:a<=k) (hl:k+1<M.length):UpP L (swE M k (k+1)) a (k+1):=fun q=>by
 rw[J2h (by omega) hl,h,h,h];unfold goI;by_cases e1:q=k+1
 . subst e1;rw[if_pos rfl];congr 1
   repeat' split
   all_goals omega
 . rw[if_neg e1];by_cases e2:q=k
   . subst e2;rw[if_pos rfl];congr 1
     repeat' split
     all_goals omega
   . rw[if_neg e2];congr 1
     repeat' split
     all_goals omega
theorem UpP.sorted (hw:Wo lt) {L M:List Ed} {a b i:Nat} (h:UpP L M a (i-1)) (ha:a+1<=i) (hi:i<=b) (hs:SoR lt L (a+1) b) (h1:∀k,a+1<=k->k<i->lt (gE L k) (gE L a)) (h2:∀k,i<=k->k<b->¬ lt (gE L k) (gE L a)):SoR lt M a b:=by
 intro p q hp hpq hq;rw[h,h];unfold goI;by_cases e1:q=i-1
 . rw[if_pos e1,if_neg (by omega),if_pos (by omega)];exact hw.asy _ _ (h1 _ (by omega) (by omega))
 . rw[if_neg e1];by_cases e2:p=i-1
   . rw[if_pos e2,if_neg (by omega)];exact h2 _ (by omega) hq
   . rw[if_neg e2];by_cases e3:a<=p/\p<i-1
     . rw[if_pos e3];by_cases e4:a<=q/\q<i-1
       . rw[if_pos e4];exact hs _ _ (by omega) (by omega) (by omega)
       . rw[if_neg e4];exact hs _ _ (by omega) (by omega) (by omega)
     . rw[if_neg e3,if_neg (by omega)];exact hs _ _ (by omega) hpq hq
def dnI (m k q:Nat):Nat:=if q=k then m else if k<q/\q<=m then q-1 else q
def DnP (L M:List Ed) (m k:Nat):Prop:=∀q,gE M q=gE L (dnI m k q)
theorem DnP.zero (L:List Ed) (m:Nat):DnP L L m m:=fun q=>by
 congr 1;unfold dnI
 repeat' split
 all_goals omega
theorem DnP.next {L M:List Ed} {m k:Nat} (h:DnP L M m (k+1)) (hk:k+1<=m) (hl:k+1<M.length):DnP L (swE M (k+1) k) m k:=fun q=>by
 rw[J2h hl (by omega),h,h,h];unfold dnI;by_cases e1:q=k
 . subst e1;rw[if_pos rfl];congr 1
   repeat' split
   all_goals omega
 . rw[if_neg e1];by_cases e2:q=k+1
   . subst e2;rw[if_pos rfl];congr 1
     repeat' split
     all_goals omega
   . rw[if_neg e2];congr 1
     repeat' split
     all_goals omega
theorem DnP.sorted (hw:Wo lt) {L M:List Ed} {a m i:Nat} (h:DnP L M m i) (ha:a<=i) (hi:i<=m) (hs:SoR lt L a m) (h1:∀k,a<=k->k<i->¬ lt (gE L m) (gE L k)) (h2:∀k,i<=k->k<m->lt (gE L m) (gE L k)):SoR lt M a (m+1):=by
 intro p q hp hpq hq;rw[h,h];unfold dnI;by_cases e1:q=i
 . rw[if_pos e1,if_neg (by omega),if_neg (by omega)];exact h1 _ hp (by omega)
 . rw[if_neg e1];by_cases e2:p=i
   . rw[if_pos e2,if_pos (by omega)];exact hw.asy _ _ (h2 _ (by omega) (by omega))
   . rw[if_neg e2];by_cases e3:i<p/\p<=m
     . rw[if_pos e3,if_pos (by omega)];exact hs _ _ (by omega) (by omega) (by omega)
     . rw[if_neg e3];by_cases e4:i<q/\q<=m
       . rw[if_pos e4];exact hs _ _ hp (by omega) (by omega)
       . rw[if_neg e4];exact hs _ _ hp hpq (by omega)
structure J8V (L:List Ed) (lt:Ed->Ed->Prop) (a m b mid s r:Nat):Prop where
 am:a<m
 mb:m<b
 md:mid=(a+b) / 2
 sr:s<=r
 lo:(if mid<m then mid+m-b else a)<=s
 hi:r<=(if mid<m then mid else m)
 lefC:∀c,(if mid<m then mid+m-b else a)<=c->c<s->¬ lt (gE L (mid+m-1-c)) (gE L c)
 rigC:∀c,r<=c->c<(if mid<m then mid else m)->lt (gE L (mid+m-1-c)) (gE L c)
theorem J8V.start {L:List Ed} {a m b:Nat} (am:a<m) (mb:m<b):J8V L lt a m b ((a+b) / 2) (if (a+b) / 2<m then (a+b) / 2+m-b else a) (if (a+b) / 2<m then (a+b) / 2 else m):=by
 refine⟨am,mb,rfl,?_,Nat.le_refl _,Nat.le_refl _,fun c h1 h2=>by omega,fun c h1 h2=>by omega⟩;split<;>omega
theorem J8V.up (hw:Wo lt) {L:List Ed} {a m b mid s r c:Nat} (h:J8V L lt a m b mid s r) (sA:SoR lt L a m) (sB:SoR lt L m b) (h1:s<=c) (h2:c<r) (hc:¬ lt (gE L (mid+m-1-c)) (gE L c)):J8V L lt a m b mid (c+1) r:=by
 obtain⟨am,mb,md,sr,lo,hi,lefC,rigC⟩:=h;refine⟨am,mb,md,by omega,by omega,hi,fun d q1 q2=>?_,rigC⟩;by_cases e:d<s
 . exact lefC d q1 e
 . have r1:¬ lt (gE L c) (gE L d):=sA.le hw (by split at lo<;>omega) (by omega) (by split at hi<;>omega);have r2:¬ lt (gE L (mid+m-1-d)) (gE L (mid+m-1-c)):=sB.le hw (by split at hi<;>omega) (by omega) (by split at lo<;>omega);exact hw.nt _ _ _ r1 (hw.nt _ _ _ hc r2)
theorem J8V.down (hw:Wo lt) {L:List Ed} {a m b mid s r c:Nat} (h:J8V L lt a m b mid s r) (sA:SoR lt L a m) (sB:SoR lt L m b) (h1:s<=c) (h2:c<r) (hc:lt (gE L (mid+m-1-c)) (gE L c)):J8V L lt a m b mid s c:=by
 obtain⟨am,mb,md,sr,lo,hi,lefC,rigC⟩:=h;refine⟨am,mb,md,by omega,lo,by omega,lefC,fun d q1 q2=>?_⟩;by_cases e:r<=d
 . exact rigC d e q2
 . have r1:¬ lt (gE L d) (gE L c):=sA.le hw (by split at lo<;>omega) (by omega) (by split at hi<;>omega);have r2:¬ lt (gE L (mid+m-1-c)) (gE L (mid+m-1-d)):=sB.le hw (by split at hi<;>omega) (by omega) (by split at lo<;>omega);refine Classical.byContradiction fun z=>?_;have z1:¬ lt (gE L (mid+m-1-d)) (gE L c):=hw.nt _ _ _ r1 z;exact hw.nt _ _ _ z1 r2 hc
structure Q0F (L:List Ed) (lt:Ed->Ed->Prop) (a m b mid s e:Nat):Prop where
 ha_s:a<=s
 sm:s<=m
 me:m<=e
 eb:e<=b
 sum:s+e=mid+m
 smid:s<=mid
 mide:mid<=e
 mida:a<=mid
 midb:mid<=b
 cut:∀x y,((a<=x/\x<s)\/(m<=x/\x<e))->((s<=y/\y<m)\/(e<=y/\y<b))->¬ lt (gE L y) (gE L x)
theorem J8V.done (hw:Wo lt) {L:List Ed} {a m b mid s:Nat} (h:J8V L lt a m b mid s s) (sA:SoR lt L a m) (sB:SoR lt L m b):Q0F L lt a m b mid s (mid+m-s):=by
 obtain⟨am,mb,md,sr,lo,hi,lefC,rigC⟩:=h;refine⟨by split at lo<;>omega,by split at hi<;>omega,by split at hi<;>omega,by split at lo<;>omega,by split at hi<;>omega,by split at hi<;>omega,by split at hi<;>omega,by omega,by omega,fun x y hx hy=>?_⟩;rcases hx with ⟨x1,x2⟩ | ⟨x1,x2⟩
 . rcases hy with ⟨y1,y2⟩ | ⟨y1,y2⟩
   . exact sA _ _ x1 (by omega) y2
   . have l:=lefC (s-1) (by split at lo<;>split<;>omega) (by omega);have r1:¬ lt (gE L (s-1)) (gE L x):=sA.le hw x1 (by omega) (by split at hi<;>omega);have r2:¬ lt (gE L y) (gE L (mid+m-1-(s-1))):=sB.le hw (by split at hi<;>omega) (by omega) y2;exact hw.nt _ _ _ (hw.nt _ _ _ r1 l) r2
 . rcases hy with ⟨y1,y2⟩ | ⟨y1,y2⟩
   . have l:=hw.asy _ _ (rigC s (Nat.le_refl _) (by split at hi<;>split<;>omega));have r1:¬ lt (gE L y) (gE L s):=sA.le hw (by split at lo<;>omega) y1 y2;have r2:¬ lt (gE L (mid+m-1-s)) (gE L x):=sB.le hw x1 (by omega) (by split at lo<;>omega);exact hw.nt _ _ _ (hw.nt _ _ _ r2 l) r1
   . exact sB _ _ x1 (by omega) y2
theorem Q0F.join (hw:Wo lt) {L L1 L2 L3:List Ed} {a m b mid s e:Nat} (h:Q0F L lt a m b mid s e) (h1:∀k,gE L1 k=gE L (roI s (m-s) (e-m) k)) (h2:RgP L1 L2 a mid) (h3:RgP L2 L3 mid b) (s2:SoR lt L2 a mid) (s3:SoR lt L3 mid b):SoR lt L3 a b:=by
 obtain⟨ha_s,sm,me,eb,sum,smid,mide,mida,midb,cut⟩:=h;intro p q h4 h5 h6;by_cases e1:q<mid
 . rw[h3.out p (by omega),h3.out q (by omega)];exact s2 p q h4 h5 e1
 . by_cases e2:mid<=p
   . exact s3 p q e2 h5 h6
   . rw[h3.out p (by omega)];obtain⟨x,x1,x2,ex⟩:=h2.inn p h4 (by omega);obtain⟨y,y1,y2,ey⟩:=h3.inn q (by omega) h6;rw[ex,ey,h2.out y (by omega),h1,h1];refine cut _ _ ?_ ?_
     . simp only[roI]
       repeat' split
       all_goals omega
     . simp only[roI]
       repeat' split
       all_goals omega
theorem Q0F.left {L L1:List Ed} {a m b mid s e:Nat} (h:Q0F L lt a m b mid s e) (h1:∀k,gE L1 k=gE L (roI s (m-s) (e-m) k)) (sA:SoR lt L a m) (sB:SoR lt L m b):SoR lt L1 a s/\SoR lt L1 s mid/\SoR lt L1 mid e/\SoR lt L1 e b:=by
 obtain⟨ha_s,sm,me,eb,sum,smid,mide,mida,midb,cut⟩:=h;refine⟨fun p q q1 q2 q3=>?_,fun p q q1 q2 q3=>?_,fun p q q1 q2 q3=>?_,fun p q q1 q2 q3=>?_⟩
 . rw[h1,h1,roI,if_neg (by omega),if_neg (by omega),roI,if_neg (by omega),if_neg (by omega)];exact sA _ _ q1 q2 (by omega)
 . rw[h1,h1,roI,if_pos (by omega),roI,if_pos (by omega)];exact sB _ _ (by omega) (by omega) (by omega)
 . rw[h1,h1,roI,if_neg (by omega),if_pos (by omega),roI,if_neg (by omega),if_pos (by omega)];exact sA _ _ (by omega) (by omega) (by omega)
 . rw[h1,h1,roI,if_neg (by omega),if_neg (by omega),roI,if_neg (by omega),if_neg (by omega)];exact sB _ _ (by omega) (by omega) (by omega)
inductive J7A (lt:Ed->Ed->Prop) (L:List Ed) (s n:Nat):Nat->Prop
 | end_ {a:Nat} (h:n<=a):J7A lt L s n a
 | run {a:Nat} (h:SoR lt L a (min (a+s) n)) (hr:J7A lt L s n (a+s)):J7A lt L s n a
inductive J2V (lt:Ed->Ed->Prop) (L:List Ed) (s:Nat):Nat->Prop
 | zero:J2V lt L s 0
 | run {a:Nat} (hr:J2V lt L s a) (h:SoR lt L a (a+s)):J2V lt L s (a+s)
theorem J7A.congr {L M:List Ed} {s n a:Nat} (h:J7A lt L s n a) (he:∀k,a<=k->gE M k=gE L k):J7A lt M s n a:=by
 induction h with
 | end_ h=>exact .end_ h
 | run h hr ih=>exact .run (h.congr fun k h1 h2=>he k h1) (ih fun k hk=>he k (by omega))
theorem J2V.congr {L M:List Ed} {s a:Nat} (h:J2V lt L s a) (he:∀k,k<a->gE M k=gE L k):J2V lt M s a:=by
 induction h with
 | zero=>exact .zero
 | run hr h ih=>exact .run (ih fun k hk=>he k (by omega)) (h.congr fun k h1 h2=>he k h2)
theorem J2V.runs {L:List Ed} {s n a:Nat} (h:J2V lt L s a) (hr:J7A lt L s n a):J7A lt L s n 0:=by
 induction h with
 | zero=>exact hr
 | run _ h ih=>exact ih (.run (h.part (Nat.le_refl _) (by omega)) hr)
theorem J7A.head {L:List Ed} {s n a:Nat} (h:J7A lt L s n a) (ha:a<n):SoR lt L a (min (a+s) n)/\J7A lt L s n (a+s):=by
 cases h with
 | end_ h=>omega
 | run h hr=>exact⟨h,hr⟩
end Go.Proofs.Ytojoidgjneapfaa
namespace Go.Proofs.Ytojoidgjneapfaa
open Go.Eng
set_option maxRecDepth 100000
set_option linter.unusedVariables false
abbrev J6b:List Nat:=[1,2,3,4,5,6,7,8,9,10,11,12,13,14,15,16,17,18,19,20,21,22,23,24,25,26,27,28,29]
abbrev oE (n:Nat) (L:List Ed):Own:=[(0,.vec n 3 (eF L))]
theorem J5D (L:List Ed) {i j:Nat} (hi:i<L.length) (hj:j<L.length) (q t:Nat) (ht:t<3):VLe (J2b (J2b (eF L) i 0 (edC (gE L j))) j 0 (edC (gE L i)) q t) (eF (swE L i j) q t):=by
 apply VLe.of_eq;have hg:=J2h (L:=L) hi hj q;have hl:∀e:Ed,(edC e).length=3:=fun e=>rfl;simp only[J2b,hl,Nat.sub_zero,Nat.zero_le,true_and,Nat.zero_add];by_cases e1:q=j
 . rw[if_pos e1] at hg;rw[if_pos ⟨e1,ht⟩,J1K _ t ht _ q hg]
 . rw[if_neg e1] at hg;rw[if_neg (fun h=>e1 h.1)];by_cases e2:q=i
   . rw[if_pos e2] at hg;rw[if_pos ⟨e2,ht⟩,J1K _ t ht _ q hg]
   . rw[if_neg e2] at hg;rw[if_neg (fun h=>e2 h.1),J1K _ t ht _ q hg,J1K _ t ht _ q rfl]
set_option maxHeartbeats 8000000 in
theorem J9e (cl:FuncId) (L0:List Ed) (n:Nat) (hn:L0.length=n) (hb:n<=1000) (x y k:Nat) {xi yi ki:Int} (hx:xi=(x:Int)) (hy:yi=(y:Int)) (hk:ki=(k:Int)) (hxy:x+k<=y) (hyn:y+k<=n) :
 J0H Try.prog 72 [.vec 0 3 0 n,.int .i64 xi,.int .i64 yi,.int .i64 ki,.fn (.func cl) false []] (oE n L0) J6b fun v own' _=>∃L:List Ed,(SwP L0 L x y k/\RgP L0 L x (y+k))/\v=.tup []/\own'=oE n L:=by
 subst hx hy hk;refine J0d mixed Try.func72 rfl hc72 hr72 rfl ?_
 repeat' ((conv=>whnf);first|fail)
 all_goals (conv=>whnf)
 refine J0A mixed [] [] J6b [0] (fun p:Nat×List Ed=>[(10,.int .i64 ((p.1:Nat):Int)),(0,.vec 0 3 0 n),(1,.int .i64 x),(2,.int .i64 y),(3,.int .i64 k)]) (fun _ p=>oE n p.2) (fun m p=>m=k-p.1/\p.1<=k/\SwP L0 p.2 x y p.1/\RgP L0 p.2 x (y+k)) k (0,L0) ⟨rfl,Nat.zero_le _,SwP.zero _ _ _,RgP.refl _ _ _⟩ rfl (fun _=>rfl) ?_ ?_
 . exact J0e (fun _ _=>[(0,some 0)])
 rintro m ⟨i,L⟩ ⟨hm,hi,hs,hr⟩;simp only at hm hi hs hr;have hl:=hr.len;by_cases hik:i<k
 . dsimp only
   repeat' ((conv=>whnf);first|(refine Ix.w (x+i) ?_)|(refine Ix.w (y+i) ?_)|(refine Br.dec ?_ ?_<;>intro _<;>try omega)|(refine Ar.q ?_)|(refine Ltn.q ?_))
   all_goals (conv=>whnf)
   refine⟨k-(i+1),(i+1,swE L (x+i) (y+i)),by omega,⟨rfl,hik,hs.next hl (by omega) (by omega),hr.trans (RgP.swap (by omega) (by omega) (by omega) (by omega) (by omega))⟩,?_⟩;refine J0g (fun _ _=>[(0,some 0)]) ?_ ?_ rfl
   . repeat' (first|exact tI|(refine⟨⟨_,rfl,?_⟩,?_⟩)|exact J0a.kf rfl|exact J0a.q)
   . repeat' (first|exact⟨Nat.le_refl _,rfl,fun q t hq ht=>by simp only[Nat.zero_add];exact J5D L (by omega) (by omega) q t ht⟩|exact tI|(refine⟨⟨_,rfl,?_⟩,?_⟩))
 . obtain rfl:i=k:=by omega
   dsimp only
   repeat' ((conv=>whnf);first|(refine Br.dec ?_ ?_<;>intro _<;>try omega))
   all_goals (conv=>whnf)
   exact⟨L,⟨hs,hr⟩,rfl,rfl⟩
set_option maxHeartbeats 8000000 in
theorem Q4C (cl:FuncId) (L0:List Ed) (n:Nat) (hn:L0.length=n) (hb:n<=1000) (a m b:Nat) {ai mi bi:Int} (ha:ai=(a:Int)) (hm:mi=(m:Int)) (hbi:bi=(b:Int)) (am:a<m) (mb:m<b) (bn:b<=n) :
 J0H Try.prog 64 [.vec 0 3 0 n,.int .i64 ai,.int .i64 mi,.int .i64 bi,.fn (.func cl) false []] (oE n L0) J6b fun v own' _=>∃L:List Ed,((∀k,gE L k=gE L0 (roI a (m-a) (b-m) k))/\RgP L0 L a b)/\v=.tup []/\own'=oE n L:=by
 subst ha hm hbi;refine J0d mixed Try.func64 rfl hc64 hr64 rfl ?_
 repeat' ((conv=>whnf);first|(refine Ar.q ?_))
 all_goals (conv=>whnf)
 refine J0A mixed [] [] J6b [0] (fun p:Nat×Nat×List Ed=>[(11,.int .i64 ((p.2.1:Nat):Int)),(10,.int .i64 ((p.1:Nat):Int)),(0,.vec 0 3 0 n),(2,.int .i64 m),(4,.fn (.func cl) false [])]) (fun _ p=>oE n p.2.2) (fun d p=>d=p.1+p.2.1/\0<p.1/\0<p.2.1/\p.1<=m-a/\p.2.1<=b-m/\RoP p.2.2 (fun k=>gE L0 (roI a (m-a) (b-m) k)) (m-p.1) p.1 p.2.1/\RgP L0 p.2.2 a b) (m-a+(b-m)) (m-a,b-m,L0) ⟨rfl,by dsimp only;omega,by dsimp only;omega,Nat.le_refl _,Nat.le_refl _,by dsimp only;rw[show m-(m-a)=a by omega];exact fun _=>rfl,RgP.refl _ _ _⟩ rfl (fun _=>rfl) ?_ ?_
 . dsimp only;exact J0e (fun _ _=>[(0,some 0)])
 rintro d ⟨i,j,L⟩ ⟨hd,hi0,hj0,hi,hj,hR,hr⟩;simp only at hd hi0 hj0 hi hj hR hr;have hl:=hr.len;dsimp only;rcases Nat.lt_trichotomy i j with q|q|q
 . repeat' ((conv=>whnf);first|(refine Br.dec ?_ ?_<;>intro _<;>try omega)|(refine Br.bne ?_ ?_<;>intro _<;>try omega)|(refine Ar.q ?_)|(refine(J9e cl L n (by omega) hb (m-i) (m+j-i) i (by omega) (by omega) (by omega) (by omega) (by omega)).mono ?_;rintro _ _ _ ⟨L1,hp,rfl,rfl⟩))
   all_goals (conv=>whnf)
   obtain⟨h1,h2⟩:=hp;refine⟨i+(j-i),(i,j-i,L1),by omega,⟨rfl,hi0,by dsimp only;omega,hi,by dsimp only;omega,hR.snd q (by rw[show m-i+j=m+j-i by omega];exact h1),hr.trans (h2.wide (by omega) (by omega))⟩,?_⟩;dsimp only;exact J0e (fun _ _=>[(0,some 0)])
 . subst q
   repeat' ((conv=>whnf);first|(refine Br.bne ?_ ?_<;>intro _<;>try omega)|(refine Ar.q ?_)|(refine(J9e cl L n (by omega) hb (m-i) m i (by omega) (by omega) (by omega) (by omega) (by omega)).mono ?_;rintro _ _ _ ⟨L1,hp,rfl,rfl⟩))
   all_goals (conv=>whnf)
   obtain⟨h1,h2⟩:=hp;exact⟨L1,⟨fun k=>(hR.last (by rw[show m-i+i=m by omega];exact h1) k).symm,hr.trans (h2.wide (by omega) (by omega))⟩,rfl,rfl⟩
 . repeat' ((conv=>whnf);first|(refine Br.dec ?_ ?_<;>intro _<;>try omega)|(refine Br.bne ?_ ?_<;>intro _<;>try omega)|(refine Ar.q ?_)|(refine(J9e cl L n (by omega) hb (m-i) m j (by omega) (by omega) (by omega) (by omega) (by omega)).mono ?_;rintro _ _ _ ⟨L1,hp,rfl,rfl⟩))
   all_goals (conv=>whnf)
   obtain⟨h1,h2⟩:=hp;refine⟨i-j+j,(i-j,j,L1),by omega,⟨rfl,by dsimp only;omega,hj0,by dsimp only;omega,hj,?_,hr.trans (h2.wide (by omega) (by omega))⟩,?_⟩
   . have:=hR.fst q (by rw[show m-i+i=m by omega];exact h1);rw[show m-i+j=m-(i-j) by omega] at this;exact this
   . dsimp only;exact J0e (fun _ _=>[(0,some 0)])
end Go.Proofs.Ytojoidgjneapfaa
namespace Go.Proofs.Ytojoidgjneapfaa
open Go.Eng
set_option maxRecDepth 100000
set_option linter.unusedVariables false
set_option maxHeartbeats 8000000 in
theorem Q3w (cl:FuncId) (hcl:J06 Try.prog cl=true) (cf:Ed->Ed->Int) (hcf:∀x y,Ret Try.prog cl [edV x,edV y] (.int .i64 (cf x y))) (lt:Ed->Ed->Prop) (hw:Wo lt) (hlt:∀x y,cf x y<0↔lt x y) (L0:List Ed) (n:Nat) (hn:L0.length=n) (hb:n<=1000)
 (a b:Nat) {ai bi:Int} (ha:ai=(a:Int)) (hbi:bi=(b:Int)) (ab:a<=b) (bn:b<=n) :
 J0H Try.prog 50 [.vec 0 3 0 n,.int .i64 ai,.int .i64 bi,.fn (.func cl) false []] (oE n L0) J6b
  fun v own' _=>∃L:List Ed,(RgP L0 L a b/\SoR lt L a b)/\v=.tup []/\own'=oE n L:=by
 subst ha hbi;refine J0d mixed Try.func50 rfl Q5I Q5G rfl ?_
 repeat' ((conv=>whnf);first|(refine Ar.q ?_))
 all_goals (conv=>whnf)
 refine J0A mixed [] [] J6b [0] (fun p:Nat×List Ed=>[(8,.int .i64 ((p.1:Nat):Int)),(0,.vec 0 3 0 n),(1,.int .i64 a),(2,.int .i64 b),(3,.fn (.func cl) false [])]) (fun _ p=>oE n p.2) (fun m p=>m=b+1-p.1/\a+1<=p.1/\p.1<=b+1/\RgP L0 p.2 a b/\SoR lt p.2 a p.1) (b-a) (a+1,L0) ⟨by dsimp only;omega,Nat.le_refl _,by dsimp only;omega,RgP.refl _ _ _,SoR.one (Nat.le_refl _)⟩ rfl (fun _=>rfl) ?_ ?_
 . exact J0e (fun _ _=>[(0,some 0)])
 rintro m ⟨i,L1⟩ ⟨hm,hi1,hi2,hr1,hs1⟩;simp only at hm hi1 hi2 hr1 hs1;have hl1:=hr1.len;by_cases hib:i<b
 . dsimp only
   repeat' ((conv=>whnf);first|(refine Br.dec ?_ ?_<;>intro _<;>try omega))
   all_goals (conv=>whnf)
   refine J0A mixed [] [] J6b [0] (fun p:Nat×List Ed=>[(9,.int .i64 ((p.1:Nat):Int)),(8,.int .i64 ((i:Nat):Int)),(0,.vec 0 3 0 n),(1,.int .i64 a),(2,.int .i64 b),(3,.fn (.func cl) false [])]) (fun _ p=>oE n p.2) (fun m p=>m=p.1/\SoK lt p.2 a i p.1/\RgP L0 p.2 a b) i (i,L1) ⟨rfl,SoK.start hs1 (by omega),hr1⟩ rfl (fun _=>rfl) ?_ ?_
   . exact J0e (fun _ _=>[(0,some 0)])
   rintro m ⟨j,L⟩ ⟨hm2,hj,hr⟩;simp only at hm2 hj hr;have hl:=hr.len;have hle:=hj.le;have hge:=hj.ge;subst hm2;rcases (show m=a\/∃q,m=q+1/\a<=q by rcases Nat.lt_or_ge a m with z|z;exact .inr ⟨m-1,by omega,by omega⟩;exact .inl (by omega)) with rfl | ⟨q,rfl,hq⟩
   . dsimp only
     repeat' ((conv=>whnf);first|(refine Br.dec ?_ ?_<;>intro _<;>try omega)|(refine Ar.q ?_))
     all_goals (conv=>whnf)
     refine⟨b+1-(i+1),(i+1,L),by omega,⟨rfl,by dsimp only;omega,by dsimp only;omega,hr,hj.done hw (.inl rfl)⟩,?_⟩;exact J0e (fun _ _=>[(0,some 0)])
   . dsimp only;have h1:=hcf (gE L (0+(q+1))) (gE L (0+q));have z1:0+(q+1)=q+1:=Nat.zero_add _;have z2:0+q=q:=Nat.zero_add _;by_cases hc:cf (gE L (0+(q+1))) (gE L (0+q))<0
     . repeat' ((conv=>whnf);first|(refine Ix.w (q+1) ?_)|(refine Ix.w q ?_)|(refine Br.dec ?_ ?_<;>intro _<;>try omega)|(refine Ar.q ?_)|(refine Ltn.q ?_)|(refine Chk.mk hcl ?_)|(refine h1.go ?_))
       all_goals (conv=>whnf)
       rw[z1,z2] at hc;refine⟨q,(q,swE L (q+1) q),by omega,⟨rfl,hj.step hw hq (by omega) ((hlt _ _).1 hc),hr.trans (RgP.swap (by omega) (by omega) (by omega) (by omega) (by omega))⟩,?_⟩;refine J0g (fun _ _=>[(0,some 0)]) ?_ ?_ rfl
       . repeat' (first|exact tI|(refine J0a.fn ?_)|(refine⟨⟨_,rfl,?_⟩,?_⟩)|exact J0a.kf rfl|exact J0a.int (by omega)|exact J0a.q)
       . repeat' (first|exact⟨Nat.le_refl _,rfl,fun i t hi ht=>by simp only[Nat.zero_add];exact J9f L q (by omega) i t ht⟩|exact tI|(refine⟨⟨_,rfl,?_⟩,?_⟩))
     . repeat' ((conv=>whnf);first|(refine Ix.w (q+1) ?_)|(refine Ix.w q ?_)|(refine Br.dec ?_ ?_<;>intro _<;>try omega)|(refine Ar.q ?_)|(refine Ltn.q ?_)|(refine Chk.mk hcl ?_)|(refine h1.go ?_))
       all_goals (conv=>whnf)
       rw[z1,z2] at hc;refine⟨b+1-(i+1),(i+1,L),by omega,⟨rfl,by dsimp only;omega,by dsimp only;omega,hr,hj.done hw (.inr (fun h=>hc ((hlt _ _).2 h)))⟩,?_⟩;exact J0e (fun _ _=>[(0,some 0)])
 . dsimp only
   repeat' ((conv=>whnf);first|(refine Br.dec ?_ ?_<;>intro _<;>try omega))
   all_goals (conv=>whnf)
   exact⟨L1,⟨hr1,hs1.part (Nat.le_refl _) (by omega)⟩,rfl,rfl⟩
def Q2U (lt:Ed->Ed->Prop) (n:Nat) (L0:List Ed) (a b:Nat) (v:V) (own':Own):Prop:=∃L:List Ed,(RgP L0 L a b/\SoR lt L a b)/\v=.tup []/\own'=oE n L
theorem Wo.lt_of {lt:Ed->Ed->Prop} (hw:Wo lt) {x y z:Ed} (h1:¬ lt y x) (h2:lt y z):lt x z:=Classical.byContradiction fun q=>hw.nt _ _ _ q h1 h2
theorem Wo.of_lt {lt:Ed->Ed->Prop} (hw:Wo lt) {x y z:Ed} (h1:lt x y) (h2:¬ lt z y):lt x z:=Classical.byContradiction fun q=>hw.nt _ _ _ h2 q h1
theorem Q0F.front {L L1:List Ed} {lt:Ed->Ed->Prop} {a m b mid s e:Nat} (h:Q0F L lt a m b mid s e) (c:¬ (a<s/\s<mid)) (h1:SoR lt L1 a s) (h2:SoR lt L1 s mid):SoR lt L1 a mid:=by
 obtain⟨q1,q2,q3,q4,q5,q6,q7,q8,q9,_⟩:=h;by_cases z:a<s
 . obtain rfl:s=mid:=by omega
   exact h1
 . obtain rfl:a=s:=by omega
   exact h2
theorem Q0F.right {L L1:List Ed} {lt:Ed->Ed->Prop} {a m b mid s e:Nat} (h:Q0F L lt a m b mid s e) (c:¬ (mid<e/\e<b)) (h1:SoR lt L1 mid e) (h2:SoR lt L1 e b):SoR lt L1 mid b:=by
 obtain⟨q1,q2,q3,q4,q5,q6,q7,q8,q9,_⟩:=h;by_cases z:mid<e
 . obtain rfl:e=b:=by omega
   exact h1
 . obtain rfl:mid=e:=by omega
   exact h2
theorem Q0F.same {L:List Ed} {lt:Ed->Ed->Prop} {a m b mid s e:Nat} (h:Q0F L lt a m b mid s e) (c:¬ (s<m/\m<e)) (k:Nat):gE L k=gE L (roI s (m-s) (e-m) k):=by
 obtain⟨q1,q2,q3,q4,q5,q6,q7,q8,q9,_⟩:=h;congr 1;unfold roI
 repeat' split
 all_goals omega
theorem J55 {x y:Nat} (h:x+y<4000000000000000000):IntKind.i64.wrap (((x:Int)+(y:Int)).fdiv (2 ^ min (Int.toNat 1) IntKind.u64.bits))=(((x+y) / 2:Nat):Int):=by
 have e:((x:Int)+(y:Int)).fdiv (2 ^ min (Int.toNat 1) IntKind.u64.bits)=(((x+y) / 2:Nat):Int):=by
  show((x:Int)+(y:Int)).fdiv 2=_;rw[Int.fdiv_eq_ediv_of_nonneg _ (by omega)];omega
 rw[e];exact J7E (by omega) (by omega)
set_option maxHeartbeats 16000000 in
theorem Q4N (cl:FuncId) (hcl:J06 Try.prog cl=true) (cf:Ed->Ed->Int) (hcf:∀x y,Ret Try.prog cl [edV x,edV y] (.int .i64 (cf x y))) (lt:Ed->Ed->Prop) (hw:Wo lt) (hlt:∀x y,cf x y<0↔lt x y) (n:Nat) (hb:n<=1000) :
 ∀(d a m b:Nat),b<=a+d->a<m->m<b->b<=n->∀L0:List Ed,L0.length=n->SoR lt L0 a m->SoR lt L0 m b->∀{ai mi bi:Int},ai=(a:Int)->mi=(m:Int)->bi=(b:Int) ->
 J0H Try.prog 51 [.vec 0 3 0 n,.int .i64 ai,.int .i64 mi,.int .i64 bi,.fn (.func cl) false []] (oE n L0) J6b fun v own' _=>Q2U lt n L0 a b v own':=by
 intro d
 induction d with
 | zero=>intro a m b h1 h2 h3;omega
 | succ d ih =>
 intro a m b hd am mb bn L0 hn sA sB ai mi bi ha hmi hbi;subst ha hmi hbi;refine J0d mixed Try.func51 rfl hc51 hr51 rfl ?_;by_cases c1:m=a+1
 . subst c1
   repeat' ((conv=>whnf);first|(refine Br.dec ?_ ?_<;>intro _<;>try omega)|(refine Ar.q ?_))
   all_goals (conv=>whnf)
   refine J0A mixed [] [] J6b [0] (fun p:Nat×Nat=>[(11,.int .i64 ((p.2:Nat):Int)),(10,.int .i64 ((p.1:Nat):Int)),(0,.vec 0 3 0 n),(1,.int .i64 a),(4,.fn (.func cl) false [])]) (fun _ p=>oE n L0) (fun e p=>e=p.2-p.1/\a+1<=p.1/\p.1<=p.2/\p.2<=b/\(∀k,a+1<=k->k<p.1->lt (gE L0 k) (gE L0 a))/\∀k,p.2<=k->k<b->¬ lt (gE L0 k) (gE L0 a)) (b-(a+1)) (a+1,b) ⟨rfl,Nat.le_refl _,by dsimp only;omega,Nat.le_refl _,fun k _ _=>by dsimp only at *;omega,fun k _ _=>by dsimp only at *;omega⟩ rfl (fun _=>rfl) ?_ ?_
   . exact J0e (fun _ _=>[(0,some 0)])
   rintro e ⟨i,j⟩ ⟨he,hi,hij,hj,hl,hr⟩;simp only at he hi hij hj hl hr;dsimp only;by_cases hlt2:i<j
   . have hH:=J55 (x:=i) (y:=j) (by omega);obtain⟨h,hh⟩:∃h,h=(i+j) / 2:=⟨_,rfl⟩;rw[<- hh] at hH;have h1:=hcf (gE L0 (0+h)) (gE L0 (0+a));have z1:0+h=h:=Nat.zero_add _;have z2:0+a=a:=Nat.zero_add _;by_cases hc:cf (gE L0 (0+h)) (gE L0 (0+a))<0
     . repeat' ((conv=>whnf);first|(refine Ar.mk (h:Int) hH.symm ?_)|(refine Ix.w h ?_)|(refine Ix.w a ?_)|(refine Br.dec ?_ ?_<;>intro _<;>try omega)|(refine Ar.q ?_)|(refine Ar.u64 (by omega) (by omega) ?_)|(refine Sv.mk _ rfl ?_)|(refine Nn.mk (by omega) ?_)|(refine Ltn.q ?_)|(refine Chk.mk hcl ?_)|(refine h1.go ?_))
       all_goals (conv=>whnf)
       rw[z1,z2] at hc;refine⟨j-(h+1),(h+1,j),by omega,⟨rfl,by dsimp only;omega,by dsimp only;omega,hj,fun k k1 k2=>?_,hr⟩,?_⟩
       . by_cases q:k<i
         . exact hl k k1 q
         . exact hw.lt_of (sB.le hw k1 (by dsimp only at k2;omega) (by omega)) ((hlt _ _).1 hc)
       . exact J0e (fun _ _=>[(0,some 0)])
     . repeat' ((conv=>whnf);first|(refine Ar.mk (h:Int) hH.symm ?_)|(refine Ix.w h ?_)|(refine Ix.w a ?_)|(refine Br.dec ?_ ?_<;>intro _<;>try omega)|(refine Ar.q ?_)|(refine Ar.u64 (by omega) (by omega) ?_)|(refine Sv.mk _ rfl ?_)|(refine Nn.mk (by omega) ?_)|(refine Ltn.q ?_)|(refine Chk.mk hcl ?_)|(refine h1.go ?_))
       all_goals (conv=>whnf)
       rw[z1,z2] at hc;refine⟨h-i,(i,h),by omega,⟨rfl,hi,by dsimp only;omega,by dsimp only;omega,hl,fun k k1 k2=>?_⟩,?_⟩
       . by_cases q:j<=k
         . exact hr k q k2
         . exact hw.nt _ _ _ (fun z=>hc ((hlt _ _).2 z)) (sB.le hw (by omega) k1 k2)
       . exact J0e (fun _ _=>[(0,some 0)])
   . obtain rfl:i=j:=by omega
     repeat' ((conv=>whnf);first|(refine Br.dec ?_ ?_<;>intro _<;>try omega))
     all_goals (conv=>whnf)
     refine J0A mixed [] [] J6b [0] (fun p:Nat×List Ed=>[(13,.int .i64 ((p.1:Nat):Int)),(10,.int .i64 ((i:Nat):Int)),(0,.vec 0 3 0 n)]) (fun _ p=>oE n p.2) (fun e p=>e=i-p.1/\a<=p.1/\p.1+1<=i/\UpP L0 p.2 a p.1/\RgP L0 p.2 a b) (i-a) (a,L0) ⟨rfl,Nat.le_refl _,hi,UpP.zero _ _,RgP.refl _ _ _⟩ rfl (fun _=>rfl) ?_ ?_
     . exact J0e (fun _ _=>[(0,some 0)])
     rintro e2 ⟨k,L⟩ ⟨he2,hk1,hk2,hu,hrg⟩;simp only at he2 hk1 hk2 hu hrg;have hln:=hrg.len;dsimp only;by_cases hk3:k+1<i
     . repeat' ((conv=>whnf);first|(refine Ix.w (k+1) ?_)|(refine Ix.w k ?_)|(refine Br.dec ?_ ?_<;>intro _<;>try omega)|(refine Ar.q ?_)|(refine Ltn.q ?_))
       all_goals (conv=>whnf)
       refine⟨i-(k+1),(k+1,swE L k (k+1)),by omega,⟨rfl,by dsimp only;omega,hk3,hu.next hk1 (by omega),hrg.trans (RgP.swap (by omega) (by omega) (by omega) (by omega) (by omega))⟩,?_⟩;refine J0g (fun _ _=>[(0,some 0)]) ?_ ?_ rfl
       . repeat' (first|exact tI|(refine⟨⟨_,rfl,?_⟩,?_⟩)|exact J0a.kf rfl|exact J0a.q)
       . repeat' (first|exact⟨Nat.le_refl _,rfl,fun q t hq ht=>by simp only[Nat.zero_add];exact J5D L (by omega) (by omega) q t ht⟩|exact tI|(refine⟨⟨_,rfl,?_⟩,?_⟩))
     . repeat' ((conv=>whnf);first|(refine Br.dec ?_ ?_<;>intro _<;>try omega)|(refine Ar.q ?_))
       all_goals (conv=>whnf)
       obtain rfl:k=i-1:=by omega
       exact⟨L,⟨hrg,hu.sorted hw hi hj sB hl hr⟩,rfl,rfl⟩
 by_cases c2:b=m+1
 . subst c2
   repeat' ((conv=>whnf);first|(refine Br.dec ?_ ?_<;>intro _<;>try omega)|(refine Ar.q ?_))
   all_goals (conv=>whnf)
   refine J0A mixed [] [] J6b [0] (fun p:Nat×Nat=>[(15,.int .i64 ((p.2:Nat):Int)),(14,.int .i64 ((p.1:Nat):Int)),(0,.vec 0 3 0 n),(2,.int .i64 m),(4,.fn (.func cl) false [])]) (fun _ p=>oE n L0) (fun e p=>e=p.2-p.1/\a<=p.1/\p.1<=p.2/\p.2<=m/\(∀k,a<=k->k<p.1->¬ lt (gE L0 m) (gE L0 k))/\∀k,p.2<=k->k<m->lt (gE L0 m) (gE L0 k)) (m-a) (a,m) ⟨rfl,Nat.le_refl _,by dsimp only;omega,Nat.le_refl _,fun k _ _=>by dsimp only at *;omega,fun k _ _=>by dsimp only at *;omega⟩ rfl (fun _=>rfl) ?_ ?_
   . exact J0e (fun _ _=>[(0,some 0)])
   rintro e ⟨i,j⟩ ⟨he,hi,hij,hj,hl,hr⟩;simp only at he hi hij hj hl hr;dsimp only;by_cases hlt2:i<j
   . have hH:=J55 (x:=i) (y:=j) (by omega);obtain⟨h,hh⟩:∃h,h=(i+j) / 2:=⟨_,rfl⟩;rw[<- hh] at hH;have h1:=hcf (gE L0 (0+m)) (gE L0 (0+h));have z1:0+h=h:=Nat.zero_add _;have z2:0+m=m:=Nat.zero_add _;by_cases hc:cf (gE L0 (0+m)) (gE L0 (0+h))<0
     . repeat' ((conv=>whnf);first|(refine Ar.mk (h:Int) hH.symm ?_)|(refine Ix.w h ?_)|(refine Ix.w m ?_)|(refine Br.dec ?_ ?_<;>intro _<;>try omega)|(refine Ar.q ?_)|(refine Ar.u64 (by omega) (by omega) ?_)|(refine Sv.mk _ rfl ?_)|(refine Nn.mk (by omega) ?_)|(refine Ltn.q ?_)|(refine Chk.mk hcl ?_)|(refine h1.go ?_))
       all_goals (conv=>whnf)
       rw[z1,z2] at hc;refine⟨h-i,(i,h),by omega,⟨rfl,hi,by dsimp only;omega,by dsimp only;omega,hl,fun k k1 k2=>?_⟩,?_⟩
       . by_cases q:j<=k
         . exact hr k q k2
         . exact hw.of_lt ((hlt _ _).1 hc) (sA.le hw (by omega) k1 k2)
       . exact J0e (fun _ _=>[(0,some 0)])
     . repeat' ((conv=>whnf);first|(refine Ar.mk (h:Int) hH.symm ?_)|(refine Ix.w h ?_)|(refine Ix.w m ?_)|(refine Br.dec ?_ ?_<;>intro _<;>try omega)|(refine Ar.q ?_)|(refine Ar.u64 (by omega) (by omega) ?_)|(refine Sv.mk _ rfl ?_)|(refine Nn.mk (by omega) ?_)|(refine Ltn.q ?_)|(refine Chk.mk hcl ?_)|(refine h1.go ?_))
       all_goals (conv=>whnf)
       rw[z1,z2] at hc;refine⟨j-(h+1),(h+1,j),by omega,⟨rfl,by dsimp only;omega,by dsimp only;omega,hj,fun k k1 k2=>?_,hr⟩,?_⟩
       . by_cases q:k<i
         . exact hl k k1 q
         . exact hw.nt _ _ _ (sA.le hw k1 (by dsimp only at k2;omega) (by omega)) (fun z=>hc ((hlt _ _).2 z))
       . exact J0e (fun _ _=>[(0,some 0)])
   . obtain rfl:i=j:=by omega
     repeat' ((conv=>whnf);first|(refine Br.dec ?_ ?_<;>intro _<;>try omega))
     all_goals (conv=>whnf)
     refine J0A mixed [] [] J6b [0] (fun p:Nat×List Ed=>[(17,.int .i64 ((p.1:Nat):Int)),(14,.int .i64 ((i:Nat):Int)),(0,.vec 0 3 0 n)]) (fun _ p=>oE n p.2) (fun e p=>e=p.1-i/\i<=p.1/\p.1<=m/\DnP L0 p.2 m p.1/\RgP L0 p.2 a (m+1)) (m-i) (m,L0) ⟨rfl,hj,Nat.le_refl _,DnP.zero _ _,RgP.refl _ _ _⟩ rfl (fun _=>rfl) ?_ ?_
     . exact J0e (fun _ _=>[(0,some 0)])
     rintro e2 ⟨k,L⟩ ⟨he2,hk1,hk2,hu,hrg⟩;simp only at he2 hk1 hk2 hu hrg;have hln:=hrg.len;dsimp only;rcases (show k=i\/∃q,k=q+1/\i<=q by rcases Nat.lt_or_ge i k with z|z;exact .inr ⟨k-1,by omega,by omega⟩;exact .inl (by omega)) with rfl | ⟨q,rfl,hq⟩
     . repeat' ((conv=>whnf);first|(refine Br.dec ?_ ?_<;>intro _<;>try omega))
       all_goals (conv=>whnf)
       exact⟨L,⟨hrg,hu.sorted hw hi hk2 sA hl hr⟩,rfl,rfl⟩
     . repeat' ((conv=>whnf);first|(refine Ix.w (q+1) ?_)|(refine Ix.w q ?_)|(refine Br.dec ?_ ?_<;>intro _<;>try omega)|(refine Ar.q ?_)|(refine Ltn.q ?_))
       all_goals (conv=>whnf)
       refine⟨q-i,(q,swE L (q+1) q),by omega,⟨rfl,hq,by dsimp only;omega,hu.next hk2 (by omega),hrg.trans (RgP.swap (by omega) (by omega) (by omega) (by omega) (by omega))⟩,?_⟩;refine J0g (fun _ _=>[(0,some 0)]) ?_ ?_ rfl
       . repeat' (first|exact tI|(refine⟨⟨_,rfl,?_⟩,?_⟩)|exact J0a.kf rfl|exact J0a.int (by omega)|exact J0a.q)
       . repeat' (first|exact⟨Nat.le_refl _,rfl,fun q t hq ht=>by simp only[Nat.zero_add];exact J5D L (by omega) (by omega) q t ht⟩|exact tI|(refine⟨⟨_,rfl,?_⟩,?_⟩))
 have hM:=J55 (x:=a) (y:=b) (by omega);obtain⟨s0,r0,hs0,hr0⟩:∃s0 r0:Nat,s0=(if (a+b) / 2<m then (a+b) / 2+m-b else a)/\r0=(if (a+b) / 2<m then (a+b) / 2 else m):=⟨_,_,rfl,rfl⟩;have hS:((a+b) / 2<m/\s0+b=(a+b) / 2+m/\r0=(a+b) / 2)\/(m<=(a+b) / 2/\s0=a/\r0=m):=by
  rw[hs0,hr0];split
  . exact .inl ⟨by assumption,by omega,rfl⟩
  . exact .inr ⟨by omega,rfl,rfl⟩
 have hcut:=J8V.start (L:=L0) (lt:=lt) am mb;rw[<- hs0,<- hr0] at hcut;clear hs0 hr0;have hsr:=hcut.sr;rcases hS with ⟨c3,e1,e2⟩ | ⟨c3,e1,e2⟩
 all_goals
  repeat' ((conv=>whnf);first|(refine Ar.mk (((a+b) / 2:Nat):Int) hM.symm ?_)|(refine Br.dec ?_ ?_<;>intro _<;>try omega)|(refine Ar.q ?_)|(refine Ar.u64 (by omega) (by omega) ?_)|(refine Sv.mk _ rfl ?_)|(refine Nn.mk (by omega) ?_))
  all_goals (conv=>whnf)
  refine J0A mixed [] [] J6b [0] (fun p:Nat×Nat=>[(21,.int .i64 ((p.2:Nat):Int)),(20,.int .i64 ((p.1:Nat):Int)),(0,.vec 0 3 0 n),(1,.int .i64 a),(2,.int .i64 m),(3,.int .i64 b),(4,.fn (.func cl) false []),(18,.int .i64 (((a+b) / 2:Nat):Int)),(19,.int .i64 (((a+b) / 2+m:Nat):Int)),(22,.int .i64 (((a+b) / 2+m-1:Nat):Int))]) (fun _ p=>oE n L0) (fun e p=>e=p.2-p.1/\s0<=p.1/\p.2<=r0/\J8V L0 lt a m b ((a+b) / 2) p.1 p.2) (r0-s0) (s0,r0) ⟨rfl,Nat.le_refl _,Nat.le_refl _,hcut⟩ rfl (fun _=>rfl) ?_ ?_
  . exact J0e (fun _ _=>[(0,some 0)])
  rintro e ⟨s,r⟩ ⟨he,hsl,hrl,hC⟩;simp only at he hsl hrl hC;have hsr2:=hC.sr;dsimp only;by_cases hlt2:s<r
  . have hH:=J55 (x:=s) (y:=r) (by omega);obtain⟨h,hh⟩:∃h,h=(s+r) / 2:=⟨_,rfl⟩;rw[<- hh] at hH;have h1:=hcf (gE L0 (0+((a+b) / 2+m-1-h))) (gE L0 (0+h));have z1:0+h=h:=Nat.zero_add _;have z2:0+((a+b) / 2+m-1-h)=(a+b) / 2+m-1-h:=Nat.zero_add _;by_cases hc:cf (gE L0 (0+((a+b) / 2+m-1-h))) (gE L0 (0+h))<0
    . repeat' ((conv=>whnf);first|(refine Ar.mk (h:Int) hH.symm ?_)|(refine Ix.w h ?_)|(refine Ix.mk ((a+b) / 2+m-1-h) (by omega) (by omega) ?_)|(refine Br.dec ?_ ?_<;>intro _<;>try omega)|(refine Ar.q ?_)|(refine Ar.u64 (by omega) (by omega) ?_)|(refine Sv.mk _ rfl ?_)|(refine Nn.mk (by omega) ?_)|(refine Ltn.q ?_)|(refine Chk.mk hcl ?_)|(refine h1.go ?_))
      all_goals (conv=>whnf)
      rw[z1,z2] at hc;refine⟨h-s,(s,h),by omega,⟨rfl,hsl,by dsimp only;omega,hC.down hw sA sB (by omega) (by omega) ((hlt _ _).1 hc)⟩,?_⟩;exact J0e (fun _ _=>[(0,some 0)])
    . repeat' ((conv=>whnf);first|(refine Ar.mk (h:Int) hH.symm ?_)|(refine Ix.w h ?_)|(refine Ix.mk ((a+b) / 2+m-1-h) (by omega) (by omega) ?_)|(refine Br.dec ?_ ?_<;>intro _<;>try omega)|(refine Ar.q ?_)|(refine Ar.u64 (by omega) (by omega) ?_)|(refine Sv.mk _ rfl ?_)|(refine Nn.mk (by omega) ?_)|(refine Ltn.q ?_)|(refine Chk.mk hcl ?_)|(refine h1.go ?_))
      all_goals (conv=>whnf)
      rw[z1,z2] at hc;refine⟨r-(h+1),(h+1,r),by omega,⟨rfl,by dsimp only;omega,hrl,hC.up hw sA sB (by omega) (by omega) (fun z=>hc ((hlt _ _).2 z))⟩,?_⟩;exact J0e (fun _ _=>[(0,some 0)])
  . obtain rfl:s=r:=by omega
    have hD:=hC.done hw sA sB;obtain⟨e,hee⟩:∃e,e=(a+b) / 2+m-s:=⟨_,rfl⟩;rw[<- hee] at hD;have d1:=hD.ha_s;have d2:=hD.sm;have d3:=hD.me;have d4:=hD.eb;have d5:=hD.sum;have d6:=hD.smid;have d7:=hD.mide;have d8:=hD.mida;have d9:=hD.midb;by_cases hrot:s<m/\m<e
    . repeat' ((conv=>whnf);first|(refine Br.dec ?_ ?_<;>intro _<;>try omega)|(refine Ar.q ?_))
      all_goals (conv=>whnf)
      refine(Q4C cl L0 n hn hb s m e (by omega) (by omega) (by omega) (by omega) (by omega) (by omega)).mono ?_;rintro _ _ _ ⟨L1,⟨hp1,hp2⟩,rfl,rfl⟩;have hL:=hD.left hp1 sA sB;have hlen:(L1).length=n:=by have:=hp2.len;omega
      have t1:RgP L0 (L1) a b:=hp2.wide (by omega) (by omega);by_cases c5:a<s/\s<(a+b) / 2
      . repeat' ((conv=>whnf);first|(refine Br.dec ?_ ?_<;>intro _<;>try omega))
        all_goals (conv=>whnf)
        all_goals
         refine J0W [(0,some 0)] [] ((ih a s ((a+b) / 2) (by omega) (by omega) (by omega) (by omega) (L1) hlen hL.1 hL.2.1 rfl rfl rfl).mono ?_) ⟨J0a.vec rfl rfl rfl,J0a.int (by omega),J0a.int (by omega),J0a.int (by omega),J0a.kf rfl,True.intro⟩ ⟨⟨_,rfl,Nat.le_refl _,rfl,fun _ _ _ _=>VLe.rfl⟩,True.intro⟩ rfl;rintro _ _ _ ⟨L2,⟨hq1,hq2⟩,rfl,rfl⟩;have hlen2:L2.length=n:=by have:=hq1.len;omega
         have t2:RgP L0 L2 a b:=t1.trans (hq1.wide (Nat.le_refl _) (by omega));have u1:=hL.2.2.1.congr fun k k1 k2=>hq1.out k (by omega);have u2:=hL.2.2.2.congr fun k k1 k2=>hq1.out k (by omega);by_cases c6:(a+b) / 2<e/\e<b
         . repeat' ((conv=>whnf);first|(refine Br.dec ?_ ?_<;>intro _<;>try omega)|(refine Chk.mk rfl ?_))
           all_goals (conv=>whnf)
           all_goals refine J0W [(0,some 0)] [] ((ih ((a+b) / 2) e b (by omega) (by omega) (by omega) (by omega) L2 hlen2 u1 u2 rfl rfl rfl).mono ?_) ⟨J0a.vec rfl rfl rfl,J0a.int (by omega),J0a.int (by omega),J0a.int (by omega),J0a.kf rfl,True.intro⟩ ⟨⟨_,rfl,Nat.le_refl _,rfl,fun _ _ _ _=>VLe.rfl⟩,True.intro⟩ rfl
           all_goals
            rintro _ _ _ ⟨L3,⟨hr1,hr2⟩,rfl,rfl⟩
            repeat' ((conv=>whnf);first|(refine Chk.mk rfl ?_))
            all_goals (conv=>whnf)
            exact⟨L3,⟨t2.trans (hr1.wide (by omega) (Nat.le_refl _)),hD.join hw hp1 hq1 hr1 hq2 hr2⟩,rfl,rfl⟩
         . repeat' ((conv=>whnf);first|(refine Br.dec ?_ ?_<;>intro _<;>try omega)|(refine Chk.mk rfl ?_))
           all_goals (conv=>whnf)
           all_goals exact⟨L2,⟨t2,hD.join hw hp1 hq1 (RgP.refl _ _ _) hq2 (hD.right c6 u1 u2)⟩,rfl,rfl⟩
      . have hq2:=hD.front c5 hL.1 hL.2.1;by_cases c6:(a+b) / 2<e/\e<b
        . repeat' ((conv=>whnf);first|(refine Br.dec ?_ ?_<;>intro _<;>try omega))
          all_goals (conv=>whnf)
          all_goals refine J0W [(0,some 0)] [] ((ih ((a+b) / 2) e b (by omega) (by omega) (by omega) (by omega) (L1) hlen hL.2.2.1 hL.2.2.2 rfl rfl rfl).mono ?_) ⟨J0a.vec rfl rfl rfl,J0a.int (by omega),J0a.int (by omega),J0a.int (by omega),J0a.kf rfl,True.intro⟩ ⟨⟨_,rfl,Nat.le_refl _,rfl,fun _ _ _ _=>VLe.rfl⟩,True.intro⟩ rfl
          all_goals
           rintro _ _ _ ⟨L3,⟨hr1,hr2⟩,rfl,rfl⟩
           repeat' ((conv=>whnf);first|(refine Chk.mk rfl ?_))
           all_goals (conv=>whnf)
           exact⟨L3,⟨t1.trans (hr1.wide (by omega) (Nat.le_refl _)),hD.join hw hp1 (RgP.refl _ _ _) hr1 hq2 hr2⟩,rfl,rfl⟩
        . repeat' ((conv=>whnf);first|(refine Br.dec ?_ ?_<;>intro _<;>try omega))
          all_goals (conv=>whnf)
          all_goals exact⟨L1,⟨t1,hD.join hw hp1 (RgP.refl _ _ _) (RgP.refl _ _ _) hq2 (hD.right c6 hL.2.2.1 hL.2.2.2)⟩,rfl,rfl⟩
    . have hp1:=hD.same hrot;have hp2:=RgP.refl L0 s e;have hL:=hD.left hp1 sA sB;have hlen:(L0).length=n:=by have:=hp2.len;omega
      have t1:RgP L0 (L0) a b:=hp2.wide (by omega) (by omega);by_cases c5:a<s/\s<(a+b) / 2
      . repeat' ((conv=>whnf);first|(refine Br.dec ?_ ?_<;>intro _<;>try omega)|(refine Ar.q ?_))
        all_goals (conv=>whnf)
        all_goals
         refine J0W [(0,some 0)] [] ((ih a s ((a+b) / 2) (by omega) (by omega) (by omega) (by omega) (L0) hlen hL.1 hL.2.1 rfl rfl rfl).mono ?_) ⟨J0a.vec rfl rfl rfl,J0a.int (by omega),J0a.int (by omega),J0a.int (by omega),J0a.kf rfl,True.intro⟩ ⟨⟨_,rfl,Nat.le_refl _,rfl,fun _ _ _ _=>VLe.rfl⟩,True.intro⟩ rfl;rintro _ _ _ ⟨L2,⟨hq1,hq2⟩,rfl,rfl⟩;have hlen2:L2.length=n:=by have:=hq1.len;omega
         have t2:RgP L0 L2 a b:=t1.trans (hq1.wide (Nat.le_refl _) (by omega));have u1:=hL.2.2.1.congr fun k k1 k2=>hq1.out k (by omega);have u2:=hL.2.2.2.congr fun k k1 k2=>hq1.out k (by omega);by_cases c6:(a+b) / 2<e/\e<b
         . repeat' ((conv=>whnf);first|(refine Br.dec ?_ ?_<;>intro _<;>try omega)|(refine Chk.mk rfl ?_))
           all_goals (conv=>whnf)
           all_goals refine J0W [(0,some 0)] [] ((ih ((a+b) / 2) e b (by omega) (by omega) (by omega) (by omega) L2 hlen2 u1 u2 rfl rfl rfl).mono ?_) ⟨J0a.vec rfl rfl rfl,J0a.int (by omega),J0a.int (by omega),J0a.int (by omega),J0a.kf rfl,True.intro⟩ ⟨⟨_,rfl,Nat.le_refl _,rfl,fun _ _ _ _=>VLe.rfl⟩,True.intro⟩ rfl
           all_goals
            rintro _ _ _ ⟨L3,⟨hr1,hr2⟩,rfl,rfl⟩
            repeat' ((conv=>whnf);first|fail)
            all_goals (conv=>whnf)
            exact⟨L3,⟨t2.trans (hr1.wide (by omega) (Nat.le_refl _)),hD.join hw hp1 hq1 hr1 hq2 hr2⟩,rfl,rfl⟩
         . repeat' ((conv=>whnf);first|(refine Br.dec ?_ ?_<;>intro _<;>try omega)|(refine Chk.mk rfl ?_))
           all_goals (conv=>whnf)
           all_goals exact⟨L2,⟨t2,hD.join hw hp1 hq1 (RgP.refl _ _ _) hq2 (hD.right c6 u1 u2)⟩,rfl,rfl⟩
      . have hq2:=hD.front c5 hL.1 hL.2.1;by_cases c6:(a+b) / 2<e/\e<b
        . repeat' ((conv=>whnf);first|(refine Br.dec ?_ ?_<;>intro _<;>try omega)|(refine Ar.q ?_))
          all_goals (conv=>whnf)
          all_goals refine J0W [(0,some 0)] [] ((ih ((a+b) / 2) e b (by omega) (by omega) (by omega) (by omega) (L0) hlen hL.2.2.1 hL.2.2.2 rfl rfl rfl).mono ?_) ⟨J0a.vec rfl rfl rfl,J0a.int (by omega),J0a.int (by omega),J0a.int (by omega),J0a.kf rfl,True.intro⟩ ⟨⟨_,rfl,Nat.le_refl _,rfl,fun _ _ _ _=>VLe.rfl⟩,True.intro⟩ rfl
          all_goals
           rintro _ _ _ ⟨L3,⟨hr1,hr2⟩,rfl,rfl⟩
           repeat' ((conv=>whnf);first|(refine Chk.mk rfl ?_))
           all_goals (conv=>whnf)
           exact⟨L3,⟨t1.trans (hr1.wide (by omega) (Nat.le_refl _)),hD.join hw hp1 (RgP.refl _ _ _) hr1 hq2 hr2⟩,rfl,rfl⟩
        . repeat' ((conv=>whnf);first|(refine Br.dec ?_ ?_<;>intro _<;>try omega)|(refine Ar.q ?_))
          all_goals (conv=>whnf)
          all_goals exact⟨L0,⟨t1,hD.join hw hp1 (RgP.refl _ _ _) (RgP.refl _ _ _) hq2 (hD.right c6 hL.2.2.1 hL.2.2.2)⟩,rfl,rfl⟩
end Go.Proofs.Ytojoidgjneapfaa
