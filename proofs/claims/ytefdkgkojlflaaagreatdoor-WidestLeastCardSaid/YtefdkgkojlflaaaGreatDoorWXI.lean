import Derived.Test.YtefdkgkojlflaaaGreatDoorWX3
import Derived.Shelf.SlSortCmp.WholeK
namespace Go.Proofs.YtefdkgkojlflaaaGreatDoor
open Go.Eng
set_option maxRecDepth 100000
set_option linter.unusedVariables false
def vW2:List Vr:=[⟨ByteArray.mk #[120],1,0,0,16,0⟩,⟨ByteArray.mk #[112],3,0,0,0,0⟩]
def J0S:Pr:=⟨ByteArray.mk #[119,105,100,101,115,116],vW2,[⟨ByteArray.mk #[116,111,112],X3m,[(0,.leaf 1 0),(1,.leaf 4 0)]⟩,
 ⟨ByteArray.mk #[108,111,119],X4a,[(0,xWT),(1,pWT)]⟩]⟩
theorem J8M {g:G} {c:Cf} (h:J2o J0S g c) {v:Nat} (hv:v<g.ids.length):(gC c v).length=2/\0<=dC c v/\dC c v<=16*g.ids.length/\-1<=pC c v/\pC c v<=((gR g.ports v).length:Int)-1:=by
 have hl:v<c.length:=by rw[h.len];exact hv
 have h0:=h.val v hl 0 (by decide);have h1:=h.val v hl 1 (by decide);have e0:bnd g (gV J0S.vars 0) v=(0,0+16*(g.ids.length:Int)+0*Q4s g):=rfl;have e1:bnd g (gV J0S.vars 1) v=(-1,((gR g.ports v).length:Int)-1):=rfl;rw[e0] at h0;rw[e1] at h1;obtain⟨a1,a2⟩:=h0;obtain⟨b1,b2⟩:=h1;simp only at a1 a2 b1 b2;exact⟨h.row v hl,a1,by show gI (gC c v) 0<=_;omega,b1,b2⟩
theorem J7Z {g:G} {c:Cf} (h:J2o J0S g c):NnW g c:=fun v hv=>⟨(J8M h hv).2.1,(J8M h hv).2.2.1⟩
def stX (c:Cf):Go.Plain.Val.St:=⟨dC c,pC c⟩
theorem J4W {g:G} {c:Cf} {v:Nat}:Go.Plain.Val.off (tgW g) (stX c) v↔Q29 g c v=true:=by
 rw[Q29,decide_eq_true_eq];exact Iff.rfl
theorem Q5x (g:G) (c:Cf) (v:Nat):gds J0S g c v=[X3m.sem g c v (-1),X4a.sem g c v (-1)]:=rfl
theorem Q5w {g:G} (hg:g.valid=true) {c:Cf} (hc:J2o J0S g c) {v:Nat} (hv:v<g.ids.length) (ho:Q29 g c v=true):J1U J0S g c v=if v=0 then 0 else 1:=by
 rw[J1U,Q5x,Q2J,Q3m hg (J7Z hc) hv,ho];by_cases h0:v=0
 . rw[decide_eq_true h0,if_pos h0];rfl
 . rw[decide_eq_false h0,if_neg h0];rfl
theorem Q88 {g:G} (hg:g.valid=true) {c:Cf} (hc:J2o J0S g c) {v:Nat} (hv:v<g.ids.length) (ho:Q29 g c v=false):J1U J0S g c v=-1:=by
 rw[J1U,Q5x,Q2J,Q3m hg (J7Z hc) hv,ho,Bool.and_false,Bool.and_false];rfl
theorem Q2z {g:G} (hg:g.valid=true) {c:Cf} (hc:J2o J0S g c) {v:Nat} (hv:v<g.ids.length):(enN J0S g c).testBit v=true↔Q29 g c v=true:=by
 rw[Q3K,decide_eq_true hv,Bool.true_and,decide_eq_true_eq];cases ho:Q29 g c v with
 | true =>
   rw[Q5w hg hc hv ho];exact⟨fun _=>rfl,fun _=>by split<;>omega⟩
 | false =>
   rw[Q88 hg hc hv ho];exact⟨fun h=>by omega,fun h=>by cases h⟩
theorem X27 {g:G} (hg:g.valid=true) {c:Cf} (hc:J2o J0S g c):enN J0S g c=0↔∀v,v<g.ids.length->Q29 g c v=false:=by
 constructor
 . intro e v hv;cases ho:Q29 g c v with
   | false=>rfl
   | true =>
     have:=(Q2z hg hc hv).2 ho;rw[e] at this;simp at this
 . intro h;apply Nat.eq_of_testBit_eq;intro v;rw[Nat.zero_testBit];cases e:(enN J0S g c).testBit v with
   | false=>rfl
   | true =>
     have hlt:v<g.ids.length:=by rw[Q3K,Bool.and_eq_true,decide_eq_true_eq] at e;exact e.1
     have:=(Q2z hg hc hlt).1 e;rw[h v hlt] at this;cases this
theorem wd0 (g:G) (c:Cf) (v:Nat):J4x J0S g c v 0=((gC c v).set 0 (brI 1 0 (0+16*(g.ids.length:Int)+0*Q4s g) 0)).set 1 (brI 3 (-1) (((gR g.ports v).length:Int)-1) (-1)):=rfl
theorem wd1 (g:G) (c:Cf) (v:Nat):J4x J0S g c v 1=((gC c v).set 0 (brI 1 0 (0+16*(g.ids.length:Int)+0*Q4s g) (xWT.sem g c v (-1)))).set 1 (brI 3 (-1) (((gR g.ports v).length:Int)-1) (pWT.sem g c v (-1))):=rfl
theorem J9z {k lo hi a:Int} (h:lo<=a/\a<=hi):brI k lo hi a=a:=by rw[brI,if_pos h]
theorem X3n {g:G} (hg:g.valid=true) {c:Cf} (hc:J2o J0S g c) {v:Nat} (hv:v<g.ids.length) (h0:v≠0):0<=(tgW g (dC c) v).1/\(tgW g (dC c) v).1<=16*g.ids.length/\-1<=(tgW g (dC c) v).2/\(tgW g (dC c) v).2<=((gR g.ports v).length:Int)-1:=by
 have hm:=X6E hg (J7Z hc) hv;have hf:=Q0R (fun l=>decide (exI g (dC c l.1.toNat) l.2=mnW g (dC c) v)) (gR g.ports v) 0;rw[tgW,if_neg h0];simp only;split<;>omega
theorem Q2y {g:G} (hg:g.valid=true) {c:Cf} (hc:J2o J0S g c) {s:Nat} (hs:J6p s (enN J0S g c)):Go.Plain.Val.Step g.ids.length (tgW g) (stX c) (fun v=>s.testBit v) (stX (J2q J0S g c s)):=by
 intro v hv;have hl:=hc.len;have hlen:=(J8M hc hv).1;have hrow:=J4P J0S g c s (v:=v) (by omega);refine⟨fun hb ho=>?_,fun hq=>?_⟩
 . rw[J4W] at ho;rw[if_pos hb,Q5w hg hc hv ho] at hrow;show(gI (gC (J2q J0S g c s) v) 0,gI (gC (J2q J0S g c s) v) 1)=tgW g (dC c) v;by_cases h0:v=0
   . rw[if_pos h0] at hrow;rw[hrow,show(0:Int).toNat=0 from rfl,wd0];rw[J7h _ _ _ _ (by rw[List.length_set];omega),if_neg (by decide),J7h _ _ _ _ (by omega),if_pos rfl,J7h _ _ _ _ (by rw[List.length_set];omega),if_pos rfl,tgW,if_pos h0,J9z (by omega),J9z (by omega)]
   . rw[if_neg h0] at hrow;obtain⟨r1,r2,r3,r4⟩:=X3n hg hc hv h0;rw[hrow,show(1:Int).toNat=1 from rfl,wd1,X1H hg (J7Z hc) hv h0,X1X hg (J7Z hc) hv h0];rw[J7h _ _ _ _ (by rw[List.length_set];omega),if_neg (by decide),J7h _ _ _ _ (by omega),if_pos rfl,J7h _ _ _ _ (by rw[List.length_set];omega),if_pos rfl,J9z (by omega),J9z (by omega)]
 . show gI (gC (J2q J0S g c s) v) 0=gI (gC c v) 0/\gI (gC (J2q J0S g c s) v) 1=gI (gC c v) 1;cases hb:s.testBit v with
   | false=>rw[hrow,hb];exact⟨rfl,rfl⟩
   | true =>
     exfalso;have ho:=(Q2z hg hc hv).1 (hs v hb);rcases hq with q|q
     . exact absurd (hb.symm.trans q) (by simp)
     . rw[J4W] at q;exact q ho
theorem Q3k:∀{l:List Int} {a:Int} (m:Int),a∈l->a<=J4i l m
 | [],_,_,h=>by simp at h
 | x::r,a,m,h=>by
   rw[J4i];rcases List.mem_cons.1 h with e|e
   . subst e;refine Int.le_trans ?_ (J5r r _);split<;>omega
   . exact Q3k _ e
def TrX (g:G) (c:Cf):Prop:=∀v,v<g.ids.length->dC c v=((Tv g v:Nat):Int)/\pC c v=upW g v
noncomputable def mxV (g:G):Int:=J4i (J2D g) 0
theorem X9Z {g:G} {v:Nat} (hv:v<g.ids.length):((Tv g v:Nat):Int)<=mxV g:=by
 have:gI (J2D g) v∈J2D g:=by
  have hl:=J3X g;simp only[gI,List.getD,List.getElem?_eq_getElem (show v<(J2D g).length by omega),Option.getD_some];exact List.getElem_mem _
 rw[<- J3Y hv];exact Q3k 0 this
theorem X1L {g:G} {c:Cf} (ht:TrX g c) {k:Nat} (hk:∀v,v<g.ids.length->Tv g v<k):Go.Plain.Val.Ok g.ids.length (Tv g) (upW g) (stX c) k :=
 ⟨fun v hv _=>ht v hv,fun v hv q=>by have:=hk v hv;omega⟩
theorem Q6B {g:G} {c:Cf} {k:Nat} (ho:Go.Plain.Val.Ok g.ids.length (Tv g) (upW g) (stX c) k) (hk:∀v,v<g.ids.length->Tv g v<k):TrX g c :=
 fun v hv=>ho.low v hv (hk v hv)
theorem Q5R {g:G} (h:g.conn=true):∀v,v<g.ids.length->Tv g v<16*g.ids.length:=fun v hv=>by have:=J6w h hv;omega
theorem Q9v {g:G} (h:g.conn=true) {c:Cf} (ht:TrX g c) {v:Nat} (hv:v<g.ids.length):Q29 g c v=false:=by
 have:=(X1L ht (Q5R h)).all (X6y h) (Q6b h) hv (Q5R h v hv);rw[J4W] at this;simpa using this
theorem Q9u {g:G} (h:g.conn=true) {c:Cf} (hc:J2o J0S g c) (ht:TrX g c) {s:Nat} (hs:J6p s (enN J0S g c)):TrX g (J2q J0S g c s) :=
 Q6B ((X1L ht (Q5R h)).step (X6y h) (Q6b h) (Q2y (J0j h).1 hc hs)).1 (Q5R h)
theorem Q1s {g:G} {c:Cf} (hc:J2o J0S g c):∀v,v<g.ids.length->0<=dC c v:=fun v hv=>(J7Z hc v hv).1
theorem X5l {g:G} (h:g.conn=true) {c:Cf} (hc:J2o J0S g c) (ho:∀v,v<g.ids.length->Q29 g c v=false):TrX g c:=by
 have key:∀k,Go.Plain.Val.Ok g.ids.length (Tv g) (upW g) (stX c) k:=fun k=>by
  induction k with
  | zero=>exact Go.Plain.Val.Ok.start (Q1s hc)
  | succ k ih =>
    refine ih.next fun v hv hb=>?_;have:=ih.off_bad (X6y h) (Q6b h) hv hb;rw[J4W,ho v hv] at this;cases this
 exact Q6B (key _) (Q5R h)
theorem J9O {g:G} (h:g.conn=true) {c:Cf} (hc:J2o J0S g c):enN J0S g c=0↔TrX g c:=by
 rw[X27 (J0j h).1 hc];exact⟨fun q=>X5l h hc q,fun q v hv=>Q9v h q hv⟩
structure XIn (g:G) (c:Cf) (k:Cnt):Prop where
 hr:(k.rounds:Int)<=mxV g
 ho:Go.Plain.Val.Ok g.ids.length (Tv g) (upW g) (stX c) k.rounds
 hb:∀v,v<g.ids.length->Go.Plain.Val.bad (Tv g) (upW g) (stX c) k.rounds v->k.pend.testBit v=true
theorem Q2n {g:G} (h:g.conn=true) {c:Cf} (hc:J2o J0S g c) {k:Nat} (ho:Go.Plain.Val.Ok g.ids.length (Tv g) (upW g) (stX c) k) {v:Nat} (hv:v<g.ids.length) (hb:Go.Plain.Val.bad (Tv g) (upW g) (stX c) k v):(enN J0S g c).testBit v=true :=
 (Q2z (J0j h).1 hc hv).2 (J4W.1 (ho.off_bad (X6y h) (Q6b h) hv hb))
theorem X6D (g:G):0<=mxV g:=J5r _ _
theorem Q5r {g:G} (h:g.conn=true) {c:Cf} (hc:J2o J0S g c):XIn g c (J4J (enN J0S g c)) :=
 ⟨by simpa[J4J] using X6D g,Go.Plain.Val.Ok.start (Q1s hc),fun v hv hb=>Q2n h hc (Go.Plain.Val.Ok.start (Q1s hc)) hv hb⟩
theorem Q84 {g:G} (h:g.conn=true) {c:Cf} (hc:J2o J0S g c) {k:Cnt} (hi:XIn g c k) {s:Nat} (hs:J6p s (enN J0S g c)) (hc':J2o J0S g (J2q J0S g c s)) (hn:¬ TrX g (J2q J0S g c s)) :
 XIn g (J2q J0S g c s) (k.add s (enN J0S g (J2q J0S g c s))):=by
 obtain⟨h1,h2⟩:=J0j h;obtain⟨f1,f2,f3,f4,f5,f6,f7⟩:=J0a h1;have hstep:=Q2y h1 hc hs;obtain⟨hr,ho,hb⟩:=hi;have hlf:∀v,v<g.ids.length->((lft k s (enN J0S g (J2q J0S g c s))).testBit v=true↔(k.pend.testBit v=true/\s.testBit v=false)/\(enN J0S g (J2q J0S g c s)).testBit v=true):=fun v hv=>by
  simp only[lft,Nat.testBit_and,J3N (show v<32 by omega),Bool.and_eq_true,Bool.not_eq_true']
 obtain⟨ho',hb'⟩:=ho.step (X6y h) (Q6b h) hstep;have hbl:∀v,v<g.ids.length->Go.Plain.Val.bad (Tv g) (upW g) (stX (J2q J0S g c s)) k.rounds v->(lft k s (enN J0S g (J2q J0S g c s))).testBit v=true:=fun v hv q=>by
  obtain⟨q1,q2⟩:=hb' v hv q;exact(hlf v hv).2 ⟨⟨hb v hv q1,q2⟩,Q2n h hc' ho' hv q⟩
 by_cases hz:lft k s (enN J0S g (J2q J0S g c s))=0
 . rw[Cnt.add,if_pos hz];have hnx:=ho'.next fun v hv q=>by
    have:=hbl v hv q;rw[hz] at this;simp at this
   refine⟨?_,hnx,fun v hv q=>Q2n h hc' hnx hv q⟩;apply Classical.byContradiction;intro q;refine hn (Q6B hnx fun v hv=>?_);have:=X9Z (g:=g) hv;simp only at q;omega
 . rw[Cnt.add,if_neg hz];exact⟨hr,ho',hbl⟩
def cup (x:Nat->Bool) (v:Nat) (t:Bool):Nat->Bool:=fun u=>if u=v then t else x u
structure BIn (g:G) (b:Int) (r:Nat) (x:Nat->Bool):Prop where
 root:x 0=true
 snd:∀v,v<g.ids.length->x v=true->((Tv g v:Nat):Int)+1<=b*g.ids.length+J3l x g.ids.length
 ok:∀v,v<g.ids.length->rkV g v<r->((Tv g v / g.ids.length:Nat):Int)<=b->x v=true
structure BPs (g:G) (b:Int) (r v i:Nat) (x:Nat->Bool):Prop where
 base:BIn g b r x
 before:∀u,u<v->u<g.ids.length->rkV g u<=r->((Tv g u / g.ids.length:Nat):Int)<=b->x u=true
 here:∀j,j<i->j<(gR g.ports v).length->Tv g v=exN g.ids.length (Tv g (gF (gR g.ports v) j).1.toNat) (gF (gR g.ports v) j).2.toNat->rkV g v<=r->((Tv g v / g.ids.length:Nat):Int)<=b->x v=true
theorem BPs.start {g:G} {b:Int} {r:Nat} {x:Nat->Bool} (h:BIn g b r x):BPs g b r 0 0 x:=⟨h,fun u hu=>by omega,fun j hj=>by omega⟩
theorem BIn.start {g:G} {b:Int} (hb:0<=b) (hn:0<g.ids.length):BIn g b 0 (fun v=>decide (v=0)):=by
 refine⟨rfl,fun v hv e=>?_,fun v hv q=>by omega⟩;have e:=of_decide_eq_true e;subst e;rw[J5e];have h1:J3l (fun v=>decide (v=0)) g.ids.length=1:=by
  obtain⟨m,hm⟩:∃m,g.ids.length=m+1:=⟨g.ids.length-1,by omega⟩;rw[hm];clear hm hn
  induction m with
  | zero=>rfl
  | succ m ih=>rw[J3l,ih];simp
 have h2:0<=b*(g.ids.length:Int):=Int.mul_nonneg hb (by omega);omega
theorem BPs.step {g:G} (h:g.conn=true) {b:Int} (hb:0<=b) {r v i:Nat} {x:Nat->Bool} (hp:BPs g b r v i x) (hv:v<g.ids.length) (hi:i<(gR g.ports v).length) :
 BPs g b r v (i+1) (cup x v (x v || (x (gF (gR g.ports v) i).1.toNat&&decide ((gF (gR g.ports v) i).2<=b)))):=by
 obtain⟨h1,h2⟩:=J0j h;obtain⟨f1,f2,f3,f4,f5,f6,f7⟩:=J0a h1;have hB:=hp.base;have hl:=J02 hi;have hok:=(J0n.1 (f6 v (by omega))).1 _ hl;generalize hL:gF (gR g.ports v) i=l at *;have hun:l.1.toNat<g.ids.length:=by omega
 have hst:∀u,x u=true->cup x v (x v || (x l.1.toNat&&decide (l.2<=b))) u=true:=fun u e=>by
  rw[cup];split
  . rename_i q;subst q;simp[e]
  . exact e
 refine⟨⟨hst 0 hB.root,fun u hu e=>?_,fun u hu q q2=>hst u (hB.ok u hu q q2)⟩,fun u hu hun q q2=>hst u (hp.before u hu hun q q2),fun j hj hj2 e q q2=>?_⟩
 . by_cases hxu:x u=true
   . have h3:=hB.snd u hu hxu;have h4:J3l x g.ids.length<=J3l (cup x v (x v || (x l.1.toNat&&decide (l.2<=b)))) g.ids.length:=Q18 fun w _ q=>hst w q;omega
   . have hxf:x u=false:=by simpa using hxu
     have huv:u=v:=by
      apply Classical.byContradiction;intro ne;rw[cup,if_neg ne] at e;exact hxu e
     subst huv;have e2:=e;rw[cup,if_pos rfl,hxf,Bool.false_or,Bool.and_eq_true,decide_eq_true_eq] at e2;have h3:=hB.snd _ hun e2.1;have h4:J3l (cup x u (x u || (x l.1.toNat&&decide (l.2<=b)))) g.ids.length=J3l x g.ids.length+1:=J6j (u:=u) e hxf (fun w hw=>by rw[cup,if_neg hw]) hu;have h5:=J6x h hv hl;have h6:((l.2.toNat*g.ids.length:Nat):Int)<=b*g.ids.length:=by
      push_cast
      rw[Int.toNat_of_nonneg (by omega)];exact Int.mul_le_mul_of_nonneg_right e2.2 (by omega)
     rw[h4];simp only[exN] at h5;generalize l.2.toNat*g.ids.length=m at *;generalize b*(g.ids.length:Int)=t at *;omega
 . by_cases ej:j=i
   . subst ej;rw[hL] at e;have hlt:Tv g l.1.toNat<Tv g v:=by rw[e];exact Q3G
     have hrk:=X54 hun hlt;have hx:=hB.ok l.1.toNat hun (by omega) (by
      have:Tv g l.1.toNat / g.ids.length<=Tv g v / g.ids.length:=Nat.div_le_div_right (by omega);omega)
     have hw:l.2<=b:=by
      have h7:l.2.toNat*g.ids.length<=Tv g v:=by rw[e,exN];omega
      have h8:l.2.toNat<=Tv g v / g.ids.length:=(Nat.le_div_iff_mul_le (by omega)).2 h7;omega
     rw[cup,if_pos rfl,hx,decide_eq_true hw];simp
   . exact hst v (hp.here j (by omega) hj2 e q q2)
theorem BPs.row {g:G} (h:g.conn=true) {b:Int} {r v:Nat} {x:Nat->Bool} (hp:BPs g b r v (gR g.ports v).length x) (hv:v<g.ids.length):BPs g b r (v+1) 0 x:=by
 refine⟨hp.base,fun u hu hun q q2=>?_,fun j hj=>by omega⟩;by_cases e:u=v
 . subst e;by_cases h0:u=0
   . subst h0;exact hp.base.root
   . obtain⟨l,hl,e⟩:=J8R h hun h0;obtain⟨j,hj,ej⟩:=List.getElem_of_mem hl;have ej:gF (gR g.ports u) j=l:=by rw[<- ej];simp[gF,List.getD,hj]
     exact hp.here j hj hj (by rw[ej];exact e) q q2
 . exact hp.before u (by omega) hun q q2
theorem BPs.over {g:G} {b:Int} {r v:Nat} {x:Nat->Bool} (hp:BPs g b r v 0 x) (hv:g.ids.length<=v):BIn g b (r+1) x :=
 ⟨hp.base.root,hp.base.snd,fun u hu q q2=>hp.before u (by omega) hu (by omega) q2⟩
theorem BIn.done {g:G} {b:Int} (hb:0<=b) {x:Nat->Bool} (h:BIn g b g.ids.length x) {v:Nat} (hv:v<g.ids.length):x v=decide (((Tv g v / g.ids.length:Nat):Int)<=b):=by
 cases e:x v with
 | true =>
   symm;rw[decide_eq_true_eq];have h1:=h.snd v hv e;have h2:=J9v x g.ids.length;obtain⟨k,rfl⟩:∃k:Nat,b=(k:Int):=⟨b.toNat,by omega⟩;have h3:Tv g v<(k+1)*g.ids.length:=by
    have:(k:Int)*(g.ids.length:Int)=((k*g.ids.length:Nat):Int):=by push_cast;rfl
    rw[this] at h1;rw[Nat.add_mul];omega
   have h4:=(Nat.div_lt_iff_lt_mul (by omega)).2 h3;omega
 | false =>
   symm;rw[decide_eq_false_iff_not];intro q;have:=h.ok v hv (by have:=Q21 (g:=g) hv;omega) q;rw[e] at this;cases this
def bX (g:G) (v x:Nat):Int×Int:=if x=0 then (0,16*g.ids.length) else (-1,((gR g.ports v).length:Int)-1)
def G.xconf (g:G) (c:Cf):Bool:=conf g.ids.length 2 (bX g) c
theorem X23 (g:G) (hg:g.valid=true) (c:Cf):conf g.ids.length [16*(g.ids.length:Int),-1].length (bG g [16*(g.ids.length:Int),-1]) c=g.xconf c:=Q77 (fun v x hv hx=>by
 have e:x=0\/x=1:=by simp at hx;omega
 rcases e with rfl|rfl
 . rw[bG,show gI [16*(g.ids.length:Int),-1] 0=16*(g.ids.length:Int) from rfl,if_neg (by omega)];rfl
 . rfl)
theorem X78:VOk vW2:=⟨by decide,fun x=>by
 rcases x with _|_|x
 . decide
 . decide
 . have:gV vW2 (x+2)=default:=by simp[gV,vW2,List.getD]
   rw[this];decide⟩
theorem X79 (x:Nat):0<=(gV vW2 x).lo/\(gV vW2 x).lo<=1000:=by
 rcases x with _|_|x
 . exact⟨by decide,by decide⟩
 . exact⟨by decide,by decide⟩
 . have:gV vW2 (x+2)=default:=by simp[gV,vW2,List.getD]
   rw[this];exact⟨by decide,by decide⟩
theorem J6r {g:G} {c:Cf} (h:g.xconf c=true):c.length=g.ids.length/\∀v,v<c.length->(gC c v).length=2/\0<=gI (gC c v) 0/\gI (gC c v) 0<=16*g.ids.length/\-1<=gI (gC c v) 1/\gI (gC c v) 1<(gR g.ports v).length:=by
 have:=J4d.1 h;refine⟨this.1,fun v hv=>?_⟩;have h2:=this.2 v (by omega);have h3:=h2.2 0 (by omega);have h4:=h2.2 1 (by omega);simp only[bX,if_true,Nat.one_ne_zero,if_false] at h3 h4;omega
theorem Q2t {g:G} {c:Cf} (h:J2o J0S g c):g.xconf c=true:=by
 rw[G.xconf,J4d];refine⟨h.len,fun v hv=>?_⟩;obtain⟨h0,h1,h2,h3,h4⟩:=J8M h hv;refine⟨h0,fun x hx=>?_⟩;rcases (show x=0\/x=1 by omega) with rfl|rfl
 . exact⟨h1,h2⟩
 . exact⟨h3,h4⟩
theorem Q9b (g:G) (hs:g.Small):Ret Tryz.prog 58 [g.v] (.bool g.conn):=by
 have h:=Q16 g hs;refine J0f rfl ?_;refine J0b mixed Tryz.func58 rfl hc58 hr58 rfl ?_;cases hc:g.conn
 all_goals rw[hc] at h
 all_goals
  repeat' ((conv=>whnf);first|(refine Br.tt ?_)|(refine Br.ff ?_)|(refine h.go ?_))
  all_goals (conv=>whnf)
  exact VLe.rfl
theorem J2L (g:G) (hs:g.Small) (c:Cf) (hc:J7L c):Ret Tryz.prog 32 [g.v,cV c] (.bool (g.conn&&g.xconf c)):=by
 have hf:=Q9b g hs;refine J0f rfl ?_;refine J0b mixed Tryz.func32 rfl hc32 hr32 rfl ?_;cases hg:g.conn with
 | true =>
   rw[hg] at hf;rw[Bool.true_and];obtain⟨h1,_⟩:=J0j hg;obtain⟨f1,f2,f3,f4,f5,f6,f7⟩:=J0a h1;have hb:=X1D g hs f3 c hc [16*(g.ids.length:Int),-1] (by simp);rw[X23 g h1] at hb
   repeat' ((conv=>whnf);first|(refine Br.tt ?_)|(refine Ar.q ?_)|(refine hf.go ?_)|(refine J11 [1] hb ⟨by decide,VLe.rfl,VLe.rfl,VLe.fz rfl (fun h=>h) (Q5O _ _ _ (by first|rfl|(congr 1;omega)) rfl),True.intro⟩ ?_)|(refine Br.any (fun _=>?_) (fun _=>?_)))
   all_goals (conv=>whnf)
   all_goals exact VLe.bool (Eq.symm (by first|assumption|exact decide_eq_true (by assumption)|exact decide_eq_false (by assumption)))
 | false =>
   rw[hg] at hf
   repeat' ((conv=>whnf);first|(refine Br.ff ?_)|(refine hf.go ?_))
   all_goals (conv=>whnf)
   all_goals exact VLe.rfl
theorem Q4h:Ret Tryz.prog 30 [] (.fz vW2.length 6 false (vV vW2)):=by
 refine J0f rfl ?_;refine J0b mixed Tryz.func30 rfl hc30 hr30 rfl ?_
 repeat' ((conv=>whnf);first|(refine Len.q ?_)|(refine(Q45 _ _ _ _).go ?_)|(refine(Q14 _).go ?_))
 all_goals (conv=>whnf)
 refine VLe.fz rfl (fun h=>h) (fun i j hi hj=>?_);rcases (show i=0\/i=1 by omega) with rfl|rfl
 all_goals
  rcases (show j=0\/j=1\/j=2\/j=3\/j=4\/j=5 by omega) with rfl|rfl|rfl|rfl|rfl|rfl
 all_goals exact VLe.of_eq rfl
noncomputable def X5U (g:G) (c:Cf):Bool:=decide (∀v,v<c.length->gI (gC c v) 0=gI (J2D g) v/\gI (gC c v) 1=upW g v)
theorem J8T {g:G} {c:Cf}:X5U g c=true↔∀v,v<c.length->gI (gC c v) 0=gI (J2D g) v/\gI (gC c v) 1=upW g v:=by rw[X5U,decide_eq_true_eq]
noncomputable def G.xleg (g:G) (c:Cf):Bool:=g.conn&&g.xconf c&&X5U g c
theorem Q2s {g:G} (h:g.conn=true) {c:Cf} (hc:J2o J0S g c):g.xleg c=true↔TrX g c:=by
 have hl:=hc.len;rw[G.xleg,h,Q2t hc,Bool.true_and,Bool.true_and,J8T,hl];refine forall_congr' fun v=>forall_congr' fun hv=>?_;rw[J3Y hv]
theorem Q5q {g:G} (h:g.conn=true) {c:Cf} (hc:J2o J0S g c):g.xleg c=decide (enN J0S g c=0):=by
 rw[Bool.eq_iff_iff,decide_eq_true_eq,Q2s h hc,J9O h hc]
theorem Q6U:∀{l:List Int} {m b:Int},m<=b->(∀a∈l,a<=b)->J4i l m<=b
 | [],m,b,h,_=>h
 | a::r,m,b,h,ha=>by
   rw[J4i];exact Q6U (by have:=ha a (by simp);split<;>omega) (fun x hx=>ha x (by simp[hx]))
theorem X6C {g:G} (h:g.conn=true):0<=mxV g/\mxV g+2<=16*g.ids.length/\g.ids.length<=24:=by
 obtain⟨f1,f2,f3,f4,f5,f6,f7⟩:=J0a (J0j h).1;refine⟨X6D g,?_,f2⟩;have:mxV g<=16*(g.ids.length:Int)-2:=by
  refine Q6U (by omega) fun a ha=>?_;obtain⟨v,hv,rfl⟩:=List.mem_map.1 ha;have:=J6w h (List.mem_range.1 hv);omega
 omega
theorem Q87 {g:G} (hg:g.valid=true) {w:Int} (h0:0<=w) (h1:w<=15):0<=w*(g.ids.length:Int)/\w*(g.ids.length:Int)<=360:=by
 obtain⟨f1,f2,f3,f4,f5,f6,f7⟩:=J0a hg;obtain⟨k,rfl⟩:∃k:Nat,w=(k:Int):=⟨w.toNat,by omega⟩;have:k*g.ids.length<=15*24:=Nat.mul_le_mul (by omega) f2;have e:((k:Int)*(g.ids.length:Int))=((k*g.ids.length:Nat):Int):=by push_cast;rfl
 rw[e];omega
theorem J4E (g:G) (hg:g.valid=true) (y:Int) (hy:0<=y/\y<=1073741824) (l:Int×Int) (hl:0<=l.2/\l.2<=15) :
 Ret Tryz.prog 43 [.int .i64 g.ids.length,.int .i64 y,.agg [.int .i64 l.1,.int .i64 l.2]] (.int .i64 (exI g y l.2)):=by
 have hw:=Q87 hg hl.1 hl.2;refine J0f rfl ?_;refine J0b mixed Tryz.func43 rfl hc43 hr43 rfl ?_
 repeat' ((conv=>whnf);first|(refine Ar.q ?_)|(refine Sv.mk _ rfl ?_))
 all_goals (conv=>whnf)
 exact VLe.of_eq rfl
def X0H (n:Nat) (k:Nat):Nat->Nat->V:=fun i _=>.int .i64 (if 1<=i/\i<k+1 then 16*n else 0)
def X4i (n:Nat) (b:Int):List Int:=(List.range n).map fun v=>if v=0 then 0 else b
theorem X0I (n:Nat) (b:Int):(X4i n b).length=n:=by simp[X4i]
theorem J9j {n:Nat} (b:Int) {v:Nat} (h:v<n):gI (X4i n b) v=if v=0 then 0 else b:=by simp[X4i,gI,List.getD,h]
def clE:Env->List Nat->Env
 | [],_=>[]
 | (t,v)::r,seen=>match J09 t seen with
   | true=>clE r seen
   | false=>(t,v)::clE r (t::seen)
def clB:Blk->Blk
 | .loop st pe env N ps C=>.loop st pe (clE env []) N ps C
 | b=>b
def clO:Own->Own
 | []=>[]
 | (k,b)::r=>(k,clB b)::clO r
theorem Q7o (n i j:Nat) (hj:j<1):VLe ((fun(_:Nat) j=>[V.int .i64 0].getD j default) i j) (X0H n 0 i j):=by
 obtain rfl:j=0:=by omega
 apply VLe.of_eq;rw[X0H,if_neg (by omega)];rfl
theorem X0G (n k i j:Nat) (hj:j<1):VLe (J1R (X0H n k) (k+1) 0 [.int .i64 (16*(n:Int))] i j) (X0H n (k+1) i j):=by
 obtain rfl:j=0:=by omega
 apply VLe.of_eq;by_cases h:i=k+1
 . subst h;simp[J1R,X0H]
 . simp only[J1R,X0H];rw[if_neg (by simp[h])];congr 1;by_cases h2:1<=i/\i<k+1
   . rw[if_pos h2,if_pos (by omega)]
   . rw[if_neg h2,if_neg (by omega)]
theorem Q3x (n i j:Nat) (hn:1<=n) (hi:i<n) (hj:j<1):VLe (X0H n (n-1) i j) (vI (X4i n (16*n)) i j):=by
 obtain rfl:j=0:=by omega
 apply VLe.of_eq;simp only[X0H,vI];rw[J9j _ hi];congr 1;by_cases h:i=0
 . subst h;simp
 . rw[if_pos (by omega),if_neg h]
set_option maxHeartbeats 16000000 in
theorem Q5I (g:G) (hs:g.Small) (hgc:g.conn=true):Ret Tryz.prog 40 [g.v] (.fz (J2D g).length 1 false (vI (J2D g))):=by
 obtain⟨hg,_⟩:=J0j hgc;obtain⟨f1,f2,f3,f4,f5,f6,f7⟩:=J0a hg;refine J0f rfl ?_;refine J0b mixed Tryz.func40 rfl hc40 hr40 rfl ?_
 repeat' ((conv=>whnf);first|(refine Bd.q ?_)|(refine Len.q ?_)|(refine MkS.vec ?_))
 all_goals (conv=>whnf)
 refine J0N mixed [1,3,4] [] [4,5,6,7,8,9,10,11,12,13,14,15,16,17,18,19,20,21,22,23,24,25,26,27,28,29] [3,2,1,0] (fun k:Nat=>[(5,.int .i64 ((k:Int)+1))]) (fun own k=>J2i own 2 (.vec g.ids.length 1 (X0H g.ids.length k))) (fun m k=>m=g.ids.length-1-k/\k<=g.ids.length-1) (g.ids.length-1) 0 ⟨rfl,Nat.zero_le _⟩ rfl (fun _=>rfl) ?_ ?_
 . refine J0e (fun _ _=>[(0,some 0),(1,some 1),(2,some 2),(3,some 3)]) ?_ ?_ rfl
   . repeat' (first|exact tI|(refine⟨⟨_,rfl,?_⟩,?_⟩)|exact J0c.kf rfl|exact J0c.loc rfl)
   . repeat' (first|exact⟨Nat.le_refl _,rfl,fun i j hi hj=>Q7o _ i j hj⟩|exact tI|(refine⟨⟨_,rfl,?_⟩,?_⟩)|exact J0c.kf rfl|exact J0c.q|apply And.intro)
 rintro m k ⟨hm,hk⟩;by_cases hkn:k<g.ids.length-1
 . repeat' ((conv=>whnf);first|(refine Ix.w (k+1) ?_)|(refine Br.dec ?_ ?_<;>intro _<;>try omega)|(refine Ar.q ?_)|(refine Ltn.q ?_))
   all_goals (conv=>whnf)
   refine⟨g.ids.length-1-(k+1),k+1,by omega,⟨rfl,by omega⟩,?_⟩;refine J0e (fun _ _=>[(0,some 0),(1,some 1),(2,some 2),(3,some 3)]) ?_ ?_ rfl
   . repeat' (first|exact tI|(refine⟨⟨_,rfl,?_⟩,?_⟩)|exact J0c.kf rfl|exact J0c.loc rfl)
   . repeat' (first|exact⟨Nat.le_refl _,rfl,fun i j hi hj=>by simp only[Nat.zero_add];exact X0G _ k i j hj⟩|exact tI|(refine⟨⟨_,rfl,?_⟩,?_⟩)|exact J0c.kf rfl|exact J0c.q|apply And.intro)
 . have ek:k=g.ids.length-1:=by omega
   subst ek
   repeat' ((conv=>whnf);first|(refine Br.dec ?_ ?_<;>intro _<;>try omega))
   all_goals (conv=>whnf)
   have hlen0:=X0I g.ids.length (16*(g.ids.length:Int));have hin0:VIn g 0 (X4i g.ids.length (16*(g.ids.length:Int))):=VIn.start hgc hlen0 (by rw[J9j _ (by omega)];rfl) (fun v hv h0=>by rw[J9j _ hv,if_neg h0];omega);refine J0N mixed [1,3,4,23] [] [4,5,6,7,8,9,10,11,12,13,14,15,16,17,18,19,20,21,22,23,24,25,26,27,28,29] [3,2,1,0] (fun p:Nat×List Int=>[(24,.int .i64 p.1)]) (fun own p=>J2i own 2 (.vec g.ids.length 1 (vI p.2))) (fun m p=>m=g.ids.length-p.1/\p.1<=g.ids.length/\VIn g p.1 p.2) g.ids.length (0,X4i g.ids.length (16*(g.ids.length:Int))) ⟨rfl,Nat.zero_le _,hin0⟩ rfl (fun _=>rfl) ?_ ?_
   . refine J0e (fun _ _=>[(0,some 0),(1,some 1),(2,some 2),(3,some 3)]) ?_ ?_ rfl
     . repeat' (first|exact tI|(refine⟨⟨_,rfl,?_⟩,?_⟩)|exact J0c.kf rfl|exact J0c.loc rfl)
     . repeat' (first|exact⟨Nat.le_refl _,rfl,fun i j hi hj=>by first|exact Q3x _ i j f1 hi hj|(simp only[Nat.zero_add];exact Q3x _ i j f1 hi hj)⟩|exact tI|(refine⟨⟨_,rfl,?_⟩,?_⟩)|exact J0c.kf rfl|exact J0c.q|apply And.intro)
   rintro m ⟨r,x⟩ ⟨hm,hr,hI⟩;simp only at hm hr hI;by_cases hrn:r<g.ids.length
   . dsimp only
     repeat' ((conv=>whnf);first|(refine Br.dec ?_ ?_<;>intro _<;>try omega)|(refine J0b mixed Tryz.func45 rfl hc45 hr45 rfl ?_)|(refine J3a ?_)|(refine Chk.q ?_)|(refine J0b mixed Tryz.func63 rfl hc63 hr63 rfl ?_))
     all_goals (conv=>whnf)
     refine J0N mixed [0,8,9] [] [6,7,8,9,10,11,12,13,14,15,16,17,18,19,20,21,22,23,24,25,26,27,28,29] [5,4,3,2,1,0] (fun p:Nat×List Int=>[(10,.int .i64 p.1)]) (fun own p=>clO (J2i own 2 (.vec g.ids.length 1 (vI p.2)))) (fun m p=>m=g.ids.length-p.1/\p.1<=g.ids.length/\VPs g r p.1 0 p.2) g.ids.length (0,x) ⟨rfl,Nat.zero_le _,VPs.start hI⟩ rfl (fun _=>rfl) ?_ ?_
     . refine J0e (fun _ _=>[(0,some 0),(1,some 1),(2,some 2),(3,some 3),(4,some 4),(5,some 5)]) ?_ ?_ rfl
       . repeat' (first|exact J0c.yld rfl|exact tI|(refine⟨⟨_,rfl,?_⟩,?_⟩)|exact J0c.kf rfl)
       . repeat' (first|(refine J0c.fn ?_)|(refine⟨rfl,rfl,rfl,rfl,rfl,?_⟩)|exact⟨Nat.le_refl _,rfl,fun i j hi hj=>VLe.rfl⟩|exact tI|(refine⟨⟨_,rfl,?_⟩,?_⟩)|exact J0c.kf rfl|exact J0c.loc rfl|exact J0c.q|apply And.intro)
     rintro m ⟨v,y⟩ ⟨hm2,hv,hP⟩;simp only at hm2 hv hP;by_cases hvn:v<g.ids.length
     . dsimp only;have hrl:=J2k hg v
       repeat' ((conv=>whnf);first|(refine Br.dec ?_ ?_<;>intro _<;>try omega)|(refine Ix.q ?_))
       all_goals (conv=>whnf)
       refine J0N mixed [0,3,8,9,10,15,16] [] [6,7,8,9,10,11,12,13,14,15,16,17,18,19,20,21,22,23,24,25,26,27,28,29] [5,4,3,2,1,0] (fun p:Nat×List Int=>[(17,.int .i64 p.1)]) (fun own p=>clO (J2i own 2 (.vec g.ids.length 1 (vI p.2)))) (fun m p=>m=(gR g.ports v).length-p.1/\p.1<=(gR g.ports v).length/\VPs g r v p.1 p.2) (gR g.ports v).length (0,y) ⟨rfl,Nat.zero_le _,hP⟩ rfl (fun _=>rfl) ?_ ?_
       . refine J0e (fun _ _=>[(0,some 0),(1,some 1),(2,some 2),(3,some 3),(4,some 4),(5,some 5)]) ?_ ?_ rfl
         . repeat' (first|exact J0c.yld rfl|exact tI|(refine⟨⟨_,rfl,?_⟩,?_⟩)|exact J0c.kf rfl)
         . repeat' (first|(refine J0c.fn ?_)|(refine⟨rfl,rfl,rfl,rfl,rfl,?_⟩)|exact⟨Nat.le_refl _,rfl,fun i j hi hj=>VLe.rfl⟩|exact tI|(refine⟨⟨_,rfl,?_⟩,?_⟩)|exact J0c.kf rfl|exact J0c.loc rfl|exact J0c.q|apply And.intro)
       rintro m ⟨i,z⟩ ⟨hm3,hi,hQ⟩;simp only at hm3 hi hQ;by_cases hin:i<(gR g.ports v).length
       . dsimp only;have hok:=(J0n.1 (f6 v (by omega))).1 _ (J02 hin);have hb:=hQ.base;have hzl:=hb.len;have hlo:=hb.low (gF (gR g.ports v) i).1.toNat (by omega);have hto:=hb.top (gF (gR g.ports v) i).1.toNat (by omega);have hext:=J4E g hg (gI z (0+(gF (gR g.ports v) i).1.toNat)) ⟨by rw[Nat.zero_add];omega,by rw[Nat.zero_add];exact hto⟩ (gF (gR g.ports v) i) ⟨by omega,by omega⟩
         repeat' ((conv=>whnf);first|(refine Ix.mk (gF (gR g.ports v) i).1.toNat (by omega) (by omega) ?_)|(refine Br.tt ?_)|(refine Br.dec ?_ ?_<;>intro _<;>try omega)|(refine Ar.q ?_)|(refine Sv.mk _ rfl ?_)|(refine Ix.q ?_)|(refine Ltn.q ?_)|(refine hext.go ?_)|(refine J2w mixed rfl rfl ?_)|(refine And.intro rfl ?_)|(refine And.intro (Ltn.mk (by omega) rfl) ?_))
         all_goals (conv=>whnf)
         refine⟨(gR g.ports v).length-(i+1),(i+1,Q6j g z v (gF (gR g.ports v) i)),by omega,⟨rfl,by omega,hQ.step hgc hvn hin⟩,?_⟩;refine J0e (fun _ _=>[(0,some 0),(1,some 1),(2,some 2),(3,some 3),(4,some 4),(5,some 5)]) ?_ ?_ rfl
         . repeat' (first|exact J0c.yld rfl|exact tI|(refine⟨⟨_,rfl,?_⟩,?_⟩)|exact J0c.kf rfl)
         . repeat' (first|(refine J0c.fn ?_)|(refine⟨rfl,rfl,rfl,rfl,rfl,?_⟩)|exact⟨Nat.le_refl _,rfl,fun i j hi hj=>by simp only[Nat.zero_add];exact Q5A z v _ _ _ (by omega) hj⟩|exact tI|(refine⟨⟨_,rfl,?_⟩,?_⟩)|exact J0c.kf rfl|exact J0c.loc rfl|exact J0c.q|apply And.intro)
       . repeat' ((conv=>whnf);first|(refine Br.dec ?_ ?_<;>intro _<;>try omega)|(refine Ar.q ?_))
         all_goals (conv=>whnf)
         refine⟨g.ids.length-(v+1),(v+1,z),by omega,⟨rfl,by omega,?_⟩,?_⟩
         . have e:i=(gR g.ports v).length:=by omega
           subst e;exact hQ.row hgc hvn
         . refine J0e (fun _ _=>[(0,some 0),(1,some 1),(2,some 2),(3,some 3),(4,some 4),(5,some 5)]) ?_ ?_ rfl
           . repeat' (first|exact J0c.yld rfl|exact tI|(refine⟨⟨_,rfl,?_⟩,?_⟩)|exact J0c.kf rfl)
           . repeat' (first|(refine J0c.fn ?_)|(refine⟨rfl,rfl,rfl,rfl,rfl,?_⟩)|exact⟨Nat.le_refl _,rfl,fun i j hi hj=>VLe.rfl⟩|exact tI|(refine⟨⟨_,rfl,?_⟩,?_⟩)|exact J0c.kf rfl|exact J0c.loc rfl|exact J0c.q|apply And.intro)
     . repeat' ((conv=>whnf);first|(refine Br.dec ?_ ?_<;>intro _<;>try omega)|(refine Ar.q ?_))
       all_goals (conv=>whnf)
       refine⟨g.ids.length-(r+1),(r+1,y),by omega,⟨rfl,by omega,hP.over (by omega)⟩,?_⟩;refine J0e (fun _ _=>[(0,some 0),(1,some 1),(2,some 2),(3,some 3)]) ?_ ?_ rfl
       . repeat' (first|exact tI|(refine⟨⟨_,rfl,?_⟩,?_⟩)|exact J0c.kf rfl|exact J0c.loc rfl)
       . repeat' (first|exact⟨Nat.le_refl _,rfl,fun i j hi hj=>VLe.rfl⟩|exact tI|(refine⟨⟨_,rfl,?_⟩,?_⟩)|exact J0c.kf rfl|exact J0c.q|apply And.intro)
   . repeat' ((conv=>whnf);first|(refine Br.dec ?_ ?_<;>intro _<;>try omega)|(refine Len.q ?_))
     all_goals (conv=>whnf)
     have er:r=g.ids.length:=by omega
     subst er;have hx:=hI.done;subst hx;exact VLe.fz (J3X g).symm (fun h=>h) (fun i j hi hj=>VLe.of_eq (by simp[J0h]))
def btL (c:Cf):List Int:=c.map fun r=>(gI r 0).tdiv c.length
theorem Q2k (c:Cf):(btL c).length=c.length:=by simp[btL]
theorem Q8A (c:Cf) {v:Nat} (h:v<c.length):gI (btL c) v=(gI (gC c v) 0).tdiv c.length:=by simp[btL,gI,gC,List.getD,h]
def G.botX (g:G) (c:Cf):List Int:=if g.conn&&g.xconf c then btL c else[]
def btF (c:Cf) (v:Nat):Nat->Nat->V:=fun i _=>.int .i64 (if i<v then gI (btL c) i else 0)
theorem X5d (c:Cf) (v i t:Nat) (x:Int) (hx:x=gI (btL c) v) (ht:t<1):VLe (J1R (btF c v) v 0 [.int .i64 x] i t) (btF c (v+1) i t):=by
 obtain rfl:t=0:=by omega
 apply VLe.of_eq;by_cases e:i=v
 . subst e;simp[J1R,btF,hx]
 . have:(i<v+1)=(i<v):=by simp;omega
   simp[J1R,btF,e,this]
theorem Q9x {a:Int} {n:Nat} (h0:0<=a) (h1:a<=1000):0<=a.tdiv n/\a.tdiv n<=1000:=by
 rw[Int.tdiv_eq_ediv_of_nonneg h0];exact⟨Int.ediv_nonneg h0 (Int.natCast_nonneg _),Int.le_trans (Int.ediv_le_self _ h0) h1⟩
set_option maxHeartbeats 4000000 in
theorem J4q (g:G) (hs:g.Small) (c:Cf) (hc:J7L c):Ret Tryz.prog 12 [g.v,cV c] (.fz (g.botX c).length 1 false (vI (g.botX c))):=by
 have hcf:=J2L g hs c hc;have hcl:=hc.len;refine J0f rfl ?_;refine J0b mixed Tryz.func12 rfl hc12 hr12 rfl ?_;by_cases h:(g.conn&&g.xconf c)=true
 . rw[h] at hcf;rw[G.botX,if_pos h,Q2k];rw[Bool.and_eq_true] at h;obtain⟨e1,e2⟩:=J6r h.2;obtain⟨f1,f2,f3,f4,f5,f6,f7⟩:=J0a (J0j h.1).1
   repeat' ((conv=>whnf);first|(refine Br.tt ?_)|(refine Bd.q ?_)|(refine Len.q ?_)|(refine MkS.vec ?_)|(refine hcf.go ?_))
   all_goals (conv=>whnf)
   refine J0N mixed [1,5,15,16] [] [2,3,4,5,6,7,8,9,10,11,12,13,14,15,16,17,18,19,20,21,22,23,24,25,26,27,28,29] [1,0] (fun v:Nat=>[(17,.int .i64 v)]) (fun own v=>J2i own 1 (.vec c.length 1 (btF c v))) (fun m v=>m=c.length-v/\v<=c.length) c.length 0 ⟨rfl,Nat.zero_le _⟩ rfl (fun _=>rfl) ?_ ?_
   . refine J0e (fun _ _=>[(0,some 0),(1,some 1)]) ?_ ?_ rfl
     . repeat' (first|exact tI|(refine⟨⟨_,rfl,?_⟩,?_⟩)|exact J0c.kf rfl|exact J0c.q)
     . repeat' (first|(refine⟨Nat.le_refl _,rfl,fun i j hi hj=>VLe.of_eq ?_⟩;obtain rfl:j=0:=(by omega);rfl)|exact tI|(refine⟨⟨_,rfl,?_⟩,?_⟩)|exact J0c.kf rfl|apply And.intro)
   rintro m v ⟨hm,hv⟩;by_cases hvl:v<c.length
   . have hr:=e2 v hvl;have hd:=Q9x (n:=c.length) hr.2.1 (by omega)
     repeat' ((conv=>whnf);first|(refine Ar.q ?_)|(refine Br.dec ?_ ?_<;>intro _<;>try omega)|(refine Nz.mk (by omega) ?_)|(refine Ix.q ?_)|(refine Ix.mk 0 rfl (by omega) ?_)|(refine Ltn.q ?_))
     all_goals (conv=>whnf)
     refine⟨c.length-(v+1),v+1,by omega,⟨rfl,by omega⟩,?_⟩;refine J0e (fun _ _=>[(0,some 0),(1,some 1)]) ?_ ?_ rfl
     . repeat' (first|exact tI|(refine⟨⟨_,rfl,?_⟩,?_⟩)|exact J0c.kf rfl|exact J0c.q)
     . repeat' (first|(refine⟨Nat.le_refl _,rfl,fun i j hi hj=>?_⟩;simp only[Nat.zero_add];exact X5d c v i j _ (Q8A c hvl).symm hj)|exact tI|(refine⟨⟨_,rfl,?_⟩,?_⟩)|exact J0c.kf rfl|apply And.intro)
   . have ev:v=c.length:=by omega
     subst ev
     repeat' ((conv=>whnf);first|(refine Br.dec ?_ ?_<;>intro _<;>try omega)|(refine Len.q ?_))
     all_goals (conv=>whnf)
     refine VLe.fz rfl (fun h=>h) (fun i j hi hj=>VLe.of_eq ?_);obtain rfl:j=0:=by omega
     rw[J0D,Nat.zero_add,btF,if_pos hi];rfl
 . rw[G.botX,if_neg h];simp only[Bool.not_eq_true] at h;rw[h] at hcf
   repeat' ((conv=>whnf);first|(refine Br.ff ?_)|(refine hcf.go ?_))
   all_goals (conv=>whnf)
   exact VLe.nilfz rfl
noncomputable def vlV (g:G):V:=.fz (J2D g).length 1 false (vI (J2D g))
def gCs (g:G):List V:=[.fz g.ids.length 1 false (vI g.ids),.fz g.ports.length 1 false (vP g.ports)]
noncomputable def X7z (g:G) (v:Nat) (l:Int×Int):Bool:=decide (exI g (gI (J2D g) l.1.toNat) l.2=gI (J2D g) v)
theorem X3e {g:G} (h:g.conn=true) {v:Nat} (hv:v<g.ids.length) (h0:v≠0):upW g v=fpI (X7z g v) 0 (gR g.ports v):=by
 obtain⟨f1,f2,f3,f4,f5,f6,f7⟩:=J0a (J0j h).1;rw[upW,if_neg h0];refine Q1X fun l hl=>?_;have hok:=(J0n.1 (f6 v (by omega))).1 l hl;rw[X7z,J3Y hv,J3Y (show l.1.toNat<g.ids.length by omega)]
theorem Q9p {g:G} (h:g.conn=true) (v:Nat):0<=gI (J2D g) v/\gI (J2D g) v<=400:=by
 obtain⟨f1,f2,f3,f4,f5,f6,f7⟩:=J0a (J0j h).1;by_cases hv:v<g.ids.length
 . rw[J3Y hv];have:=J6w h hv;omega
 . have hl:=J3X g;have:gI (J2D g) v=0:=by simp[gI,List.getD,List.getElem?_eq_none (show(J2D g).length<=v by omega)]
   omega
theorem Q7b (g:G) (hgc:g.conn=true) (v:Nat) (hv:v<g.ports.length) (i:Nat) (hi:i<(gR g.ports v).length) :
 Ret Tryz.prog 42 [.agg [.int .i64 (gF (gR g.ports v) i).1,.int .i64 (gF (gR g.ports v) i).2],.fe 1 2 (tab [gCs g]) 0 0,.fe 1 1 (tab [[vlV g]]) 0 0,.fe 1 1 (tab [[.int .i64 v]]) 0 0] (.bool (X7z g v (gF (gR g.ports v) i))):=by
 obtain⟨hg,_⟩:=J0j hgc;obtain⟨f1,f2,f3,f4,f5,f6,f7⟩:=J0a hg;have hok:=(J0n.1 (f6 v (by omega))).1 _ (J02 hi);have hr:=Q1L (f6 v hv) hi;have hl:=J3X g;have hy:=Q9p hgc (0+(gF (gR g.ports v) i).1.toNat);have hext:=J4E g hg (gI (J2D g) (0+(gF (gR g.ports v) i).1.toNat)) ⟨by omega,by omega⟩ (gF (gR g.ports v) i) ⟨by omega,by omega⟩;have hext2:=J4E g hg (gI (J2D g) (gF (gR g.ports v) i).1.toNat) ⟨by rw[Nat.zero_add] at hy;omega,by rw[Nat.zero_add] at hy;omega⟩ (gF (gR g.ports v) i) ⟨by omega,by omega⟩;refine J0f rfl ?_;refine J0b mixed Tryz.func42 rfl hc42 hr42 rfl ?_
 repeat' ((conv=>whnf);first|(refine Br.dec ?_ ?_<;>intro _<;>try omega)|(refine Ix.q ?_)|(refine Ix.int (by omega) (by omega) ?_)|(refine hext2.go ?_)|(refine And.intro rfl ?_))
 all_goals (conv=>whnf)
 . rename_i h;exact VLe.bool (decide_eq_true (by simpa using h)).symm
 . rename_i h;exact VLe.bool (decide_eq_false (by simpa using h)).symm
theorem X5M (g:G) (hgc:g.conn=true) (v:Nat) (hv:v<g.ports.length) (h0:v≠0) :
 J0K Tryz.prog 41 [g.v,.int .i64 v,.fn (.func 42) false [.loc 2 0,.loc 1 0,.loc 0 0]] [(2,.cells (gCs g)),(1,.cells [vlV g]),(0,.cells [.int .i64 v])] [3,4,5,6,7,8,9,10,11,12,13,14,15,16,17,18,19,20,21,22,23,24,25,26,27,28,29] fun X own' _=>X=.int .i64 (upW g v)/\own'=[(2,.cells (gCs g)),(1,.cells [vlV g]),(0,.cells [.int .i64 v])]:=by
 obtain⟨hg,_⟩:=J0j hgc;obtain⟨f1,f2,f3,f4,f5,f6,f7⟩:=J0a hg;have hup:=X3e hgc (show v<g.ids.length by omega) h0;have hrl:=J2k hg v;refine J2H ?_;refine J0b mixed Tryz.func41 rfl hc41 hr41 rfl ?_
 repeat' ((conv=>whnf);first|(refine Ix.q ?_))
 all_goals (conv=>whnf)
 refine J0V mixed [2,13,14] (fun i:Nat=>[(15,.int .i64 i)]) (fun m i=>m=(gR g.ports v).length-i/\i<=(gR g.ports v).length/\∀l∈(gR g.ports v).take i,X7z g v l=false) (gR g.ports v).length 0 ⟨rfl,Nat.zero_le _,by simp⟩ ?_ ?_
 . exact J0l (fun _ _=>[(0,some 0),(1,some 1),(2,some 2),(3,some 3)])
 rintro m i ⟨hm,hi,hall⟩;by_cases hil:i<(gR g.ports v).length
 . have h1:=Q7b g hgc v hv i hil;cases hb:X7z g v (gF (gR g.ports v) i) with
   | true =>
     rw[hb] at h1
     repeat' ((conv=>whnf);first|(refine Br.tt ?_)|(refine Br.dec ?_ ?_<;>intro _<;>try omega)|(refine Ix.q ?_)|(refine Chk.q ?_)|(refine J1n h1 rfl ⟨VLe.rfl,VLe.rfl,VLe.rfl,VLe.rfl,True.intro⟩ ?_))
     all_goals (conv=>whnf)
     have e:upW g v=i:=by rw[hup,J7j _ _ 0 i hi hall,X0P hil,fpI,if_pos hb];omega
     exact J3v (fun _=>[(0,some 0),(1,some 1),(2,some 2)]) _ _ ⟨by rw[e],rfl⟩ (J0c.kf rfl) (by repeat' (first|exact tI|(refine⟨⟨_,rfl,?_⟩,?_⟩)|exact J0c.kf rfl|apply And.intro)) rfl
   | false =>
     rw[hb] at h1
     repeat' ((conv=>whnf);first|(refine Br.ff ?_)|(refine Br.dec ?_ ?_<;>intro _<;>try omega)|(refine Ar.q ?_)|(refine Ix.q ?_)|(refine Chk.q ?_)|(refine J1n h1 rfl ⟨VLe.rfl,VLe.rfl,VLe.rfl,VLe.rfl,True.intro⟩ ?_))
     all_goals (conv=>whnf)
     refine⟨(gR g.ports v).length-(i+1),i+1,by omega,⟨rfl,by omega,fun l hl=>?_⟩,?_⟩
     . rw[J1D _ i hil] at hl;rcases List.mem_append.1 hl with h|h
       . exact hall l h
       . simp at h;rw[h];exact hb
     . exact J0l (fun _ _=>[(0,some 0),(1,some 1),(2,some 2),(3,some 3)])
 . repeat' ((conv=>whnf);first|(refine Br.dec ?_ ?_<;>intro _<;>try omega))
   all_goals (conv=>whnf)
   have e:upW g v=-1:=by rw[hup,J7j _ _ 0 i hi hall,List.drop_of_length_le (by omega)];rfl
   exact J3v (fun _=>[(0,some 0),(1,some 1),(2,some 2)]) _ _ ⟨by rw[e],rfl⟩ (J0c.kf rfl) (by repeat' (first|exact tI|(refine⟨⟨_,rfl,?_⟩,?_⟩)|exact J0c.kf rfl|apply And.intro)) rfl
set_option maxHeartbeats 4000000 in
theorem J70 (g:G) (hs:g.Small) (c:Cf) (hc:J7L c):Ret Tryz.prog 17 [g.v,cV c] (.bool (g.xleg c)):=by
 have h0:=J2L g hs c hc;have hcl:=hc.len;refine J0f rfl ?_;refine J0b mixed Tryz.func17 rfl hc17 hr17 rfl ?_;rw[G.xleg];cases hgc:g.conn&&g.xconf c with
 | false =>
   rw[hgc] at h0
   repeat' ((conv=>whnf);first|(refine Br.ff ?_)|(refine h0.go ?_))
   all_goals (conv=>whnf)
   exact VLe.rfl
 | true =>
   rw[hgc] at h0;rw[Bool.true_and];rw[Bool.and_eq_true] at hgc;obtain⟨h1,_⟩:=J0j hgc.1;obtain⟨f1,f2,f3,f4,f5,f6,f7⟩:=J0a h1;obtain⟨e1,e2⟩:=J6r hgc.2;have hv:=Q5I g hs hgc.1;have hvl:=J3X g
   repeat' ((conv=>whnf);first|(refine Br.tt ?_)|(refine h0.go ?_)|(refine hv.go ?_))
   all_goals (conv=>whnf)
   refine J0V mixed [1,2,5,15,16] (fun i:Nat=>[(17,.int .i64 i)]) (fun m i=>m=c.length-i/\i<=c.length/\∀v,v<i->gI (gC c v) 0=gI (J2D g) v/\gI (gC c v) 1=upW g v) c.length 0 ⟨rfl,Nat.zero_le _,fun v hv=>by omega⟩ ?_ ?_
   . exact J0l (fun _ _=>[(0,some 0),(1,some 1)])
   rintro m i ⟨hm,hi,hall⟩;by_cases hil:i<c.length
   . have hrow:=e2 i hil;have hno:∀a:Prop,(gI (gC c i) 0≠gI (J2D g) i\/gI (gC c i) 1≠upW g i)->VLe (V.bool false) (.bool (X5U g c)):=fun _ q=>VLe.bool (by
      cases e:X5U g c with
      | false=>rfl
      | true =>
        obtain⟨q1,q2⟩:=J8T.1 e i hil;rcases q with q|q
        . exact(q q1).elim
        . exact(q q2).elim)
     by_cases hz:i=0
     . have hup:upW g i=-1:=if_pos hz
       repeat' ((conv=>whnf);first|(refine Ix.mk 1 rfl (by omega) ?_)|(refine Br.dec ?_ ?_<;>intro _<;>try omega)|(refine Br.bne ?_ ?_<;>intro _<;>try omega)|(refine Ar.q ?_)|(refine Ix.q ?_)|(refine Ix.mk 0 rfl (by omega) ?_))
       all_goals (conv=>whnf)
       . rename_i h;exact hno True (.inl h)
       . rename_i h;exact hno True (.inr (by rw[hup];exact h))
       . rename_i q1 q2;refine⟨c.length-(i+1),i+1,by omega,⟨rfl,by omega,fun v hv=>?_⟩,?_⟩
         . by_cases e:v=i
           . subst e;exact⟨q1,by rw[hup];exact q2⟩
           . exact hall v (by omega)
         . exact J0l (fun _ _=>[(0,some 0),(1,some 1)])
     . have hfp:=X5M g hgc.1 i (by omega) hz
       repeat' ((conv=>whnf);first|(refine Ix.mk 1 rfl (by omega) ?_)|(refine Br.dec ?_ ?_<;>intro _<;>try omega)|(refine Br.bne ?_ ?_<;>intro _<;>try omega)|(refine Ar.q ?_)|(refine Ix.q ?_)|(refine Ix.mk 0 rfl (by omega) ?_)|(refine J2b [(0,some 2),(1,some 1),(2,some 0)] [] (hfp.mono ?_) ⟨J0c.kf rfl,J0c.int rfl,J0c.fn ⟨J0c.loc rfl,J0c.loc rfl,J0c.loc rfl,True.intro⟩,True.intro⟩ (by repeat' (first|exact tI|(refine⟨⟨_,rfl,?_⟩,?_⟩)|exact J0c.kf rfl|apply And.intro)) rfl;rintro _ _ _ ⟨rfl,rfl⟩)|(refine Chk.mk rfl ?_))
       all_goals (conv=>whnf)
       . rename_i h;exact hno True (.inl h)
       . rename_i h;exact hno True (.inr h)
       . rename_i q1 q2;refine⟨c.length-(i+1),i+1,by omega,⟨rfl,by omega,fun v hv=>?_⟩,?_⟩
         . by_cases e:v=i
           . subst e;exact⟨q1,q2⟩
           . exact hall v (by omega)
         . exact J0l (fun _ _=>[(0,some 0),(1,some 1)])
   . repeat' ((conv=>whnf);first|(refine Br.dec ?_ ?_<;>intro _<;>try omega))
     all_goals (conv=>whnf)
     exact VLe.bool (J8T.2 (fun v hv=>hall v (by omega))).symm
inductive JD (D:List (Nat×Nat)):Nat->Nat->Prop
 | refl (u:Nat):JD D u u
 | edge {u v:Nat} (h:(u,v)∈D):JD D u v
 | symm {u v:Nat} (h:JD D u v):JD D v u
 | trans {u v w:Nat} (h:JD D u v) (h':JD D v w):JD D u w
theorem JD.mono {D D':List (Nat×Nat)} (hs:∀p∈D,p∈D') {u v:Nat} (h:JD D u v):JD D' u v:=by
 induction h with
 | refl u=>exact .refl u
 | edge h=>exact .edge (hs _ h)
 | symm _ ih=>exact .symm ih
 | trans _ _ i1 i2=>exact .trans i1 i2
theorem JD.snoc {D:List (Nat×Nat)} {a b u v:Nat}:JD (D++[(a,b)]) u v↔JD D u v\/(JD D u a/\JD D b v)\/(JD D u b/\JD D a v):=by
 constructor
 . intro h
   induction h with
   | refl u=>exact .inl (.refl u)
   | edge h =>
     rcases List.mem_append.1 h with h|h
     . exact .inl (.edge h)
     . simp at h;obtain⟨rfl,rfl⟩:=h;exact .inr (.inl ⟨.refl _,.refl _⟩)
   | symm _ ih =>
     rcases ih with h | ⟨h1,h2⟩ | ⟨h1,h2⟩
     . exact .inl h.symm
     . exact .inr (.inr ⟨h2.symm,h1.symm⟩)
     . exact .inr (.inl ⟨h2.symm,h1.symm⟩)
   | trans _ _ i1 i2 =>
     rcases i1 with h | ⟨h1,h2⟩ | ⟨h1,h2⟩<;>rcases i2 with k | ⟨k1,k2⟩ | ⟨k1,k2⟩
     . exact .inl (h.trans k)
     . exact .inr (.inl ⟨h.trans k1,k2⟩)
     . exact .inr (.inr ⟨h.trans k1,k2⟩)
     . exact .inr (.inl ⟨h1,h2.trans k⟩)
     . exact .inr (.inl ⟨h1,k2⟩)
     . exact .inl (h1.trans k2)
     . exact .inr (.inr ⟨h1,h2.trans k⟩)
     . exact .inl (h1.trans k2)
     . exact .inr (.inr ⟨h1,k2⟩)
 . intro h;have hm:∀{x y:Nat},JD D x y->JD (D++[(a,b)]) x y:=fun h=>h.mono fun p hp=>List.mem_append.2 (.inl hp);have he:JD (D++[(a,b)]) a b:=.edge (List.mem_append.2 (.inr (by simp)));rcases h with h | ⟨h1,h2⟩ | ⟨h1,h2⟩
   . exact hm h
   . exact((hm h1).trans he).trans (hm h2)
   . exact((hm h1).trans he.symm).trans (hm h2)
def PtI (n:Nat) (D:List (Nat×Nat)) (p:Nat->Int):Prop:=∀u v,u<n->v<n->(p u=p v↔JD D u v)
theorem PtI.start (n:Nat):PtI n [] (fun v=>(v:Int)):=by
 intro u v _ _;constructor
 . intro e;have e:(u:Int)=(v:Int):=e;have:u=v:=by omega
   subst this;exact .refl u
 . intro h;have key:∀{x y:Nat},JD [] x y->x=y:=fun h=>by
    induction h with
    | refl u=>rfl
    | edge h=>simp at h
    | symm _ ih=>exact ih.symm
    | trans _ _ i1 i2=>exact i1.trans i2
   rw[key h]
def joP (p:Nat->Int) (a b:Nat):Nat->Int:=fun v=>if p v=max (p a) (p b) then min (p a) (p b) else p v
theorem PtI.join {n:Nat} {D:List (Nat×Nat)} {p:Nat->Int} (h:PtI n D p) {a b:Nat} (ha:a<n) (hb:b<n):PtI n (D++[(a,b)]) (joP p a b):=by
 intro u v hu hv;rw[JD.snoc,<- h u v hu hv,<- h u a hu ha,<- h b v hb hv,<- h u b hu hb,<- h a v ha hv,joP,joP];generalize p u=x;generalize p v=y;generalize p a=s;generalize p b=t;split<;>split<;>omega
inductive Jn (g:G) (w:Int) (a:Nat):Nat->Prop
 | refl:Jn g w a a
 | step {v:Nat} {l:Int×Int} (hv:v<g.ids.length) (hl:l∈gR g.ports v) (hw:l.2<w) (h:Jn g w a l.1.toNat):Jn g w a v
def ClJ (g:G) (w:Int) (x:Nat->Bool):Prop:=∀v,v<g.ids.length->∀l∈gR g.ports v,l.2<w->x l.1.toNat=true->x v=true
theorem Jn.in_ {g:G} {w:Int} {a:Nat} {x:Nat->Bool} (hc:ClJ g w x) (ha:x a=true) {v:Nat} (h:Jn g w a v):x v=true:=by
 induction h with
 | refl=>exact ha
 | step hv hl hw _ ih=>exact hc _ hv _ hl hw ih
structure J1S (g:G) (u v:Nat) (w:Int):Prop where
 lu:u<g.ids.length
 lv:v<g.ids.length
 mem:((v:Int),w)∈gR g.ports u
theorem J1S.symm {g:G} (hg:g.valid=true) {u v:Nat} {w:Int} (h:J1S g u v w):J1S g v u w:=by
 obtain⟨f1,f2,f3,f4,f5,f6,f7⟩:=J0a hg;have:=f7 u (by rw[f3];exact h.lu) _ h.mem;simp only[Int.toNat_natCast] at this;exact⟨h.lv,h.lu,this⟩
def LtD (g:G) (w:Int) (D:List (Nat×Nat)):Prop:=(∀u v,(u,v)∈D->∃k,J1S g u v k/\k<w)/\∀u v k,J1S g u v k->k<w->(u,v)∈D\/(v,u)∈D
theorem X6Q {g:G} (hg:g.valid=true) {w:Int} {D:List (Nat×Nat)} (hD:LtD g w D) {a v:Nat} (ha:a<g.ids.length):Jn g w a v↔(v<g.ids.length/\JD D a v):=by
 obtain⟨f1,f2,f3,f4,f5,f6,f7⟩:=J0a hg;constructor
 . intro h
   induction h with
   | refl=>exact⟨ha,.refl a⟩
   | step hv hl hw hu ih =>
     rename_i v l;have hok:=(J0n.1 (f6 v (by omega))).1 l hl;refine⟨hv,ih.2.trans ?_⟩;have he:J1S g v l.1.toNat l.2:=⟨hv,by omega,by rw[Int.toNat_of_nonneg (by omega)];exact hl⟩;rcases hD.2 _ _ _ he hw with q|q
     . exact(JD.edge q).symm
     . exact JD.edge q
 . rintro⟨hv,h⟩;have tr:∀{x y z:Nat},Jn g w x y->Jn g w y z->Jn g w x z:=fun h h'=>by
    induction h' with
    | refl=>exact h
    | step hv hl hw _ ih=>exact .step hv hl hw ih
   have one:∀{x y:Nat} {k:Int},J1S g x y k->k<w->Jn g w x y:=fun {x y k} he hk=>by
    have he':=he.symm hg;exact .step (l:=((x:Int),k)) he.lv he'.mem hk (by simp only[Int.toNat_natCast];exact .refl)
   have sy:∀{x y:Nat},x<g.ids.length->Jn g w x y->Jn g w y x/\y<g.ids.length:=fun {x y} hx h=>by
    induction h with
    | refl=>exact⟨.refl,hx⟩
    | step hv hl hw hu ih =>
      rename_i v l;have hok:=(J0n.1 (f6 v (by omega))).1 l hl;have he:J1S g v l.1.toNat l.2:=⟨hv,by omega,by rw[Int.toNat_of_nonneg (by omega)];exact hl⟩;exact⟨tr (one he hw) ih.1,hv⟩
   have key:∀{x y:Nat},JD D x y->(x<g.ids.length\/y<g.ids.length)->Jn g w x y/\x<g.ids.length/\y<g.ids.length:=by
    intro x y h
    induction h with
    | refl u=>intro q;exact⟨.refl,by omega,by omega⟩
    | edge h =>
      intro _;obtain⟨k,he,hk⟩:=hD.1 _ _ h;exact⟨one he hk,he.lu,he.lv⟩
    | symm _ ih =>
      intro q;obtain⟨i1,i2,i3⟩:=ih q.symm;exact⟨(sy i2 i1).1,i3,i2⟩
    | trans _ _ i1 i2 =>
      intro q;rcases q with q|q
      . obtain⟨a1,a2,a3⟩:=i1 (.inl q);obtain⟨b1,b2,b3⟩:=i2 (.inl a3);exact⟨tr a1 b1,a2,b3⟩
      . obtain⟨b1,b2,b3⟩:=i2 (.inr q);obtain⟨a1,a2,a3⟩:=i1 (.inr b2);exact⟨tr a1 b1,a2,b3⟩
   exact(key h (.inl ha)).1
structure Ed where
 a:Nat
 b:Nat
 w:Int
 deriving DecidableEq
instance:Inhabited Ed:=⟨⟨0,0,0⟩⟩
def Ed.lt (e f:Ed):Prop:=e.a<f.a\/(e.a=f.a/\e.b<f.b)
theorem J6I {α:Type} {r:α->α->Prop} (has:∀x y,r x y->¬ r y x):∀(l m:List α),l.Pairwise r->m.Pairwise r->(∀x,x∈l↔x∈m)->l=m
 | [],m,_,_,h=>by
   cases m with
   | nil=>rfl
   | cons y m=>exact absurd ((h y).2 (by simp)) (by simp)
 | x::l,[],_,_,h=>absurd ((h x).1 (by simp)) (by simp)
 | x::l,y::m,hl,hm,h=>by
   rw[List.pairwise_cons] at hl hm;have hxy:x=y:=by
    apply Classical.byContradiction;intro ne;have h1:x∈m:=by
     rcases List.mem_cons.1 ((h x).1 (by simp)) with q|q
     . exact(ne q).elim
     . exact q
    have h2:y∈l:=by
     rcases List.mem_cons.1 ((h y).2 (by simp)) with q|q
     . exact(ne q.symm).elim
     . exact q
    exact has _ _ (hl.1 y h2) (hm.1 x h1)
   subst hxy;have irr:∀z,z∈l->z≠x:=fun z hz e=>by subst e;exact has _ _ (hl.1 z hz) (hl.1 z hz)
   have irr2:∀z,z∈m->z≠x:=fun z hz e=>by subst e;exact has _ _ (hm.1 z hz) (hm.1 z hz)
   rw[J6I has l m hl.2 hm.2 fun z=>?_];constructor
   . intro hz;rcases List.mem_cons.1 ((h z).1 (List.mem_cons_of_mem _ hz)) with q|q
     . exact(irr z hz q).elim
     . exact q
   . intro hz;rcases List.mem_cons.1 ((h z).2 (List.mem_cons_of_mem _ hz)) with q|q
     . exact(irr2 z hz q).elim
     . exact q
theorem Q4N (e f:Ed) (h:e.lt f):¬ f.lt e:=by
 intro h';rcases h with h|h<;>rcases h' with h'|h'<;>omega
def edE (g:G) (a b:Nat):Option Ed:=if a<b/\0<=J9J 0 (gR g.ports a) b then some ⟨a,b,(gF (gR g.ports a) (J9J 0 (gR g.ports a) b).toNat).2⟩ else none
def J0q (g:G):List Ed:=(List.range g.ids.length).flatMap fun a=>(List.range g.ids.length).filterMap (edE g a)
theorem Q26 {b:Int}:∀{l:Q83} {k:Nat},(J9J k l b=-1/\∀a∈l,a.1≠b)\/∃i,i<l.length/\J9J k l b=((k+i:Nat):Int)/\(gF l i).1=b
 | [],_=>.inl ⟨rfl,by simp⟩
 | a::r,k=>by
   rw[J9J];by_cases e:a.1=b
   . rw[if_pos e];exact .inr ⟨0,by simp,rfl,e⟩
   . rw[if_neg e];rcases Q26 (b:=b) (l:=r) (k:=k+1) with ⟨h1,h2⟩ | ⟨i,h1,h2,h3⟩
     . refine .inl ⟨h1,fun x hx=>?_⟩;rcases List.mem_cons.1 hx with q|q
       . rw[q];exact e
       . exact h2 x q
     . exact .inr ⟨i+1,by simp;omega,by rw[h2];congr 1;omega,by simpa[gF] using h3⟩
theorem Q7E {r:Q83} (h:(r.map (·.1)).Nodup) {x y:Int×Int} (hx:x∈r) (hy:y∈r) (e:x.1=y.1):x=y:=by
 obtain⟨i,hi,rfl⟩:=List.getElem_of_mem hx;obtain⟨j,hj,rfl⟩:=List.getElem_of_mem hy;have hp:=List.pairwise_iff_getElem.1 h;rcases Nat.lt_trichotomy i j with q|q|q
 . exact(hp i j (by simpa using hi) (by simpa using hj) q (by simpa using e)).elim
 . subst q;rfl
 . exact(hp j i (by simpa using hj) (by simpa using hi) q (by simpa using e.symm)).elim
theorem Q7S {g:G} (hg:g.valid=true) {a b:Nat} (ha:a<g.ids.length) (hb:b<g.ids.length) {e:Ed}:edE g a b=some e↔(e.a=a/\e.b=b/\a<b/\J1S g a b e.w):=by
 obtain⟨f1,f2,f3,f4,f5,f6,f7⟩:=J0a hg;have hnd:=(J0n.1 (f6 a (by omega))).2;rw[edE];rcases Q26 (b:=(b:Int)) (l:=gR g.ports a) (k:=0) with ⟨h1,h2⟩ | ⟨i,h1,h2,h3⟩
 . rw[if_neg (by omega)];refine⟨fun h=>(by cases h),fun⟨_,_,_,h⟩=>(h2 _ h.mem rfl).elim⟩
 . rw[Nat.zero_add] at h2;rw[h2,Int.toNat_natCast];have hm:=J02 h1;by_cases q:a<b
   . rw[if_pos ⟨q,by omega⟩];constructor
     . intro h;cases h;refine⟨rfl,rfl,q,⟨ha,hb,?_⟩⟩;simp only;rw[<- h3];exact hm
     . rintro⟨e1,e2,_,h⟩;have:=Q7E hnd h.mem hm (by rw[h3]);obtain⟨ea,eb,ew⟩:=e;simp only at e1 e2 this;subst e1 e2;rw[<- this]
   . rw[if_neg (fun h=>q h.1)];exact⟨fun h=>(by cases h),fun h=>(q h.2.2.1).elim⟩
theorem J1m {g:G} (hg:g.valid=true) {e:Ed}:e∈J0q g↔(e.a<e.b/\J1S g e.a e.b e.w):=by
 simp only[J0q,List.mem_flatMap,List.mem_range,List.mem_filterMap];constructor
 . rintro⟨a,ha,b,hb,h⟩;obtain⟨rfl,rfl,h1,h2⟩:=(Q7S hg ha hb).1 h;exact⟨h1,h2⟩
 . rintro⟨h1,h2⟩;exact⟨e.a,h2.lu,e.b,h2.lv,(Q7S hg h2.lu h2.lv).2 ⟨rfl,rfl,h1,h2⟩⟩
theorem J2V (g:G):(J0q g).Pairwise Ed.lt:=by
 have hr:∀n:Nat,(List.range n).Pairwise (·<·):=fun n=>List.pairwise_lt_range;have ea:∀{a b:Nat} {e:Ed},edE g a b=some e->e.a=a/\e.b=b:=fun {a b e} h=>by
  rw[edE] at h;split at h
  . cases h;exact⟨rfl,rfl⟩
  . cases h
 rw[J0q,List.pairwise_flatMap];refine⟨fun a _=>?_,(hr _).imp fun {a a'} haa x hx y hy=>?_⟩
 . rw[List.pairwise_filterMap];refine(hr _).imp fun {b b'} hbb x hx y hy=>?_;obtain⟨x1,x2⟩:=ea hx;obtain⟨y1,y2⟩:=ea hy;exact .inr ⟨by omega,by omega⟩
 . obtain⟨b,_,hx⟩:=List.mem_filterMap.1 hx;obtain⟨b',_,hy⟩:=List.mem_filterMap.1 hy;obtain⟨x1,x2⟩:=ea hx;obtain⟨y1,y2⟩:=ea hy;exact .inl (by omega)
def J7M (v:Nat) (l:Int×Int):Option Ed:=if (v:Int)<l.1 then some ⟨v,l.1.toNat,l.2⟩ else none
def J5L (g:G):List Ed:=(List.range g.ids.length).flatMap fun v=>(gR g.ports v).filterMap (J7M v)
theorem J82 {g:G} (hg:g.valid=true) {e:Ed}:e∈J5L g↔(e.a<e.b/\J1S g e.a e.b e.w):=by
 obtain⟨f1,f2,f3,f4,f5,f6,f7⟩:=J0a hg;simp only[J5L,List.mem_flatMap,List.mem_range,List.mem_filterMap,J7M];constructor
 . rintro⟨v,hv,l,hl,h⟩;have hok:=(J0n.1 (f6 v (by omega))).1 l hl;split at h
   . rename_i q;cases h;refine⟨by show v<l.1.toNat;omega,⟨hv,by show l.1.toNat<_;omega,?_⟩⟩;show(((l.1.toNat:Nat):Int),l.2)∈_;rw[Int.toNat_of_nonneg (by omega)];exact hl
   . cases h
 . rintro⟨h1,h2⟩;refine⟨e.a,h2.lu,_,h2.mem,?_⟩;rw[if_pos (by simp only;omega)];simp
theorem J6S {g:G} (hg:g.valid=true):(J5L g).Nodup:=by
 obtain⟨f1,f2,f3,f4,f5,f6,f7⟩:=J0a hg;rw[J5L,List.nodup_iff_pairwise_ne,List.pairwise_flatMap];have ra:∀{v:Nat} {l:Int×Int} {e:Ed},J7M v l=some e->e.a=v/\e.b=l.1.toNat/\(v:Int)<l.1:=fun {v l e} h=>by
  rw[J7M] at h;split at h
  . rename_i q;cases h;exact⟨rfl,rfl,q⟩
  . cases h
 refine⟨fun v hv=>?_,List.pairwise_lt_range.imp fun {a a'} haa x hx y hy e=>?_⟩
 . rw[List.pairwise_filterMap];have hnd:=(J0n.1 (f6 v (by have:=List.mem_range.1 hv;omega))).2;rw[List.nodup_iff_pairwise_ne,List.pairwise_map] at hnd;refine hnd.imp fun {l l'} hne x hx y hy e=>?_;obtain⟨x1,x2,x3⟩:=ra hx;obtain⟨y1,y2,y3⟩:=ra hy;apply hne;rw[e] at x2;omega
 . obtain⟨l,_,hx⟩:=List.mem_filterMap.1 hx;obtain⟨l',_,hy⟩:=List.mem_filterMap.1 hy;have:=(ra hx).1;have:=(ra hy).1;rw[e] at *;omega
theorem J94 {g:G} (hg:g.valid=true) {L:List Ed} (hp:L.Perm (J5L g)) (hs:L.Pairwise fun e f=>¬ f.lt e):L=J0q g:=by
 obtain⟨f1,f2,f3,f4,f5,f6,f7⟩:=J0a hg;have hmem:∀e,e∈L↔(e.a<e.b/\J1S g e.a e.b e.w):=fun e=>by rw[hp.mem_iff,J82 hg]
 have hnd:L.Nodup:=hp.nodup_iff.2 (J6S hg);have hst:L.Pairwise Ed.lt:=by
  rw[List.nodup_iff_pairwise_ne] at hnd;have hboth:=hs.and hnd;refine List.Pairwise.imp_of_mem (fun {e f} he hf h=>?_) hboth;obtain⟨h1,h2⟩:=h;apply Classical.byContradiction;intro q;apply h2;have hab:e.a=f.a/\e.b=f.b:=by simp only[Ed.lt] at h1 q;omega
  have me:=((hmem e).1 he).2;have mf:=((hmem f).1 hf).2;have hndr:=(J0n.1 (f6 e.a (by have:=me.lu;omega))).2;rw[<- hab.1,<- hab.2] at mf;have:=Q7E hndr me.mem mf.mem rfl;obtain⟨ea,eb,ew⟩:=e;obtain⟨fa,fb,fw⟩:=f;simp only at hab this;obtain⟨rfl,rfl⟩:=hab;rw[(Prod.mk.inj this).2]
 exact J6I Q4N _ _ hst (J2V g) fun e=>by rw[hmem,J1m hg]
open Classical in
noncomputable def chE (g:G) (e:Ed):Bool:=decide (¬ Jn g e.w e.a e.b)
noncomputable def J8a (g:G) (a b:Nat):Option (Nat×Nat):=match edE g a b with
 | some e=>if chE g e=true then some (a,b) else none
 | none=>none
noncomputable def J1Q (g:G):List (Nat×Nat):=(List.range g.ids.length).flatMap fun a=>(List.range g.ids.length).filterMap (J8a g a)
theorem J3Z (g:G):((J0q g).filter (chE g)).map (fun e=>(e.a,e.b))=J1Q g:=by
 rw[J0q,J1Q,List.filter_flatMap,List.map_flatMap];congr 1;funext a;rw[List.filter_filterMap,List.map_filterMap];congr 1;funext b;rw[J8a];cases h:edE g a b with
 | none=>rfl
 | some e =>
   have:e.a=a/\e.b=b:=by
    rw[edE] at h;split at h
    . cases h;exact⟨rfl,rfl⟩
    . cases h
   simp only[Option.filter,Option.map];by_cases q:chE g e=true
   . rw[if_pos q,if_pos q];simp[this.1,this.2]
   . rw[if_neg q,if_neg q]
def prs (l:List Ed):List (Nat×Nat):=l.map fun e=>(e.a,e.b)
theorem Q4O {g:G} (hg:g.valid=true) {B:List Ed} (hp:B.Perm (J0q g)) (hs:B.Pairwise fun e f=>e.w<=f.w) {i:Nat} {w:Int} (hlt:∀j,j<i->∀e,B[j]?=some e->e.w<w) (hge:∀j,i<=j->∀e,B[j]?=some e->w<=e.w) :
 LtD g w (prs (B.take i)):=by
 constructor
 . intro u v h;obtain⟨e,he,q⟩:=List.mem_map.1 h;simp only[Prod.mk.injEq] at q;obtain⟨rfl,rfl⟩:=q;obtain⟨j,hj,ej⟩:=List.getElem_of_mem he;rw[List.getElem_take] at ej;have hm:=((J1m hg).1 (hp.mem_iff.1 (List.mem_of_mem_take he))).2;exact⟨e.w,hm,hlt j (by simp at hj;omega) e (by rw[List.getElem?_eq_getElem (by simp at hj;omega),ej])⟩
 . intro u v k h hk;have key:∀{u v:Nat},J1S g u v k->u<v->(u,v)∈prs (B.take i):=fun {u v} h huv=>by
    have hm:(⟨u,v,k⟩:Ed)∈B:=hp.mem_iff.2 ((J1m hg).2 ⟨huv,h⟩);obtain⟨j,hj,ej⟩:=List.getElem_of_mem hm;have hji:j<i:=by
     apply Nat.lt_of_not_le;intro q;have:=hge j q ⟨u,v,k⟩ (by rw[List.getElem?_eq_getElem hj,ej]);simp only at this;omega
    refine List.mem_map.2 ⟨⟨u,v,k⟩,?_,rfl⟩;rw[<- ej];exact List.mem_iff_getElem.2 ⟨j,by simp;omega,by rw[List.getElem_take]⟩
   rcases Nat.lt_trichotomy u v with q|q|q
   . exact .inl (key h q)
   . exfalso;subst q;obtain⟨f1,f2,f3,f4,f5,f6,f7⟩:=J0a hg;have:=(J0n.1 (f6 u (by have:=h.lu;omega))).1 _ h.mem;simp only at this;omega
   . exact .inr (key (h.symm hg) q)
abbrev gE (L:List Ed) (i:Nat):Ed:=L.getD i default
def eF (L:List Ed):Nat->Nat->V:=fun i j=>match j with
 | 0=>.int .i64 (gE L i).a
 | 1=>.int .i64 (gE L i).b
 | _=>.int .i64 (gE L i).w
structure Wo (lt:Ed->Ed->Prop):Prop where
 asy:∀x y,lt x y->¬ lt y x
 nt:∀x y z,¬ lt y x->¬ lt z y->¬ lt z x
def swE (L:List Ed) (i j:Nat):List Ed:=(L.set i (gE L j)).set j (gE L i)
theorem Q5W (L:List Ed) (i j:Nat):(swE L i j).length=L.length:=by simp[swE]
theorem Q1D {L:List Ed} {i j:Nat} (hi:i<L.length) (hj:j<L.length) (k:Nat):gE (swE L i j) k=if k=j then gE L i else if k=i then gE L j else gE L k:=by
 simp only[gE,swE,List.getD,List.getElem?_set,List.length_set];by_cases e:k=j
 . subst e;simp[hj]
 . rw[if_neg (fun q=>e q.symm),if_neg e];by_cases e2:k=i
   . subst e2;simp[hi]
   . rw[if_neg (fun q=>e2 q.symm),if_neg e2]
theorem X63 {l m:List Ed} (hl:l.length=m.length) (h:∀k,k<l.length->gE l k=gE m k):l=m :=
 List.ext_getElem hl fun k h1 h2=>by have:=h k h1;simpa[gE,List.getD,h1,h2] using this
theorem Q9D {L:List Ed} {i:Nat} (hi:i+1<L.length):(swE L (i+1) i).Perm L:=by
 have e:L=L.take i++(gE L i::gE L (i+1)::L.drop (i+2)):=by
  have h1:L.drop i=gE L i::L.drop (i+1):=by rw[List.drop_eq_getElem_cons (by omega)];simp[gE,List.getD,show i<L.length by omega]
  have h2:L.drop (i+1)=gE L (i+1)::L.drop (i+2):=by rw[List.drop_eq_getElem_cons (by omega)];simp[gE,List.getD,hi]
  rw[<- h2,<- h1,List.take_append_drop]
 have e2:swE L (i+1) i=L.take i++(gE L (i+1)::gE L i::L.drop (i+2)):=by
  refine X63 (by rw[Q5W];simp;omega) fun k hk=>?_;rw[Q5W] at hk;rw[Q1D hi (by omega)];have ht:(L.take i).length=i:=by simp;omega
  simp only[gE,List.getD];rcases Nat.lt_trichotomy k i with q|q|q
  . rw[if_neg (by omega),if_neg (by omega),List.getElem?_append_left (by omega),List.getElem?_take,if_pos q]
  . subst q;rw[if_pos rfl,List.getElem?_append_right (by omega),ht];simp
  . rw[if_neg (by omega),List.getElem?_append_right (by omega),ht];by_cases q2:k=i+1
    . subst q2;rw[if_pos rfl,show i+1-i=1 by omega];simp
    . rw[if_neg q2];obtain⟨d,rfl⟩:∃d,k=i+2+d:=⟨k-(i+2),by omega⟩;rw[show i+2+d-i=d+2 by omega];simp
 rw[e2]
 conv=>rhs;rw[e]
 exact(List.Perm.swap _ _ _).append_left _
def SoI (lt:Ed->Ed->Prop) (L:List Ed) (i:Nat):Prop:=∀p q,p<q->q<i->¬ lt (gE L q) (gE L p)
structure SoJ (lt:Ed->Ed->Prop) (L:List Ed) (i j:Nat):Prop where
 le:j<=i
 but:∀p q,p<q->q<=i->p≠j->q≠j->¬ lt (gE L q) (gE L p)
 behind:∀q,j<q->q<=i->¬ lt (gE L q) (gE L j)
theorem SoJ.start {lt:Ed->Ed->Prop} {L:List Ed} {i:Nat} (h:SoI lt L i):SoJ lt L i i :=
 ⟨Nat.le_refl _,fun p q h1 h2 h3 h4=>h p q h1 (by omega),fun q h1 h2=>by omega⟩
theorem SoJ.done {lt:Ed->Ed->Prop} (hw:Wo lt) {L:List Ed} {i j:Nat} (h:SoJ lt L i j) (hj:j=0\/¬ lt (gE L j) (gE L (j-1))):SoI lt L (i+1):=by
 intro p q h1 h2;by_cases e:q=j
 . subst e;rcases hj with hj|hj
   . omega
   . by_cases e2:p=q-1
     . rw[e2];exact hj
     . exact hw.nt _ _ _ (h.but p (q-1) (by omega) (by omega) (by omega) (by omega)) hj
 . by_cases e2:p=j
   . subst e2;exact h.behind q h1 (by omega)
   . exact h.but p q h1 (by omega) e2 e
theorem SoJ.step {lt:Ed->Ed->Prop} (hw:Wo lt) {L:List Ed} {i j:Nat} (h:SoJ lt L i (j+1)) (hi:i<L.length) (hlt:lt (gE L (j+1)) (gE L j)):SoJ lt (swE L (j+1) j) i j:=by
 have hle:=h.le;have hg:=fun k=>Q1D (L:=L) (i:=j+1) (j:=j) (by omega) (by omega) k;refine⟨by omega,fun p q h1 h2 h3 h4=>?_,fun q h1 h2=>?_⟩
 . rw[hg,hg,if_neg h4,if_neg h3];by_cases e:q=j+1
   . rw[if_pos e,if_neg (by omega)];exact h.but p j (by omega) (by omega) (by omega) (by omega)
   . rw[if_neg e];by_cases e2:p=j+1
     . rw[if_pos e2];exact h.but j q (by omega) h2 (by omega) e
     . rw[if_neg e2];exact h.but p q h1 h2 e2 e
 . rw[hg,hg,if_neg (by omega),if_pos rfl];by_cases e:q=j+1
   . rw[if_pos e];exact hw.asy _ _ hlt
   . rw[if_neg e];exact h.behind q (by omega) h2
theorem SoI.pairwise {lt:Ed->Ed->Prop} {L:List Ed} (h:SoI lt L L.length):L.Pairwise fun e f=>¬ lt f e:=by
 rw[List.pairwise_iff_getElem];intro i j h1 h2 h3;have:=h i j h3 h2;simpa[gE,List.getD,h1,h2] using this
theorem SoI.one {lt:Ed->Ed->Prop} {L:List Ed} {i:Nat} (h:i<=1):SoI lt L i:=fun p q h1 h2=>by omega
def ltW (e f:Ed):Prop:=e.w<f.w
theorem X76:Wo Ed.lt:=⟨fun x y h h'=>Q4N x y h h',fun x y z h1 h2 h3=>by simp only[Ed.lt] at h1 h2 h3;omega⟩
theorem wo_w:Wo ltW:=⟨fun x y h h'=>by simp only[ltW] at h h';omega,fun x y z h1 h2 h3=>by simp only[ltW] at h1 h2 h3;omega⟩
instance (l:List IntKind):DecidableEq (KyS l):=KyS.dec l
abbrev KE:List IntKind:=[.i64,.i64,.i64]
def X2j (e:Ed):KyT (.st KE):=((e.a:Int),(e.b:Int),e.w,())
theorem Q3t {e f:Ed} (h:X2j e=X2j f):e=f:=by
 obtain⟨a,b,w⟩:=e;obtain⟨a',b',w'⟩:=f;obtain⟨h1,h⟩:=Prod.mk.inj h;obtain⟨h2,h⟩:=Prod.mk.inj h;obtain⟨h3,_⟩:=Prod.mk.inj h;simp only at h1 h2 h3;obtain rfl:a=a':=by omega
 obtain rfl:b=b':=by omega
 rw[h3]
theorem Q3f {α:Type} [DecidableEq α]:∀{l:List (α×V)} {k:α} {v:V},(∀p∈l,p.1≠k)->mput l k v=l++[(k,v)]
 | [],_,_,_=>rfl
 | (q,u)::r,k,v,h=>by
   rw[mput,if_neg (h (q,u) (by simp)),Q3f (fun p hp=>h p (by simp[hp]))];rfl
theorem Q0v {α:Type} [DecidableEq α] {β:Type} {f:β->α} {v:β->V} (hf:∀x y,f x=f y->x=y):∀{l:List β} {x:β},x∈l->J14 (l.map fun x=>(f x,v x)) (f x)=some (v x)
 | [],_,h=>by simp at h
 | y::r,x,h=>by
   rw[List.map_cons,J14];by_cases e:f y=f x
   . rw[if_pos e,hf _ _ e]
   . rw[if_neg e];rcases List.mem_cons.1 h with q|q
     . subst q;exact(e rfl).elim
     . exact Q0v hf q
noncomputable def enM (g:G) (l:List Ed):List (KyT (.st KE)×V):=l.map fun e=>(X2j e,.bool (chE g e))
theorem J3x {L:List Ed} {i:Nat} (h:i<L.length):L[i]=gE L i:=by simp[gE,List.getD,h]
theorem J6E {L:List Ed} {i:Nat} (h:i<L.length):L.take (i+1)=L.take i++[gE L i]:=by
 rw[List.take_succ_eq_append_getElem h,J3x h]
theorem X4O (g:G) {B:List Ed} (hn:B.Nodup) {i:Nat} (hi:i<B.length) {v:V} (hv:v=.bool (chE g (gE B i))):mput (enM g (B.take i)) (X2j (gE B i)) v=enM g (B.take (i+1)):=by
 rw[Q3f,J6E hi,enM,enM,List.map_append,hv]
 . rfl
 . intro p hp q;obtain⟨e,he,rfl⟩:=List.mem_map.1 hp;have:=Q3t q;subst this;obtain⟨j,hj,ej⟩:=List.getElem_of_mem he;simp at hj;rw[List.getElem_take,J3x (by omega)] at ej;have hp:=List.pairwise_iff_getElem.1 (List.nodup_iff_pairwise_ne.1 hn) j i (by omega) hi (by omega);rw[J3x,J3x] at hp;exact hp ej
theorem X05 (g:G) {B:List Ed} {e:Ed} (he:e∈B):J14 (enM g B) (X2j e)=some (.bool (chE g e)):=Q0v (fun _ _ h=>Q3t h) he
theorem X2w:∃f:G->List Ed->List (KyT (.st KE)×V),∀g l,f g l=enM g l:=⟨enM,fun _ _=>rfl⟩
noncomputable def enX:G->List Ed->List (KyT (.st KE)×V):=Classical.choose X2w
theorem Q3L (g:G) (l:List Ed):enX g l=enM g l:=Classical.choose_spec X2w g l
theorem X4N (g:G) (B:List Ed):enX g (B.take 0)=[]:=by rw[Q3L];rfl
theorem X4M (g:G) {B:List Ed} (hn:B.Nodup) {i:Nat} (hi:i<B.length) {v:V} (hv:v=.bool (chE g (gE B i))):mput (enX g (B.take i)) (X2j (gE B i)) v=enX g (B.take (i+1)):=by
 rw[Q3L,Q3L];exact X4O g hn hi hv
theorem X04 (g:G) {B:List Ed} {e:Ed} (he:e∈B):J14 (enX g B) (X2j e)=some (.bool (chE g e)):=by
 rw[Q3L];exact X05 g he
structure ByW (g:G) (B:List Ed):Prop where
 perm:B.Perm (J0q g)
 so:SoI ltW B B.length
theorem ByW.le {g:G} {B:List Ed} (h:ByW g B) {i j:Nat} (hij:i<=j) (hj:j<B.length):(gE B i).w<=(gE B j).w:=by
 by_cases e:i=j
 . subst e;exact Int.le_refl _
 . have:=h.so i j (by omega) hj;simp only[ltW] at this;omega
theorem ByW.nodup {g:G} (hg:g.valid=true) {B:List Ed} (h:ByW g B):B.Nodup:=by
 rw[h.perm.nodup_iff,List.nodup_iff_pairwise_ne];exact(J2V g).imp fun {e f} hl q=>by subst q;exact Q4N _ _ hl hl
theorem ByW.edge {g:G} (hg:g.valid=true) {B:List Ed} (h:ByW g B) {i:Nat} (hi:i<B.length):(gE B i).a<(gE B i).b/\J1S g (gE B i).a (gE B i).b (gE B i).w:=by
 rw[<- J1m hg,<- h.perm.mem_iff,<- J3x hi];exact List.getElem_mem hi
structure Cls (g:G) (B:List Ed) (i:Nat) (p:Nat->Int):Prop where
 le:i<=B.length
 pt:PtI g.ids.length (prs (B.take i)) p
 bd:∀j,j<i->i<B.length->(gE B j).w<(gE B i).w
theorem Cls.start {g:G} (B:List Ed):Cls g B 0 (fun v=>(v:Int)):=⟨Nat.zero_le _,by simpa[prs] using PtI.start g.ids.length,fun j hj=>by omega⟩
theorem Cls.ch {g:G} (hg:g.valid=true) {B:List Ed} (hB:ByW g B) {i:Nat} {p:Nat->Int} (h:Cls g B i p) {k:Nat} (hik:i<=k) (hk:k<B.length) (hw:(gE B k).w=(gE B i).w) :
 (!decide (p (gE B k).a=p (gE B k).b))=chE g (gE B k):=by
 have he:=(hB.edge hg hk).2;have hD:LtD g (gE B k).w (prs (B.take i)):=by
  refine Q4O hg hB.perm ?_ (fun j hj e ee=>?_) (fun j hj e ee=>?_)
  . refine hB.so.pairwise.imp fun {e f} q=>?_;simp only[ltW] at q;omega
  . have hjl:j<B.length:=by have:=h.le;omega
    rw[List.getElem?_eq_getElem hjl,J3x hjl] at ee;cases ee;rw[hw];exact h.bd j hj (by omega)
  . have hjl:j<B.length:=(List.getElem?_eq_some_iff.1 ee).1;rw[List.getElem?_eq_getElem hjl,J3x hjl] at ee;cases ee;rw[hw];exact hB.le hj hjl
 have hj:=X6Q hg hD (v:=(gE B k).b) he.lu;have hp:=h.pt _ _ he.lu he.lv;rw[chE,<- decide_not,decide_eq_decide,hj,hp];exact⟨fun q r=>q r.2,fun q r=>q ⟨he.lv,r⟩⟩
structure Jng (g:G) (B:List Ed) (i k m:Nat) (p:Nat->Int):Prop where
 le:i<=m/\m<=k/\k<=B.length
 pt:PtI g.ids.length (prs (B.take m)) p
theorem Jng.step {g:G} (hg:g.valid=true) {B:List Ed} (hB:ByW g B) {i k m:Nat} {p:Nat->Int} (h:Jng g B i k m p) (hm:m<k):Jng g B i k (m+1) (joP p (gE B m).a (gE B m).b):=by
 have hl:=h.le;have he:=(hB.edge hg (i:=m) (by omega)).2;refine⟨⟨by omega,by omega,hl.2.2⟩,?_⟩;rw[J6E (by omega),prs,List.map_append];exact h.pt.join he.lu he.lv
theorem Jng.next {g:G} {B:List Ed} (hB:ByW g B) {i k:Nat} {p:Nat->Int} (h:Jng g B i k k p) (hik:i<k) (hw:∀j,i<=j->j<k->(gE B j).w=(gE B i).w) (hn:k<B.length->(gE B k).w≠(gE B i).w):Cls g B k p:=by
 have hl:=h.le;refine⟨hl.2.2,h.pt,fun j hj hk=>?_⟩;have h1:=hB.le (i:=i) (j:=k) (by omega) hk;have h2:=hn hk;have h3:(gE B j).w<=(gE B i).w:=by
  by_cases e:i<=j
  . rw[hw j e hj];exact Int.le_refl _
  . exact hB.le (by omega) (by omega)
 omega
def cpI (a b:Int):Int:=if a<b then -1 else if a > b then 1 else 0
def edC (e:Ed):List V:=[.int .i64 e.a,.int .i64 e.b,.int .i64 e.w]
def edV (e:Ed):V:=.agg (edC e)
theorem Q3v (a:Int):Ret Tryz.prog 50 [.int .i64 a] (.bool false):=by
 refine J0f rfl ?_;refine J0b mixed Tryz.func50 rfl hc50 hr50 rfl ?_
 repeat' ((conv=>whnf);first|(refine Br.bne ?_ ?_<;>intro _<;>try omega))
 all_goals (conv=>whnf)
 all_goals first
  | exact VLe.rfl
  | (exfalso;rename_i h;exact h rfl)
theorem J5z (a b:Int):Ret Tryz.prog 23 [.int .i64 a,.int .i64 b] (.int .i64 (cpI a b)):=by
 have h1:=Q3v a;have h2:=Q3v b;refine J0f rfl ?_;refine J0b mixed Tryz.func23 rfl hc23 hr23 rfl ?_
 repeat' ((conv=>whnf);first|(refine Br.ff ?_)|(refine Br.dec ?_ ?_<;>intro _<;>try omega)|(refine h1.go ?_)|(refine h2.go ?_))
 all_goals (conv=>whnf)
 all_goals exact VLe.int (by rw[cpI];repeat' split;all_goals first|rfl|omega)
theorem X9P (a b:Int):Ret Tryz.prog 48 [.fz 2 1 false (vI [a,b])] (.int .i64 (if a=0 then b else a)):=by
 refine J0f rfl ?_;refine J0b mixed Tryz.func48 rfl hc48 hr48 rfl ?_;have e0:vI [a,b] 0 0=.int .i64 a:=rfl;have e1:vI [a,b] 1 0=.int .i64 b:=rfl
 repeat' ((conv=>whnf);first|fail)
 all_goals (conv=>whnf)
 refine J00 mixed 3 ?_
 repeat' ((conv=>whnf);first|(refine Br.tt ?_)|(refine Br.ff ?_)|(refine Br.bne ?_ ?_<;>intro _<;>try omega)|(refine Ar.q ?_)|(refine Ix.mk 0 rfl (by omega) ?_)|(refine Ix.mk 1 rfl (by omega) ?_))
 all_goals (conv=>whnf)
 all_goals first
  | (rename_i h;have h:a≠0:=h;rw[if_neg h];exact VLe.rfl)
  | (rename_i h _;have h:a=0:=h;rw[if_pos h];exact VLe.rfl)
  | (rename_i h h2;have h:a=0:=h;have h2:b=0:=h2;rw[if_pos h,h2];exact VLe.rfl)
def cfE (x y:Ed):Int:=if cpI x.a y.a=0 then cpI x.b y.b else cpI x.a y.a
theorem Q07 (x y:Ed):cfE x y<0↔x.lt y:=by
 simp only[cfE,cpI,Ed.lt]
 repeat' split
 all_goals omega
theorem X2A (x y:Ed):cpI x.w y.w<0↔ltW x y:=by
 simp only[cpI,ltW]
 repeat' split
 all_goals omega
theorem Q2N (x y:Ed):Ret Tryz.prog 22 [edV x,edV y] (.int .i64 (cpI x.w y.w)):=by
 have h:=J5z x.w y.w;refine J0f rfl ?_;refine J0b mixed Tryz.func22 rfl hc22 hr22 rfl ?_
 repeat' ((conv=>whnf);first|(refine h.go ?_))
 all_goals (conv=>whnf)
 exact VLe.rfl
theorem Q0X (x y:Ed):Ret Tryz.prog 47 [edV x,edV y] (.int .i64 (cfE x y)):=by
 have h1:=J5z x.a y.a;have h2:=J5z x.b y.b;have h3:=X9P (cpI x.a y.a) (cpI x.b y.b);refine J0f rfl ?_;refine J0b mixed Tryz.func47 rfl hc47 hr47 rfl ?_
 repeat' ((conv=>whnf);first|(refine h1.go ?_)|(refine h2.go ?_)|(refine And.intro rfl ?_)|(refine J1n h3 rfl ⟨by decide,VLe.fz rfl (fun h=>h) (Q5O _ _ _ rfl rfl),True.intro⟩ ?_))
 all_goals (conv=>whnf)
 exact VLe.rfl
theorem J4F (e:Ed) (j:Nat) (hj:j<3) (L:List Ed) (i:Nat) (he:gE L i=e):eF L i j=(edC e).getD j default:=by
 subst he;rcases (show j=0\/j=1\/j=2 by omega) with rfl|rfl|rfl<;>rfl
theorem X3r (L:List Ed) (q:Nat) (hq:q+1<L.length) (i t:Nat) (ht:t<3):VLe (J1R (J1R (eF L) (q+1) 0 (edC (gE L q))) q 0 (edC (gE L (q+1))) i t) (eF (swE L (q+1) q) i t):=by
 apply VLe.of_eq;have hg:=Q1D (L:=L) (i:=q+1) (j:=q) hq (by omega) i;have hl:∀e:Ed,(edC e).length=3:=fun e=>rfl;simp only[J1R,hl,Nat.sub_zero,Nat.zero_le,true_and,Nat.zero_add];by_cases e1:i=q
 . rw[if_pos e1] at hg;rw[if_pos ⟨e1,ht⟩,J4F _ t ht _ i hg]
 . rw[if_neg e1] at hg;rw[if_neg (fun h=>e1 h.1)];by_cases e2:i=q+1
   . rw[if_pos e2] at hg;rw[if_pos ⟨e2,ht⟩,J4F _ t ht _ i hg]
   . rw[if_neg e2] at hg;rw[if_neg (fun h=>e2 h.1),J4F _ t ht _ i hg,J4F _ t ht _ i rfl]
set_option maxHeartbeats 8000000 in
theorem X2n (cl:FuncId) (hcl:J0P Tryz.prog cl=true) (cf:Ed->Ed->Int) (hcf:∀x y,Ret Tryz.prog cl [edV x,edV y] (.int .i64 (cf x y))) (lt:Ed->Ed->Prop) (hw:Wo lt) (hlt:∀x y,cf x y<0↔lt x y) (L0:List Ed) (hL:L0.length<=1000) :
 J0K Tryz.prog 66 [.vec 0 3 0 L0.length,.int .i64 0,.int .i64 L0.length,.fn (.func cl) false []] [(0,.vec L0.length 3 (eF L0))] [1,2,3,4,5,6,7,8,9,10,11,12,13,14,15,16,17,18,19,20,21,22,23,24,25,26,27,28,29]
  fun v own' _=>∃L:List Ed,(L.Perm L0/\SoI lt L L.length)/\v=.tup []/\own'=[(0,.vec L0.length 3 (eF L))]:=by
 refine J0b mixed Tryz.func66 rfl hc66 hr66 rfl ?_
 repeat' ((conv=>whnf);first|(refine Ar.q ?_))
 all_goals (conv=>whnf)
 refine J0N mixed [0,1,2,3] [] [1,2,3,4,5,6,7,8,9,10,11,12,13,14,15,16,17,18,19,20,21,22,23,24,25,26,27,28,29] [0] (fun p:Nat×List Ed=>[(8,.int .i64 ((p.1:Int)+1))]) (fun own p=>J2i own 0 (.vec L0.length 3 (eF p.2))) (fun m p=>m=L0.length-p.1/\(p.1=0\/p.1+1<=L0.length)/\p.2.Perm L0/\SoI lt p.2 (p.1+1)) L0.length (0,L0) ⟨rfl,.inl rfl,.refl _,SoI.one (by omega)⟩ rfl (fun _=>rfl) ?_ ?_
 . exact J0l (fun _ _=>[(0,some 0)])
 rintro m ⟨k,L1⟩ ⟨hm,hk,hp1,hs1⟩;simp only at hm hk hp1 hs1;have hl1:=hp1.length_eq;by_cases hkn:k+1<L0.length
 . dsimp only
   repeat' ((conv=>whnf);first|(refine Br.dec ?_ ?_<;>intro _<;>try omega))
   all_goals (conv=>whnf)
   refine J0N mixed [0,1,2,3,8] [] [1,2,3,4,5,6,7,8,9,10,11,12,13,14,15,16,17,18,19,20,21,22,23,24,25,26,27,28,29] [0] (fun p:Nat×List Ed=>[(9,.int .i64 p.1)]) (fun own p=>J2i own 0 (.vec L0.length 3 (eF p.2))) (fun m p=>m=p.1/\SoJ lt p.2 (k+1) p.1/\p.2.Perm L0) (k+1) (k+1,L1) ⟨rfl,SoJ.start hs1,hp1⟩ rfl (fun _=>rfl) ?_ ?_
   . exact J0l (fun _ _=>[(0,some 0)])
   rintro m ⟨j,L⟩ ⟨hm2,hj,hp⟩;simp only at hm2 hj hp;have hl:=hp.length_eq;have hle:=hj.le;subst hm2;rcases m with _|q
   . dsimp only
     repeat' ((conv=>whnf);first|(refine Br.ff ?_)|(refine Ar.q ?_))
     all_goals (conv=>whnf)
     refine⟨L0.length-(k+1),(k+1,L),by omega,⟨rfl,.inr (by omega),hp,hj.done hw (.inl rfl)⟩,?_⟩;exact J0l (fun _ _=>[(0,some 0)])
   . dsimp only;have h1:=hcf (gE L (0+(q+1))) (gE L (0+q));have z1:0+(q+1)=q+1:=Nat.zero_add _;have z2:0+q=q:=Nat.zero_add _;by_cases hc:cf (gE L (0+(q+1))) (gE L (0+q))<0
     . repeat' ((conv=>whnf);first|(refine Ix.w (q+1) ?_)|(refine Ix.w q ?_)|(refine Br.dec ?_ ?_<;>intro _<;>try omega)|(refine Ar.q ?_)|(refine Ltn.q ?_)|(refine Chk.mk hcl ?_)|(refine h1.go ?_))
       all_goals (conv=>whnf)
       rw[z1,z2] at hc;refine⟨q,(q,swE L (q+1) q),by omega,⟨rfl,hj.step hw (by omega) ((hlt _ _).1 hc),(Q9D (by omega)).trans hp⟩,?_⟩;refine J0e (fun _ _=>[(0,some 0)]) ?_ ?_ rfl
       . repeat' (first|exact tI|(refine J0c.fn ?_)|(refine⟨⟨_,rfl,?_⟩,?_⟩)|exact J0c.kf rfl|exact J0c.int (by omega)|exact J0c.q)
       . repeat' (first|exact⟨Nat.le_refl _,rfl,fun i t hi ht=>by simp only[Nat.zero_add];exact X3r L q (by omega) i t ht⟩|exact tI|(refine⟨⟨_,rfl,?_⟩,?_⟩))
     . repeat' ((conv=>whnf);first|(refine Ix.w (q+1) ?_)|(refine Ix.w q ?_)|(refine Br.dec ?_ ?_<;>intro _<;>try omega)|(refine Ar.q ?_)|(refine Ltn.q ?_)|(refine Chk.mk hcl ?_)|(refine h1.go ?_))
       all_goals (conv=>whnf)
       rw[z1,z2] at hc;refine⟨L0.length-(k+1),(k+1,L),by omega,⟨rfl,.inr (by omega),hp,hj.done hw (.inr (fun h=>hc ((hlt _ _).2 h)))⟩,?_⟩;exact J0l (fun _ _=>[(0,some 0)])
 . dsimp only
   repeat' ((conv=>whnf);first|(refine Br.dec ?_ ?_<;>intro _<;>try omega))
   all_goals (conv=>whnf)
   refine⟨L1,⟨hp1,?_⟩,rfl,rfl⟩;intro p q h1 h2;exact hs1 p q h1 (by omega)
open Go.Eng Go.Sort Go.Lib Go.Shelf
def J7P (e:Ed):List Value:=[.int .i64 e.a,.int .i64 e.b,.int .i64 e.w]
theorem X03 (e:Ed):(J7P e).length=3:=rfl
theorem dE (L:List Ed) (i:Nat):L.toArray[i]! = gE L i:=by
 simp[gE,List.getD,List.getElem!_eq_getElem?_getD]
theorem Q7C (d:Array Ed) (i:Nat):gE d.toList i=d[i]!:=by rw[<- dE]
theorem X2x (L:List Ed) (i j:Nat) (hj:j<3):∃x:Int,eF L i j=.int .i64 x/\(J7P (gE L i))[j]! = .int .i64 x:=by
 rcases (show j=0\/j=1\/j=2 by omega) with rfl|rfl|rfl
 . exact⟨_,rfl,rfl⟩
 . exact⟨_,rfl,rfl⟩
 . exact⟨_,rfl,rfl⟩
theorem X4D (d:Array Ed) (i j:Nat) (hi:i<d.size) (hj:j<3):(flatK J7P 3 d)[i*3+j]! = (J7P d[i]!)[j]!:=by
 rw[get_flatK _ _ _ _ (by omega),show(i*3+j) / 3=i by omega,show(i*3+j) % 3=j by omega]
theorem X6e (off:Nat) (d:Array Value) (c:Array Value) (t:Nat) (ht:t<d.size) (hc:off+d.size<=c.size):(putCells id off d c)[off+t]?=some d[t]!:=by
 simp only[putCells,Array.getElem?_mapIdx];rw[Array.getElem?_eq_getElem (by omega),Option.map_some,if_pos ⟨by omega,by omega⟩,show off+t-off=t by omega];rfl
theorem Q93 (off:Nat) (d:Array Value) (c:Array Value):(putCells id off d c).size=c.size:=by simp[putCells]
theorem Q1C (w:World) (b base n:Nat) (d:Array Ed) (os:Array Obj):(sortWorldK J7P 3 w b base n d os).heap=w.heap.modify b (onCells (putCells id base (flatK J7P 3 d)))++os:=rfl
theorem X3s {w:World} {b base n:Nat} {d:Array Ed} {os:Array Obj} {cells:Array Value} {ty:TypeId} (h:w.heap[b]?=some (.cells cells ty (0,0))):(sortWorldK J7P 3 w b base n d os).heap[b]?=some (.cells (putCells id base (flatK J7P 3 d) cells) ty (0,0)):=by
 have hb:b<w.heap.size:=by
  rcases Nat.lt_or_ge b w.heap.size with q|q
  . exact q
  . rw[Array.getElem?_eq_none q] at h;cases h
 rw[Q1C,Array.getElem?_append_left (by simpa using hb),Array.getElem?_modify,if_pos rfl,h];rfl
theorem Q9C {w:World} {b base n:Nat} {d:Array Ed} {os:Array Obj} {q:Nat} (hq:q<w.heap.size) (hne:q≠b):(sortWorldK J7P 3 w b base n d os).heap[q]?=w.heap[q]?:=by
 rw[Q1C,Array.getElem?_append_left (by simpa using hq),Array.getElem?_modify,if_neg (fun e=>hne e.symm)]
theorem Q1F {P:Program} {f cl:FuncId} {cf:Ed->Ed->Int} {lt:Ed->Ed->Prop} (hlt:∀x y,cf x y<0↔lt x y) (L0:List Ed) (h0:0<L0.length)
 (hc:∀(blk off cap:Nat) (w:World),HoldsK J7P 3 w blk off L0.toArray->blk<w.heap.size->Calls P f #[.slice (some ⟨blk,off,none⟩) L0.toArray.size cap,.func (.func cl) #[] #[]] w fun e w' =>
   e=.returned (.tuple #[])/\∃d' n os,PermIn 0 L0.toArray.size L0.toArray d'/\SortedIn (ltOf cf) 0 L0.toArray.size d'/\w'=sortWorldK J7P 3 w blk off n d' os) (ks:List Nat) :
 J0K P f [.vec 0 3 0 L0.length,.fn (.func cl) false []] [(0,.vec L0.length 3 (eF L0))] ks fun v own' _=>∃L:List Ed,(L.Perm L0/\SoI lt L L.length)/\v=.tup []/\own'=[(0,.vec L0.length 3 (eF L))]:=by
 refine⟨fun M w σ us hlen hd hh=>?_⟩
 match us,hlen,hd with
 | [u0,u1],_,hd =>
   have d0:=hd 0 _ u0 rfl rfl;have d1:=hd 1 _ u1 rfl rfl;obtain⟨bo,base,κ,hσ,hn,hcase⟩:=hh.own.blk 0 _ (List.mem_singleton.2 rfl);rcases hcase with ⟨hk,_⟩ | ⟨b,ty,cells,rfl,hMb,hheap,hsz,hcells⟩
   . omega
   cases d0 with
   | vec _ _ _ _ _ bo' base' κ' c a hs' hcκ hl ha =>
     rw[hσ] at hs';cases hs';obtain⟨b',e1,rfl⟩:=ha (by omega);cases e1;cases d1 with
     | fn _ _ _ _ vs hvl hvd =>
       obtain rfl:vs=[]:=List.eq_nil_of_length_eq_zero hvl.symm;have hb:b<w.heap.size:=by
        rcases Nat.lt_or_ge b w.heap.size with q|q
        . exact q
        . rw[Array.getElem?_eq_none q] at hheap;cases hheap
       have hH:HoldsK J7P 3 w b base L0.toArray:=by
        intro t ht;rw[size_flatK,List.size_toArray] at ht;have hi:t / 3<L0.length:=by omega
        have hj:t % 3<3:=Nat.mod_lt _ (by omega);obtain⟨u,hu,_,hden⟩:=hcells (t / 3) (t % 3) hi hj;obtain⟨x,e2,e3⟩:=X2x L0 (t / 3) (t % 3) hj;rw[e2] at hden;cases hden;have et:t / 3*3+t % 3=t:=by omega
        rw[et] at hu;refine⟨?_,?_⟩
        . rw[get_flatK _ _ _ _ (by simpa using ht),dE,id,e3];simp[World.cell?,hheap,hu]
        . simp[World.frozen?,hheap]
       have hcall:=hc b (base+0*3) c w (by simpa using hH) hb;rw[List.size_toArray] at hcall;refine hcall.mono ?_;rintro e w' ⟨rfl,d',n,os,hp,hs,rfl⟩;have hsz':d'.size=L0.length:=by have:=hp.1;simpa using this
       have hperm:d'.toList.Perm L0:=by
        have q:=hp.2.2;have e1:d'.extract 0 L0.length=d':=by rw[<- hsz'];simp
        have e2:L0.toArray.extract 0 L0.length=L0.toArray:=by simp
        rw[e1,e2] at q;simpa using q
       refine⟨M,σ,.tup [],[(0,.vec L0.length 3 (eF d'.toList))],ks,.tuple #[],rfl,.tup _ [] [] rfl (fun i v u h=>by simp at h),⟨⟨?_,?_,?_⟩,hh.fresh,hh.knodup⟩,⟨⟨rfl,⟨rfl,Nat.le_add_right _ _⟩,rfl,?_,?_,fun _ _ _=>Iff.rfl⟩,?_,Sg.le_refl _⟩,⟨fun _ h=>h,fun _ h _=>h,fun k hk=>.inl hk⟩,d'.toList,⟨hperm,?_⟩,rfl,rfl⟩
       . intro k blk hm;obtain⟨rfl,rfl⟩:=by simpa using hm
         refine⟨some b,base,κ,hσ,hn,.inr ⟨b,ty,_,rfl,hMb,by simpa using X3s (d:=d') (os:=os) (n:=n) (base:=base) hheap,by rw[Q93];exact hsz,fun i j hi hj=>?_⟩⟩;obtain⟨x,e2,e3⟩:=X2x d'.toList i j hj;refine⟨.int .i64 x,?_,rfl,by rw[e2];exact .int _ _ _⟩;rw[X6e _ _ _ _ (by rw[size_flatK];omega) (by rw[size_flatK];omega),X4D _ _ _ (by omega) hj,<- Q7C,e3]
       . simp
       . intro k b1 k' b2 q h1 h2 hne;obtain⟨rfl,rfl⟩:=by simpa using h1
         obtain⟨rfl,rfl⟩:=by simpa using h2
         exact(hne rfl).elim
       . rw[Q1C];simp
       . intro q hq hno;refine Q9C hq fun e=>hno ⟨0,_,List.mem_singleton.2 rfl,.inl ?_⟩;rw[e,J0u,hσ]
       . rintro q ⟨k,blk,hm,hq⟩;obtain⟨rfl,rfl⟩:=by simpa using hm
         rcases hq with hq|hq
         . exact .inl ⟨0,_,List.mem_singleton.2 rfl,.inl hq⟩
         . exact hq.elim
       . intro p q hpq hq hl2;rw[Q7C,Q7C] at hl2;have:=hs p q (by omega) hpq (by simpa[hsz'] using hq);rw[ltOf,decide_eq_false_iff_not] at this;exact this ((hlt _ _).2 hl2)
def X91 (n:Nat):Int:=if n=0 then 0 else if n=1 then 1 else if n<=3 then 2 else if n<=7 then 3 else 4
theorem Y1S {n:Int} {K:Int->Prop} (h1:0<=n) (h2:n<=255) (hK:K n):Ar .u8 n K:=⟨n,by simp[IntKind.wrap,IntKind.bits,IntKind.signed];omega,hK⟩
theorem Q8C (n:Nat) (h:n<=12):Ret Tryz.prog 84 [.int .u64 n] (.int .i64 (X91 n)):=by
 rcases (show n=0\/n=1\/n=2\/n=3\/n=4\/n=5\/n=6\/n=7\/n=8\/n=9\/n=10\/n=11\/n=12 by omega) with rfl|rfl|rfl|rfl|rfl|rfl|rfl|rfl|rfl|rfl|rfl|rfl|rfl
 all_goals
  refine J0f rfl ?_;refine J0b mixed Tryz.func84 rfl hc84 hr84 rfl ?_
  repeat' ((conv=>whnf);first|(refine Br.ff ?_)|(refine Y1S (by omega) (by omega) ?_)|(refine Ix.nat (by decide) ?_)|(refine Ar.i64 (by decide) (by decide) ?_))
  all_goals (conv=>whnf)
  first
   | (refine VLe.int ?_;decide)
   | (refine VLe.int ?_;rfl)
   | exact VLe.of_eq rfl
theorem X5i (n:Nat) (h:n<=12):Ret Tryz.prog 65 [.int .u64 n] (.int .i64 (X91 n)):=by
 have h1:=Q8C n h;refine J0f rfl ?_;refine J0b mixed Tryz.func65 rfl hc65 hr65 rfl ?_
 repeat' ((conv=>whnf);first|(refine h1.go ?_))
 all_goals (conv=>whnf)
 exact VLe.rfl
abbrev X2i:List Nat:=[1,2,3,4,5,6,7,8,9,10,11,12,13,14,15,16,17,18,19,20,21,22,23,24,25,26,27,28,29]
theorem X6i (cl:FuncId) (hcl:J0P Tryz.prog cl=true) (cf:Ed->Ed->Int) (hcf:∀x y,Ret Tryz.prog cl [edV x,edV y] (.int .i64 (cf x y))) (lt:Ed->Ed->Prop) (hw:Wo lt) (hlt:∀x y,cf x y<0↔lt x y) (L0:List Ed) (hL:L0.length<=12) (lim:Int) :
 J0K Tryz.prog 64 [.vec 0 3 0 L0.length,.int .i64 0,.int .i64 L0.length,.int .i64 lim,.fn (.func cl) false []] [(0,.vec L0.length 3 (eF L0))] X2i
  fun v own' _=>∃L:List Ed,(L.Perm L0/\SoI lt L L.length)/\v=.tup []/\own'=[(0,.vec L0.length 3 (eF L))]:=by
 have hi:=X2n cl hcl cf hcf lt hw hlt L0 (by omega);refine J0b mixed Tryz.func64 rfl hc64 hr64 rfl ?_
 repeat' ((conv=>whnf);first|fail)
 all_goals (conv=>whnf)
 refine J00 mixed 1 ?_
 repeat' ((conv=>whnf);first|(refine Br.dec ?_ ?_<;>intro _<;>try omega)|(refine Ar.q ?_)|(refine hi.mono ?_;rintro _ _ _ ⟨L,hp,rfl,rfl⟩))
 all_goals (conv=>whnf)
 exact⟨L,hp,rfl,rfl⟩
theorem Q53 (cl:FuncId) (hcl:J0P Tryz.prog cl=true) (cf:Ed->Ed->Int) (hcf:∀x y,Ret Tryz.prog cl [edV x,edV y] (.int .i64 (cf x y))) (lt:Ed->Ed->Prop) (hw:Wo lt) (hlt:∀x y,cf x y<0↔lt x y) (L0:List Ed) (hL:L0.length<=12) :
 J0K Tryz.prog 46 [.vec 0 3 0 L0.length,.fn (.func cl) false []] [(0,.vec L0.length 3 (eF L0))] X2i
  fun v own' _=>∃L:List Ed,(L.Perm L0/\SoI lt L L.length)/\v=.tup []/\own'=[(0,.vec L0.length 3 (eF L))]:=by
 have hb:=X5i L0.length hL;have hi:=X6i cl hcl cf hcf lt hw hlt L0 hL (X91 L0.length);refine J0b mixed Tryz.func46 rfl hc46 hr46 rfl ?_
 repeat' ((conv=>whnf);first|(refine Ar.u64 (by omega) (by omega) ?_)|(refine hb.go ?_)|(refine hi.mono ?_;rintro _ _ _ ⟨L,hp,rfl,rfl⟩))
 all_goals (conv=>whnf)
 exact⟨L,hp,rfl,rfl⟩
def Q4x:Go.Shelf.Ren:=⟨fun|6=>46|15=>65|14=>64|28=>83|29=>84|20=>66|21=>76|22=>77|23=>78|24=>79|25=>80|26=>81|27=>82|46=>98|47=>99|48=>100|49=>101|50=>102|57=>130|n=>n,fun|22=>52|24=>56|25=>59|3=>3|39=>100|0=>0|53=>99|55=>139|4=>4|46=>132|45=>131|50=>130|5=>5|9=>9|66=>159|70=>163|76=>205|77=>62|n=>n,fun|n=>n⟩
theorem X50:SlLaysF0.n6 Tryz.prog Q4x:={
 mixed:=by kernel_rfl
 f6:=⟨Tryz.f46.name,by decide,Tryz.func46.trans (congrArg some (by kernel_rfl))⟩
 f14:=⟨Tryz.f64.name,by decide,Tryz.func64.trans (congrArg some (by kernel_rfl))⟩
 f15:=Tryz.func65.trans (congrArg some (by kernel_rfl))
 f20:=⟨Tryz.f66.name,by decide,Tryz.func66.trans (congrArg some (by kernel_rfl))⟩
 f21:=⟨Tryz.f76.name,by decide,Tryz.func76.trans (congrArg some (by kernel_rfl))⟩
 f22:=⟨Tryz.f77.name,by decide,Tryz.func77.trans (congrArg some (by kernel_rfl))⟩
 f23:=⟨Tryz.f78.name,by decide,Tryz.func78.trans (congrArg some (by kernel_rfl))⟩
 f24:=⟨Tryz.f79.name,by decide,Tryz.func79.trans (congrArg some (by kernel_rfl))⟩
 f25:=⟨Tryz.f80.name,by decide,Tryz.func80.trans (congrArg some (by kernel_rfl))⟩
 f26:=⟨Tryz.f81.name,by decide,Tryz.func81.trans (congrArg some (by kernel_rfl))⟩
 f27:=⟨Tryz.f82.name,by decide,Tryz.func82.trans (congrArg some (by kernel_rfl))⟩
 f28:=Tryz.func83.trans (congrArg some (by kernel_rfl))
 f29:=Tryz.func84.trans (congrArg some (by kernel_rfl))
 f46:=⟨Tryz.f98.name,by decide,Tryz.func98.trans (congrArg some (by kernel_rfl))⟩
 f47:=Tryz.func99.trans (congrArg some (by kernel_rfl))
 f48:=Tryz.func100.trans (congrArg some (by kernel_rfl))
 f49:=⟨Tryz.f101.name,by decide,Tryz.func101.trans (congrArg some (by kernel_rfl))⟩
 f50:=⟨Tryz.f102.name,by decide,Tryz.func102.trans (congrArg some (by kernel_rfl))⟩
 f57:=⟨Tryz.f130.name,by decide,Tryz.func130.trans (congrArg some (by kernel_rfl))⟩
 t0:=Tryz.underlying0
 a0:=Tryz.isAgg0
 z0:=Tryz.sizeOf0
 v0:=Tryz.zeroValue0
 t3:=Tryz.underlying3
 a3:=Tryz.isAgg3
 z3:=Tryz.sizeOf3
 v3:=Tryz.zeroValue3
 t4:=Tryz.underlying4
 a4:=Tryz.isAgg4
 z4:=Tryz.sizeOf4
 v4:=Tryz.zeroValue4
 t5:=Tryz.underlying5
 a5:=Tryz.isAgg5
 z5:=Tryz.sizeOf5
 v5:=Tryz.zeroValue5
 t9:=Tryz.underlying9
 a9:=Tryz.isAgg9
 z9:=Tryz.sizeOf9
 v9:=Tryz.zeroValue9
 t22:=Tryz.underlying52
 a22:=Tryz.isAgg52
 z22:=Tryz.sizeOf52
 v22:=Tryz.zeroValue52
 t25:=Tryz.underlying59
 a25:=Tryz.isAgg59
 z25:=Tryz.sizeOf59
 v25:=Tryz.zeroValue59
 t39:=Tryz.underlying100
 a39:=Tryz.isAgg100
 z39:=Tryz.sizeOf100
 v39:=Tryz.zeroValue100
 t45:=Tryz.underlying131
 a45:=Tryz.isAgg131
 z45:=Tryz.sizeOf131
 v45:=Tryz.zeroValue131
 t46:=Tryz.underlying132
 a46:=Tryz.isAgg132
 z46:=Tryz.sizeOf132
 v46:=Tryz.zeroValue132
 t50:=Tryz.underlying130
 a50:=Tryz.isAgg130
 z50:=Tryz.sizeOf130
 v50:=Tryz.zeroValue130
 t53:=Tryz.underlying99
 a53:=Tryz.isAgg99
 z53:=Tryz.sizeOf99
 v53:=Tryz.zeroValue99
 t55:=Tryz.underlying139
 a55:=Tryz.isAgg139
 z55:=Tryz.sizeOf139
 v55:=Tryz.zeroValue139
 t66:=Tryz.underlying159
 a66:=Tryz.isAgg159
 z66:=Tryz.sizeOf159
 v66:=Tryz.zeroValue159
 t70:=Tryz.underlying163
 a70:=Tryz.isAgg163
 z70:=Tryz.sizeOf163
 v70:=Tryz.zeroValue163
 t76:=Tryz.underlying205
 a76:=Tryz.isAgg205
 z76:=Tryz.sizeOf205
 v76:=Tryz.zeroValue205
 t77:=Tryz.underlying62
 a77:=Tryz.isAgg62
 z77:=Tryz.sizeOf62
 v77:=Tryz.zeroValue62 }
theorem X2y (e:Ed) {M:Nat->Prop} {w:World} {σ:Sg}:Den M w σ (edV e) (.agg (J7P e).toArray):=by
 refine .agg _ _ _ rfl fun i v u hv hu=>?_
 match i,hv,hu with
 | 0,hv,hu=>simp[edC,J7P] at hv hu;subst hv hu;exact .int _ _ _
 | 1,hv,hu=>simp[edC,J7P] at hv hu;subst hv hu;exact .int _ _ _
 | 2,hv,hu=>simp[edC,J7P] at hv hu;subst hv hu;exact .int _ _ _
theorem Q0Y (x y:Ed) (w:World):Calls Tryz.prog 47 #[.agg (J7P x).toArray,.agg (J7P y).toArray] w fun e w'=>e=.returned (.int .i64 (cfE x y))/\∃q os',w'=Go.Sort.grow (w.drewN q) os':=by
 have h:=(Q0X x y [] []).out (fun _=>False) w Sg.none [.agg (J7P x).toArray,.agg (J7P y).toArray] rfl ?_ ⟨⟨fun _ _ h=>by simp at h,by simp,fun _ _ _ _ _ h=>by simp at h⟩,fun _ h=>by simp at h,by simp⟩
 . refine h.mono ?_;rintro e w' ⟨M',σ',v,own',ks',u,rfl,hd,hh,tr,kd,rfl,rfl,rfl⟩;cases hd;refine⟨rfl,w'.drawn-w.drawn,w'.heap.extract w.heap.size w'.heap.size,?_⟩;have hs:=tr.adv.size;have hn:∀b,¬ J0y w Sg.none [] b:=fun b ⟨_,_,hm,_⟩=>by simp at hm
   have hheap:w'.heap=w.heap++w'.heap.extract w.heap.size w'.heap.size:=by
    apply Array.ext_getElem?;intro i;by_cases hi:i<w.heap.size
    . rw[Array.getElem?_append_left hi,tr.adv.same i hi (hn i)]
    . rw[Array.getElem?_append_right (by omega),Array.getElem?_extract];by_cases h2:i<w'.heap.size
      . rw[if_pos (by omega),show w.heap.size+(i-w.heap.size)=i by omega]
      . rw[if_neg (by omega),Array.getElem?_eq_none (by omega)]
   have h1:=tr.adv.os;have h2:=tr.adv.tape;have h3:=tr.adv.output;cases w' with
   | mk heap tape drawn os output =>
     cases w with
     | mk heap0 tape0 drawn0 os0 output0 =>
       simp only at hheap h1 h3;have h4:=h2.eq;have h5:=h2.le;simp only at h4 h5;subst h1 h3 h4;simp only[Go.Sort.grow,World.drewN];rw[show drawn0+(drawn-drawn0)=drawn by omega,<- hheap]
 . intro i v u hv hu
   match i,hv,hu with
   | 0,hv,hu=>simp at hv hu;subst hv hu;exact X2y x
   | 1,hv,hu=>simp at hv hu;subst hv hu;exact X2y y
theorem X5Z:Go.Sort.SWO (Go.Proofs.ltOf cfE) where
 irrefl x:=by rw[ltOf,decide_eq_false_iff_not,Q07];exact fun h=>Q4N _ _ h h
 trans x y z h1 h2:=by rw[ltOf,decide_eq_true_eq,Q07] at *;simp only[Ed.lt] at *;omega
 ntrans x y z h1 h2:=by rw[ltOf,decide_eq_false_iff_not,Q07] at *;simp only[Ed.lt] at *;omega
theorem Q9I (L0:List Ed) (hL:L0.length<=1000000) :
 J0K Tryz.prog 46 [.vec 0 3 0 L0.length,.fn (.func 47) false []] [(0,.vec L0.length 3 (eF L0))] X2i
  fun v own' _=>∃L:List Ed,(L.Perm L0/\SoI Ed.lt L L.length)/\v=.tup []/\own'=[(0,.vec L0.length 3 (eF L))]:=by
 by_cases h12:L0.length<=12
 . exact Q53 47 (by kernel_rfl) cfE Q0X Ed.lt X76 Q07 L0 h12
 refine Q1F Q07 L0 (by omega) (fun blk off cap w hH hb=>?_) X2i;have eg:∀args w,(callFunc 47 args).run Tryz.prog w=.ok (.enter 47 args) w:=enters_of Tryz.func47 (by kernel_rfl) rfl;exact AnyQ.slices_SortFunc X50 3 Tryz.isAgg56 Tryz.sizeOf56 J7P X03 (fun x v hv=>by simp[J7P] at hv;rcases hv with rfl|rfl|rfl<;>rfl) cfE X5Z 47 #[] blk off cap L0.toArray w eg (fun _ _ _ _ x y=>Q0Y x y _) hH hb (by simpa using(by omega:L0.length<4611686018427387904))
theorem Q50 (cl:FuncId) (hcl:J0P Tryz.prog cl=true) (cf:Ed->Ed->Int) (hcf:∀x y,Ret Tryz.prog cl [edV x,edV y] (.int .i64 (cf x y))) (lt:Ed->Ed->Prop) (hw:Wo lt) (hlt:∀x y,cf x y<0↔lt x y) (L0:List Ed) (hL:L0.length<=19) :
 J0K Tryz.prog 49 [.vec 0 3 0 L0.length,.int .i64 L0.length,.fn (.func cl) false []] [(0,.vec L0.length 3 (eF L0))] X2i
  fun v own' _=>∃L:List Ed,(L.Perm L0/\SoI lt L L.length)/\v=.tup []/\own'=[(0,.vec L0.length 3 (eF L))]:=by
 have hi:=X2n cl hcl cf hcf lt hw hlt L0 (by omega);refine J0b mixed Tryz.func49 rfl hc49 hr49 rfl ?_
 repeat' ((conv=>whnf);first|fail)
 all_goals (conv=>whnf)
 refine J00 mixed 1 ?_
 repeat' ((conv=>whnf);first|(refine Br.dec ?_ ?_<;>intro _<;>try omega)|(refine hi.mono ?_;rintro _ _ _ ⟨L,hp,rfl,rfl⟩))
 all_goals (conv=>whnf)
 refine J00 mixed 1 ?_
 repeat' ((conv=>whnf);first|(refine Br.dec ?_ ?_<;>intro _<;>try omega))
 all_goals (conv=>whnf)
 exact⟨L,hp,rfl,rfl⟩
theorem Q2P (cl:FuncId) (hcl:J0P Tryz.prog cl=true) (cf:Ed->Ed->Int) (hcf:∀x y,Ret Tryz.prog cl [edV x,edV y] (.int .i64 (cf x y))) (lt:Ed->Ed->Prop) (hw:Wo lt) (hlt:∀x y,cf x y<0↔lt x y) (L0:List Ed) (hL:L0.length<=19) :
 J0K Tryz.prog 21 [.vec 0 3 0 L0.length,.fn (.func cl) false []] [(0,.vec L0.length 3 (eF L0))] X2i
  fun v own' _=>∃L:List Ed,(L.Perm L0/\SoI lt L L.length)/\v=.tup []/\own'=[(0,.vec L0.length 3 (eF L))]:=by
 have hi:=Q50 cl hcl cf hcf lt hw hlt L0 hL;refine J0b mixed Tryz.func21 rfl hc21 hr21 rfl ?_
 repeat' ((conv=>whnf);first|(refine hi.mono ?_;rintro _ _ _ ⟨L,hp,rfl,rfl⟩))
 all_goals (conv=>whnf)
 exact⟨L,hp,rfl,rfl⟩
end Go.Proofs.YtefdkgkojlflaaaGreatDoor
