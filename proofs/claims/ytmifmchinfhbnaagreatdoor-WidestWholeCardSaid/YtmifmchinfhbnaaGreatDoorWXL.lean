import Derived.Test.YtmifmchinfhbnaaGreatDoorWX3
import Derived.Test.YtmifmchinfhbnaaGreatDoorBP2
namespace Go.Proofs.YtmifmchinfhbnaaGreatDoor
open Go.Eng
set_option maxRecDepth 100000
set_option linter.unusedVariables false
def vW2:List Vr:=[⟨ByteArray.mk #[120],1,0,0,16,0⟩,⟨ByteArray.mk #[112],3,0,0,0,0⟩]
def J0q:Pr:=⟨ByteArray.mk #[119,105,100,101,115,116],vW2,[⟨ByteArray.mk #[116,111,112],X3W,[(0,.leaf 1 0),(1,.leaf 4 0)]⟩,
 ⟨ByteArray.mk #[108,111,119],X4I,[(0,xWT),(1,pWT)]⟩]⟩
theorem J8Y {g:G} {c:Cf} (h:J1G J0q g c) {v:Nat} (hv:v<g.ids.length):(gC c v).length=2/\0<=dC c v/\dC c v<=16*g.ids.length/\-1<=pC c v/\pC c v<=((gR g.ports v).length:Int)-1:=by
 have hl:v<c.length:=by rw[h.len];exact hv
 have h0:=h.val v hl 0 (by decide);have h1:=h.val v hl 1 (by decide);have e0:bnd g (gV J0q.vars 0) v=(0,0+16*(g.ids.length:Int)+0*Q3w g):=rfl;have e1:bnd g (gV J0q.vars 1) v=(-1,((gR g.ports v).length:Int)-1):=rfl;rw[e0] at h0;rw[e1] at h1;obtain⟨a1,a2⟩:=h0;obtain⟨b1,b2⟩:=h1;simp only at a1 a2 b1 b2;exact⟨h.row v hl,a1,by show gI (gC c v) 0<=_;omega,b1,b2⟩
theorem J72 {g:G} {c:Cf} (h:J1G J0q g c):NnW g c:=fun v hv=>⟨(J8Y h hv).2.1,(J8Y h hv).2.2.1⟩
def stX (c:Cf):Go.Plain.Val.St:=⟨dC c,pC c⟩
theorem J2T {g:G} {c:Cf} {v:Nat}:Go.Plain.Val.off (tgW g) (stX c) v↔Q3S g c v=true:=by
 rw[Q3S,decide_eq_true_eq];exact Iff.rfl
theorem Q59 (g:G) (c:Cf) (v:Nat):gds J0q g c v=[X3W.sem g c v (-1),X4I.sem g c v (-1)]:=rfl
theorem Q58 {g:G} (hg:g.valid=true) {c:Cf} (hc:J1G J0q g c) {v:Nat} (hv:v<g.ids.length) (ho:Q3S g c v=true):J1m J0q g c v=if v=0 then 0 else 1:=by
 rw[J1m,Q59,Q3v,Q35 hg (J72 hc) hv,ho];by_cases h0:v=0
 . rw[decide_eq_true h0,if_pos h0];rfl
 . rw[decide_eq_false h0,if_neg h0];rfl
theorem Q9P {g:G} (hg:g.valid=true) {c:Cf} (hc:J1G J0q g c) {v:Nat} (hv:v<g.ids.length) (ho:Q3S g c v=false):J1m J0q g c v=-1:=by
 rw[J1m,Q59,Q3v,Q35 hg (J72 hc) hv,ho,Bool.and_false,Bool.and_false];rfl
theorem J6u {g:G} (hg:g.valid=true) {c:Cf} (hc:J1G J0q g c) {v:Nat} (hv:v<g.ids.length):(enN J0q g c).testBit v=true↔Q3S g c v=true:=by
 rw[J46,decide_eq_true hv,Bool.true_and,decide_eq_true_eq];cases ho:Q3S g c v with
 | true =>
   rw[Q58 hg hc hv ho];exact⟨fun _=>rfl,fun _=>by split<;>omega⟩
 | false =>
   rw[Q9P hg hc hv ho];exact⟨fun h=>by omega,fun h=>by cases h⟩
theorem X3E {g:G} (hg:g.valid=true) {c:Cf} (hc:J1G J0q g c):enN J0q g c=0↔∀v,v<g.ids.length->Q3S g c v=false:=by
 constructor
 . intro e v hv;cases ho:Q3S g c v with
   | false=>rfl
   | true =>
     have:=(J6u hg hc hv).2 ho;rw[e] at this;simp at this
 . intro h;apply Nat.eq_of_testBit_eq;intro v;rw[Nat.zero_testBit];cases e:(enN J0q g c).testBit v with
   | false=>rfl
   | true =>
     have hlt:v<g.ids.length:=by rw[J46,Bool.and_eq_true,decide_eq_true_eq] at e;exact e.1
     have:=(J6u hg hc hlt).1 e;rw[h v hlt] at this;cases this
theorem wd0 (g:G) (c:Cf) (v:Nat):J3D J0q g c v 0=((gC c v).set 0 (brI 1 0 (0+16*(g.ids.length:Int)+0*Q3w g) 0)).set 1 (brI 3 (-1) (((gR g.ports v).length:Int)-1) (-1)):=rfl
theorem wd1 (g:G) (c:Cf) (v:Nat):J3D J0q g c v 1=((gC c v).set 0 (brI 1 0 (0+16*(g.ids.length:Int)+0*Q3w g) (xWT.sem g c v (-1)))).set 1 (brI 3 (-1) (((gR g.ports v).length:Int)-1) (pWT.sem g c v (-1))):=rfl
theorem J9Z {k lo hi a:Int} (h:lo<=a/\a<=hi):brI k lo hi a=a:=by rw[brI,if_pos h]
theorem X3Y {g:G} (hg:g.valid=true) {c:Cf} (hc:J1G J0q g c) {v:Nat} (hv:v<g.ids.length) (h0:v≠0):0<=(tgW g (dC c) v).1/\(tgW g (dC c) v).1<=16*g.ids.length/\-1<=(tgW g (dC c) v).2/\(tgW g (dC c) v).2<=((gR g.ports v).length:Int)-1:=by
 have hm:=X7q hg (J72 hc) hv;have hf:=Q1t (fun l=>decide (exI g (dC c l.1.toNat) l.2=mnW g (dC c) v)) (gR g.ports v) 0;rw[tgW,if_neg h0];simp only;split<;>omega
theorem J8X {g:G} (hg:g.valid=true) {c:Cf} (hc:J1G J0q g c) {s:Nat} (hs:J2s s (enN J0q g c)):Go.Plain.Val.Step g.ids.length (tgW g) (stX c) (fun v=>s.testBit v) (stX (J0A J0q g c s)):=by
 intro v hv;have hl:=hc.len;have hlen:=(J8Y hc hv).1;have hrow:=J3i J0q g c s (v:=v) (by omega);refine⟨fun hb ho=>?_,fun hq=>?_⟩
 . rw[J2T] at ho;rw[if_pos hb,Q58 hg hc hv ho] at hrow;show(gI (gC (J0A J0q g c s) v) 0,gI (gC (J0A J0q g c s) v) 1)=tgW g (dC c) v;by_cases h0:v=0
   . rw[if_pos h0] at hrow;rw[hrow,show(0:Int).toNat=0 from rfl,wd0];rw[J7d _ _ _ _ (by rw[List.length_set];omega),if_neg (by decide),J7d _ _ _ _ (by omega),if_pos rfl,J7d _ _ _ _ (by rw[List.length_set];omega),if_pos rfl,tgW,if_pos h0,J9Z (by omega),J9Z (by omega)]
   . rw[if_neg h0] at hrow;obtain⟨r1,r2,r3,r4⟩:=X3Y hg hc hv h0;rw[hrow,show(1:Int).toNat=1 from rfl,wd1,X2i hg (J72 hc) hv h0,X2y hg (J72 hc) hv h0];rw[J7d _ _ _ _ (by rw[List.length_set];omega),if_neg (by decide),J7d _ _ _ _ (by omega),if_pos rfl,J7d _ _ _ _ (by rw[List.length_set];omega),if_pos rfl,J9Z (by omega),J9Z (by omega)]
 . show gI (gC (J0A J0q g c s) v) 0=gI (gC c v) 0/\gI (gC (J0A J0q g c s) v) 1=gI (gC c v) 1;cases hb:s.testBit v with
   | false=>rw[hrow,hb];exact⟨rfl,rfl⟩
   | true =>
     exfalso;have ho:=(J6u hg hc hv).1 (hs v hb);rcases hq with q|q
     . exact absurd (hb.symm.trans q) (by simp)
     . rw[J2T] at q;exact q ho
theorem Q33:∀{l:List Int} {a:Int} (m:Int),a∈l->a<=J26 l m
 | [],_,_,h=>by simp at h
 | x::r,a,m,h=>by
   rw[J26];rcases List.mem_cons.1 h with e|e
   . subst e;refine Int.le_trans ?_ (J9u r _);split<;>omega
   . exact Q33 _ e
def TrX (g:G) (c:Cf):Prop:=∀v,v<g.ids.length->dC c v=((Tv g v:Nat):Int)/\pC c v=upW g v
noncomputable def mxV (g:G):Int:=J26 (J2f g) 0
theorem Y0s {g:G} {v:Nat} (hv:v<g.ids.length):((Tv g v:Nat):Int)<=mxV g:=by
 have:gI (J2f g) v∈J2f g:=by
  have hl:=J2O g;simp only[gI,List.getD,List.getElem?_eq_getElem (show v<(J2f g).length by omega),Option.getD_some];exact List.getElem_mem _
 rw[<- J3u hv];exact Q33 0 this
theorem X2m {g:G} {c:Cf} (ht:TrX g c) {k:Nat} (hk:∀v,v<g.ids.length->Tv g v<k):Go.Plain.Val.Ok g.ids.length (Tv g) (upW g) (stX c) k :=
 ⟨fun v hv _=>ht v hv,fun v hv q=>by have:=hk v hv;omega⟩
theorem Q7l {g:G} {c:Cf} {k:Nat} (ho:Go.Plain.Val.Ok g.ids.length (Tv g) (upW g) (stX c) k) (hk:∀v,v<g.ids.length->Tv g v<k):TrX g c :=
 fun v hv=>ho.low v hv (hk v hv)
theorem Q6r {g:G} (h:g.conn=true):∀v,v<g.ids.length->Tv g v<16*g.ids.length:=fun v hv=>by have:=J78 h hv;omega
theorem X0b {g:G} (h:g.conn=true) {c:Cf} (ht:TrX g c) {v:Nat} (hv:v<g.ids.length):Q3S g c v=false:=by
 have:=(X2m ht (Q6r h)).all (X7h h) (Q6P h) hv (Q6r h v hv);rw[J2T] at this;simpa using this
theorem Q3u {g:G} (h:g.conn=true) {c:Cf} (hc:J1G J0q g c) (ht:TrX g c) {s:Nat} (hs:J2s s (enN J0q g c)):TrX g (J0A J0q g c s) :=
 Q7l ((X2m ht (Q6r h)).step (X7h h) (Q6P h) (J8X (J0o h).1 hc hs)).1 (Q6r h)
theorem Q14 {g:G} {c:Cf} (hc:J1G J0q g c):∀v,v<g.ids.length->0<=dC c v:=fun v hv=>(J72 hc v hv).1
theorem X55 {g:G} (h:g.conn=true) {c:Cf} (hc:J1G J0q g c) (ho:∀v,v<g.ids.length->Q3S g c v=false):TrX g c:=by
 have key:∀k,Go.Plain.Val.Ok g.ids.length (Tv g) (upW g) (stX c) k:=fun k=>by
  induction k with
  | zero=>exact Go.Plain.Val.Ok.start (Q14 hc)
  | succ k ih =>
    refine ih.next fun v hv hb=>?_;have:=ih.off_bad (X7h h) (Q6P h) hv hb;rw[J2T,ho v hv] at this;cases this
 exact Q7l (key _) (Q6r h)
theorem J6t {g:G} (h:g.conn=true) {c:Cf} (hc:J1G J0q g c):enN J0q g c=0↔TrX g c:=by
 rw[X3E (J0o h).1 hc];exact⟨fun q=>X55 h hc q,fun q v hv=>X0b h q hv⟩
structure XIn (g:G) (c:Cf) (k:Cnt):Prop where
 hr:(k.rounds:Int)<=mxV g
 ho:Go.Plain.Val.Ok g.ids.length (Tv g) (upW g) (stX c) k.rounds
 hb:∀v,v<g.ids.length->Go.Plain.Val.bad (Tv g) (upW g) (stX c) k.rounds v->k.pend.testBit v=true
theorem Q25 {g:G} (h:g.conn=true) {c:Cf} (hc:J1G J0q g c) {k:Nat} (ho:Go.Plain.Val.Ok g.ids.length (Tv g) (upW g) (stX c) k) {v:Nat} (hv:v<g.ids.length) (hb:Go.Plain.Val.bad (Tv g) (upW g) (stX c) k v):(enN J0q g c).testBit v=true :=
 (J6u (J0o h).1 hc hv).2 (J2T.1 (ho.off_bad (X7h h) (Q6P h) hv hb))
theorem X7n (g:G):0<=mxV g:=J9u _ _
theorem Q54 {g:G} (h:g.conn=true) {c:Cf} (hc:J1G J0q g c):XIn g c (X71 (enN J0q g c)) :=
 ⟨by simpa[X71] using X7n g,Go.Plain.Val.Ok.start (Q14 hc),fun v hv hb=>Q25 h hc (Go.Plain.Val.Ok.start (Q14 hc)) hv hb⟩
theorem Q3e {g:G} (h:g.conn=true) {c:Cf} (hc:J1G J0q g c) {k:Cnt} (hi:XIn g c k) {s:Nat} (hs:J2s s (enN J0q g c)) (hc':J1G J0q g (J0A J0q g c s)) (hn:¬ TrX g (J0A J0q g c s)) :
 XIn g (J0A J0q g c s) (k.add s (enN J0q g (J0A J0q g c s))):=by
 obtain⟨h1,h2⟩:=J0o h;obtain⟨f1,f2,f3,f4,f5,f6,f7⟩:=J0f h1;have hstep:=J8X h1 hc hs;obtain⟨hr,ho,hb⟩:=hi;have hlf:∀v,v<g.ids.length->((lft k s (enN J0q g (J0A J0q g c s))).testBit v=true↔(k.pend.testBit v=true/\s.testBit v=false)/\(enN J0q g (J0A J0q g c s)).testBit v=true):=fun v hv=>by
  simp only[lft,Nat.testBit_and,J03 (show v<32 by omega),Bool.and_eq_true,Bool.not_eq_true']
 obtain⟨ho',hb'⟩:=ho.step (X7h h) (Q6P h) hstep;have hbl:∀v,v<g.ids.length->Go.Plain.Val.bad (Tv g) (upW g) (stX (J0A J0q g c s)) k.rounds v->(lft k s (enN J0q g (J0A J0q g c s))).testBit v=true:=fun v hv q=>by
  obtain⟨q1,q2⟩:=hb' v hv q;exact(hlf v hv).2 ⟨⟨hb v hv q1,q2⟩,Q25 h hc' ho' hv q⟩
 by_cases hz:lft k s (enN J0q g (J0A J0q g c s))=0
 . rw[Cnt.add,if_pos hz];have hnx:=ho'.next fun v hv q=>by
    have:=hbl v hv q;rw[hz] at this;simp at this
   refine⟨?_,hnx,fun v hv q=>Q25 h hc' hnx hv q⟩;apply Classical.byContradiction;intro q;refine hn (Q7l hnx fun v hv=>?_);have:=Y0s (g:=g) hv;simp only at q;omega
 . rw[Cnt.add,if_neg hz];exact⟨hr,ho',hbl⟩
def bX (g:G) (v x:Nat):Int×Int:=if x=0 then (0,16*g.ids.length) else (-1,((gR g.ports v).length:Int)-1)
def G.xconf (g:G) (c:Cf):Bool:=X24 g.ids.length 2 (bX g) c
theorem X3A (g:G) (hg:g.valid=true) (c:Cf):X24 g.ids.length [16*(g.ids.length:Int),-1].length (bG g [16*(g.ids.length:Int),-1]) c=g.xconf c:=Q8Y (fun v x hv hx=>by
 have e:x=0\/x=1:=by simp at hx;omega
 rcases e with rfl|rfl
 . rw[bG,show gI [16*(g.ids.length:Int),-1] 0=16*(g.ids.length:Int) from rfl,if_neg (by omega)];rfl
 . rfl)
theorem J6r {g:G} {c:Cf} (h:g.xconf c=true):c.length=g.ids.length/\∀v,v<c.length->(gC c v).length=2/\0<=gI (gC c v) 0/\gI (gC c v) 0<=16*g.ids.length/\-1<=gI (gC c v) 1/\gI (gC c v) 1<(gR g.ports v).length:=by
 have:=J4c.1 h;refine⟨this.1,fun v hv=>?_⟩;have h2:=this.2 v (by omega);have h3:=h2.2 0 (by omega);have h4:=h2.2 1 (by omega);simp only[bX,if_true,Nat.one_ne_zero,if_false] at h3 h4;omega
theorem Q9K {g:G} {c:Cf} (h:J1G J0q g c):g.xconf c=true:=by
 rw[G.xconf,J4c];refine⟨h.len,fun v hv=>?_⟩;obtain⟨h0,h1,h2,h3,h4⟩:=J8Y h hv;refine⟨h0,fun x hx=>?_⟩;rcases (show x=0\/x=1 by omega) with rfl|rfl
 . exact⟨h1,h2⟩
 . exact⟨h3,h4⟩
theorem Q3i (g:G) (hs:g.Small):Ret Tryz.prog 21 [g.v] (.bool g.conn):=by
 have h:=Q8W g hs;refine J0h rfl ?_;refine J0d J0b Tryz.func21 rfl hc21 hr21 rfl ?_;cases hc:g.conn
 all_goals rw[hc] at h
 all_goals
  repeat' ((conv=>whnf);first|(refine Br.tt ?_)|(refine Br.ff ?_)|(refine h.go ?_))
  all_goals (conv=>whnf)
  exact VLe.rfl
theorem J2N (g:G) (hs:g.Small) (c:Cf) (hc:J7N c):Ret Tryz.prog 37 [g.v,cV c] (.bool (g.conn&&g.xconf c)):=by
 have hf:=Q3i g hs;refine J0h rfl ?_;refine J0d J0b Tryz.func37 rfl hc37 hr37 rfl ?_;cases hg:g.conn with
 | true =>
   rw[hg] at hf;rw[Bool.true_and];obtain⟨h1,_⟩:=J0o hg;obtain⟨f1,f2,f3,f4,f5,f6,f7⟩:=J0f h1;have hb:=X13 g hs f3 c hc [16*(g.ids.length:Int),-1] (by simp);rw[X3A g h1] at hb
   repeat' ((conv=>whnf);first|(refine Br.tt ?_)|(refine Ar.i64 (by omega) (by omega) ?_)|(refine hf.go ?_)|(refine J6p [1] hb ⟨by decide,VLe.rfl,VLe.rfl,VLe.fz rfl (fun h=>h) (Q6o _ _ _ (by first|rfl|(congr 1;omega)) rfl),True.intro⟩ ?_)|(refine Br.any (fun _=>?_) (fun _=>?_)))
   all_goals (conv=>whnf)
   all_goals exact VLe.bool (Eq.symm (by first|assumption|exact decide_eq_true (by assumption)|exact decide_eq_false (by assumption)))
 | false =>
   rw[hg] at hf
   repeat' ((conv=>whnf);first|(refine Br.ff ?_)|(refine hf.go ?_))
   all_goals (conv=>whnf)
   all_goals exact VLe.rfl
noncomputable def X6E (g:G) (c:Cf):Bool:=decide (∀v,v<c.length->gI (gC c v) 0=gI (J2f g) v/\gI (gC c v) 1=upW g v)
theorem J87 {g:G} {c:Cf}:X6E g c=true↔∀v,v<c.length->gI (gC c v) 0=gI (J2f g) v/\gI (gC c v) 1=upW g v:=by rw[X6E,decide_eq_true_eq]
noncomputable def G.xleg (g:G) (c:Cf):Bool:=g.conn&&g.xconf c&&X6E g c
theorem J54 {g:G} (h:g.conn=true) {c:Cf} (hc:J1G J0q g c):g.xleg c=true↔TrX g c:=by
 have hl:=hc.len;rw[G.xleg,h,Q9K hc,Bool.true_and,Bool.true_and,J87,hl];refine forall_congr' fun v=>forall_congr' fun hv=>?_;rw[J3u hv]
theorem Q53 {g:G} (h:g.conn=true) {c:Cf} (hc:J1G J0q g c) (hn:g.xleg c=false):¬ TrX g c:=fun q=>by
 rw[(J54 h hc).2 q] at hn;cases hn
theorem Q51 {g:G} (h:g.conn=true) {c:Cf} (hc:J1G J0q g c) (hl:g.xleg c=true) {s:Nat} (hs:J2s s (enN J0q g c)) (hc':J1G J0q g (J0A J0q g c s)):g.xleg (J0A J0q g c s)=true :=
 (J54 h hc').2 (Q3u h hc ((J54 h hc).1 hl) hs)
theorem X3z {g:G} (h:g.conn=true) {c:Cf} (hc:J1G J0q g c) (hn:g.xleg c=false):enN J0q g c≠0:=fun q=>Q53 h hc hn ((J6t h hc).1 q)
theorem Q52 {g:G} (h:g.conn=true) {c:Cf} (hc:J1G J0q g c):g.xleg c=decide (enN J0q g c=0):=by
 rw[Bool.eq_iff_iff,decide_eq_true_eq,J54 h hc,J6t h hc]
theorem Q7H:∀{l:List Int} {m b:Int},m<=b->(∀a∈l,a<=b)->J26 l m<=b
 | [],m,b,h,_=>h
 | a::r,m,b,h,ha=>by
   rw[J26];exact Q7H (by have:=ha a (by simp);split<;>omega) (fun x hx=>ha x (by simp[hx]))
theorem X2I {g:G} (h:g.conn=true):0<=mxV g/\mxV g+2<=16*g.ids.length/\g.ids.length<=24:=by
 obtain⟨f1,f2,f3,f4,f5,f6,f7⟩:=J0f (J0o h).1;refine⟨X7n g,?_,f2⟩;have:mxV g<=16*(g.ids.length:Int)-2:=by
  refine Q7H (by omega) fun a ha=>?_;obtain⟨v,hv,rfl⟩:=List.mem_map.1 ha;have:=J78 h (List.mem_range.1 hv);omega
 omega
end Go.Proofs.YtmifmchinfhbnaaGreatDoor
namespace Go.Proofs.YtmifmchinfhbnaaGreatDoor
open Go.Eng Go.Plain
set_option maxRecDepth 100000
set_option linter.unusedVariables false
theorem Q6w {g:G} {d d':Nat->Int} {v:Nat} (h:∀l∈gR g.ports v,d l.1.toNat=d' l.1.toNat):tgW g d v=tgW g d' v:=by
 have e:(gR g.ports v).map (fun l=>exI g (d l.1.toNat) l.2)=(gR g.ports v).map (fun l=>exI g (d' l.1.toNat) l.2):=List.map_congr_left fun l hl=>by rw[h l hl]
 have em:mnW g d v=mnW g d' v:=by rw[mnW,mnW,e]
 rw[tgW,tgW,em,J9J (q:=fun l=>decide (exI g (d' l.1.toNat) l.2=mnW g d' v)) (fun l hl=>by simp only[h l hl])]
def muW (g:G) (c:Cf):Nat:=(if (enN J0q g c).testBit 0=true then 2 else 0)+(if (enN J0q g c).testBit 1=true then 1 else 0)
theorem X4B (hp:J2M J0q) {g:G} (h:g.conn=true) (h2:g.ids.length<=2) {c:Cf} (hc:J1G J0q g c) {s:Nat} (hs:J7L J0q g 3 c s):muW g (J0A J0q g c s)<muW g c:=by
 obtain⟨hg,_⟩:=J0o h;obtain⟨f1,f2,f3,f4,f5,f6,f7⟩:=J0f hg;have hc':=J1s hp hg hc hs.part;have hst:=J8X hg hc hs.part;have hlt:∀v,s.testBit v=true->v<g.ids.length:=fun v hv=>by
  have:=hs.part v hv;rw[J46,Bool.and_eq_true,decide_eq_true_eq] at this;exact this.1
 have en_iff:∀{c:Cf},J1G J0q g c->∀v,v<g.ids.length->((enN J0q g c).testBit v=true↔(dC c v,pC c v)≠tgW g (dC c) v):=fun hc v hv=>by
  rw[J6u hg hc hv,<- J2T];exact Iff.rfl
 have en_hi:∀{c:Cf} v,g.ids.length<=v->(enN J0q g c).testBit v=false:=fun v hv=>by
  cases e:(enN J0q g _).testBit v with
  | false=>rfl
  | true=>rw[J46,Bool.and_eq_true,decide_eq_true_eq] at e;omega
 have t0:∀d,tgW g d 0=(0,-1):=fun d=>by rw[tgW,if_pos rfl]
 by_cases s0:s.testBit 0=true
 . have e0:(enN J0q g c).testBit 0=true:=hs.part 0 s0;have e0':(enN J0q g (J0A J0q g c s)).testBit 0=false:=by
    cases e:(enN J0q g (J0A J0q g c s)).testBit 0 with
    | false=>rfl
    | true =>
      exfalso;refine(en_iff hc' 0 (by omega)).1 e ?_;rw[t0];have:=(hst 0 (by omega)).1 s0 (J2T.2 ((J6u hg hc (by omega)).1 e0));rw[show(stX c).d=dC c from rfl,t0] at this;exact this
   have b1:(if (enN J0q g (J0A J0q g c s)).testBit 1=true then 1 else 0:Nat)<=1:=by split<;>omega
   rw[muW,muW,e0,e0',if_neg (by decide),if_pos rfl];omega
 . have s0':s.testBit 0=false:=by simpa using s0
   have s1:s.testBit 1=true:=by
    apply Classical.byContradiction;intro q;refine hs.ne (Nat.eq_of_testBit_eq fun v=>?_);rw[Nat.zero_testBit];cases e:s.testBit v with
    | false=>rfl
    | true =>
      have:=hlt v e;rcases (show v=0\/v=1 by omega) with rfl|rfl
      . exact(s0 e).elim
      . exact(q e).elim
   have h1:=hlt 1 s1;have e1:(enN J0q g c).testBit 1=true:=hs.part 1 s1;have hk0:=(hst 0 (by omega)).2 (.inl s0');have d0:dC (J0A J0q g c s) 0=dC c 0:=hk0.1;have tg1:tgW g (dC (J0A J0q g c s)) 1=tgW g (dC c) 1:=Q6w fun l hl=>by
    have hok:=(J0B.1 (f6 1 (by omega))).1 l hl;have:l.1.toNat=0:=by omega
    rw[this,d0]
   have e1':(enN J0q g (J0A J0q g c s)).testBit 1=false:=by
    cases e:(enN J0q g (J0A J0q g c s)).testBit 1 with
    | false=>rfl
    | true =>
      exfalso;refine(en_iff hc' 1 h1).1 e ?_;rw[tg1];exact(hst 1 h1).1 s1 (J2T.2 ((J6u hg hc h1).1 e1))
   have e0:(enN J0q g (J0A J0q g c s)).testBit 0=(enN J0q g c).testBit 0:=by
    have a:=en_iff hc' 0 (by omega);have b:=en_iff hc 0 (by omega);rw[t0,d0,show pC (J0A J0q g c s) 0=pC c 0 from hk0.2] at a;rw[t0] at b;cases x:(enN J0q g (J0A J0q g c s)).testBit 0<;>cases y:(enN J0q g c).testBit 0<;>simp_all
   rw[muW,muW,e0,e1,e1'];simp
theorem X3D (hp:J2M J0q) {g:G} (h:g.conn=true) (h2:g.ids.length<=2):Srv J0q g 3 g.xleg (mxV g+1) (-1) (XIn g) where
 closed c s hc hl hs:=Q51 h hc hl hs.part (J1s hp (J0o h).1 hc hs.part)
 en c hc hl:=X3z h hc hl
 start c hc _:=Q54 h hc
 step c n s hc hi hl hs hl':=Q3e h hc hi hs.part (J1s hp (J0o h).1 hc hs.part) (Q53 h (J1s hp (J0o h).1 hc hs.part) hl')
 rounds c n hc hi _:=by have:=hi.hr;omega
 moves hM:=by omega
 ends:=by
  have key:∀t c,J1G J0q g c->Lng J0q g 3 g.xleg t c->t<=muW g c:=by
   intro t
   induction t with
   | zero=>intro c _ _;exact Nat.zero_le _
   | succ t ih =>
     intro c hc hL;cases hL with
     | step s hs hl hn =>
       have:=ih _ (J1s hp (J0o h).1 hc hs.part) hn;have:=X4B hp h h2 hc hs;omega
  refine⟨4,fun c hc _ hL=>?_⟩;have:=key 4 c hc hL;rw[muW] at this;split at this<;>split at this<;>omega
end Go.Proofs.YtmifmchinfhbnaaGreatDoor
namespace Go.Proofs.YtmifmchinfhbnaaGreatDoor
open Go.Eng
set_option maxRecDepth 100000
set_option linter.unusedVariables false
theorem Q9O {g:G} (hg:g.valid=true) {w:Int} (h0:0<=w) (h1:w<=15):0<=w*(g.ids.length:Int)/\w*(g.ids.length:Int)<=360:=by
 obtain⟨f1,f2,f3,f4,f5,f6,f7⟩:=J0f hg;obtain⟨k,rfl⟩:∃k:Nat,w=(k:Int):=⟨w.toNat,by omega⟩;have:k*g.ids.length<=15*24:=Nat.mul_le_mul (by omega) f2;have e:((k:Int)*(g.ids.length:Int))=((k*g.ids.length:Nat):Int):=by push_cast;rfl
 rw[e];omega
theorem J4E (g:G) (hg:g.valid=true) (y:Int) (hy:0<=y/\y<=1073741824) (l:Int×Int) (hl:0<=l.2/\l.2<=15) :
 Ret Tryz.prog 40 [.int .i64 g.ids.length,.int .i64 y,.agg [.int .i64 l.1,.int .i64 l.2]] (.int .i64 (exI g y l.2)):=by
 have hw:=Q9O hg hl.1 hl.2;refine J0h rfl ?_;refine J0d J0b Tryz.func40 rfl hc40 hr40 rfl ?_
 repeat' ((conv=>whnf);first|(refine Ar.i64 (by omega) (by omega) ?_)|(refine Sv.mk _ rfl ?_))
 all_goals (conv=>whnf)
 exact VLe.of_eq rfl
def X05 (n:Nat) (k:Nat):Nat->Nat->V:=fun i _=>.int .i64 (if 1<=i/\i<k+1 then 16*n else 0)
def X4S (n:Nat) (b:Int):List Int:=(List.range n).map fun v=>if v=0 then 0 else b
theorem X06 (n:Nat) (b:Int):(X4S n b).length=n:=by simp[X4S]
theorem J9E {n:Nat} (b:Int) {v:Nat} (h:v<n):gI (X4S n b) v=if v=0 then 0 else b:=by simp[X4S,gI,List.getD,h]
def clE:Env->List Nat->Env
 | [],_=>[]
 | (t,v)::r,seen=>match J1c t seen with
   | true=>clE r seen
   | false=>(t,v)::clE r (t::seen)
def clB:Blk->Blk
 | .loop st pe env N ps C=>.loop st pe (clE env []) N ps C
 | b=>b
def clO:Own->Own
 | []=>[]
 | (k,b)::r=>(k,clB b)::clO r
theorem Q8b (n i j:Nat) (hj:j<1):VLe ((fun(_:Nat) j=>[V.int .i64 0].getD j default) i j) (X05 n 0 i j):=by
 obtain rfl:j=0:=by omega
 apply VLe.of_eq;rw[X05,if_neg (by omega)];rfl
theorem X04 (n k i j:Nat) (hj:j<1):VLe (J00 (X05 n k) (k+1) 0 [.int .i64 (16*(n:Int))] i j) (X05 n (k+1) i j):=by
 obtain rfl:j=0:=by omega
 apply VLe.of_eq;by_cases h:i=k+1
 . subst h;simp[J00,X05]
 . simp only[J00,X05];rw[if_neg (by simp[h])];congr 1;by_cases h2:1<=i/\i<k+1
   . rw[if_pos h2,if_pos (by omega)]
   . rw[if_neg h2,if_neg (by omega)]
theorem Q4f (n i j:Nat) (hn:1<=n) (hi:i<n) (hj:j<1):VLe (X05 n (n-1) i j) (vI (X4S n (16*n)) i j):=by
 obtain rfl:j=0:=by omega
 apply VLe.of_eq;simp only[X05,vI];rw[J9E _ hi];congr 1;by_cases h:i=0
 . subst h;simp
 . rw[if_pos (by omega),if_neg h]
set_option maxHeartbeats 16000000 in
theorem Q0j (g:G) (hs:g.Small) (hgc:g.conn=true):Ret Tryz.prog 23 [g.v] (.fz (J2f g).length 1 false (vI (J2f g))):=by
 obtain⟨hg,_⟩:=J0o hgc;obtain⟨f1,f2,f3,f4,f5,f6,f7⟩:=J0f hg;refine J0h rfl ?_;refine J0d J0b Tryz.func23 rfl hc23 hr23 rfl ?_
 repeat' ((conv=>whnf);first|(refine Bd.nat (by omega) ?_)|(refine Len.mk (by omega) ?_)|(refine MkS.vec ?_))
 all_goals (conv=>whnf)
 refine J0u J0b [1,3,4] [] [4,5,6,7,8,9,10,11,12,13,14,15,16,17,18,19,20,21,22,23,24,25,26,27,28,29] [3,2,1,0] (fun k:Nat=>[(5,.int .i64 ((k:Int)+1))]) (fun own k=>J1l own 2 (.vec g.ids.length 1 (X05 g.ids.length k))) (fun m k=>m=g.ids.length-1-k/\k<=g.ids.length-1) (g.ids.length-1) 0 ⟨rfl,Nat.zero_le _⟩ rfl (fun _=>rfl) ?_ ?_
 . refine J0c (fun _ _=>[(0,some 0),(1,some 1),(2,some 2),(3,some 3)]) ?_ ?_ rfl
   . repeat' (first|exact True.intro|(refine⟨⟨_,rfl,?_⟩,?_⟩)|exact J0a.kf rfl|exact J0a.loc rfl)
   . repeat' (first|exact⟨Nat.le_refl _,rfl,fun i j hi hj=>Q8b _ i j hj⟩|exact True.intro|(refine⟨⟨_,rfl,?_⟩,?_⟩)|exact J0a.kf rfl|exact J0a.vec rfl rfl rfl|(refine And.intro ?_ ?_))
 rintro m k ⟨hm,hk⟩;by_cases hkn:k<g.ids.length-1
 . repeat' ((conv=>whnf);first|(refine Ix.mk (k+1) (by omega) (by omega) ?_)|(refine Br.dec ?_ ?_<;>intro _<;>try omega)|(refine Ar.i64 (by omega) (by omega) ?_)|(refine Ltn.mk (by omega) ?_))
   all_goals (conv=>whnf)
   refine⟨g.ids.length-1-(k+1),k+1,by omega,⟨rfl,by omega⟩,?_⟩;refine J0c (fun _ _=>[(0,some 0),(1,some 1),(2,some 2),(3,some 3)]) ?_ ?_ rfl
   . repeat' (first|exact True.intro|(refine⟨⟨_,rfl,?_⟩,?_⟩)|exact J0a.kf rfl|exact J0a.loc rfl)
   . repeat' (first|exact⟨Nat.le_refl _,rfl,fun i j hi hj=>by simp only[Nat.zero_add];exact X04 _ k i j hj⟩|exact True.intro|(refine⟨⟨_,rfl,?_⟩,?_⟩)|exact J0a.kf rfl|exact J0a.vec rfl rfl rfl|(refine And.intro ?_ ?_))
 . have ek:k=g.ids.length-1:=by omega
   subst ek
   repeat' ((conv=>whnf);first|(refine Br.dec ?_ ?_<;>intro _<;>try omega))
   all_goals (conv=>whnf)
   have hlen0:=X06 g.ids.length (16*(g.ids.length:Int));have hin0:VIn g 0 (X4S g.ids.length (16*(g.ids.length:Int))):=VIn.start hgc hlen0 (by rw[J9E _ (by omega)];rfl) (fun v hv h0=>by rw[J9E _ hv,if_neg h0];omega);refine J0u J0b [1,3,4,23] [] [4,5,6,7,8,9,10,11,12,13,14,15,16,17,18,19,20,21,22,23,24,25,26,27,28,29] [3,2,1,0] (fun p:Nat×List Int=>[(24,.int .i64 p.1)]) (fun own p=>J1l own 2 (.vec g.ids.length 1 (vI p.2))) (fun m p=>m=g.ids.length-p.1/\p.1<=g.ids.length/\VIn g p.1 p.2) g.ids.length (0,X4S g.ids.length (16*(g.ids.length:Int))) ⟨rfl,Nat.zero_le _,hin0⟩ rfl (fun _=>rfl) ?_ ?_
   . refine J0c (fun _ _=>[(0,some 0),(1,some 1),(2,some 2),(3,some 3)]) ?_ ?_ rfl
     . repeat' (first|exact True.intro|(refine⟨⟨_,rfl,?_⟩,?_⟩)|exact J0a.kf rfl|exact J0a.loc rfl)
     . repeat' (first|exact⟨Nat.le_refl _,rfl,fun i j hi hj=>by first|exact Q4f _ i j f1 hi hj|(simp only[Nat.zero_add];exact Q4f _ i j f1 hi hj)⟩|exact True.intro|(refine⟨⟨_,rfl,?_⟩,?_⟩)|exact J0a.kf rfl|exact J0a.vec rfl rfl rfl|(refine And.intro ?_ ?_))
   rintro m ⟨r,x⟩ ⟨hm,hr,hI⟩;simp only at hm hr hI;by_cases hrn:r<g.ids.length
   . dsimp only
     repeat' ((conv=>whnf);first|(refine Br.dec ?_ ?_<;>intro _<;>try omega)|(refine J0d J0b Tryz.func58 rfl hc58 hr58 rfl ?_)|(refine J1z ?_)|(refine Chk.mk (by kernel_rfl) ?_)|(refine J0d J0b Tryz.func100 rfl X7F X7D rfl ?_))
     all_goals (conv=>whnf)
     refine J0u J0b [0,8,9] [] [6,7,8,9,10,11,12,13,14,15,16,17,18,19,20,21,22,23,24,25,26,27,28,29] [5,4,3,2,1,0] (fun p:Nat×List Int=>[(10,.int .i64 p.1)]) (fun own p=>clO (J1l own 2 (.vec g.ids.length 1 (vI p.2)))) (fun m p=>m=g.ids.length-p.1/\p.1<=g.ids.length/\VPs g r p.1 0 p.2) g.ids.length (0,x) ⟨rfl,Nat.zero_le _,VPs.start hI⟩ rfl (fun _=>rfl) ?_ ?_
     . refine J0c (fun _ _=>[(0,some 0),(1,some 1),(2,some 2),(3,some 3),(4,some 4),(5,some 5)]) ?_ ?_ rfl
       . repeat' (first|exact J0a.yld rfl|exact True.intro|(refine⟨⟨_,rfl,?_⟩,?_⟩)|exact J0a.kf rfl)
       . repeat' (first|(refine J0a.fn ?_)|(refine⟨rfl,rfl,rfl,rfl,rfl,?_⟩)|exact⟨Nat.le_refl _,rfl,fun i j hi hj=>VLe.rfl⟩|exact True.intro|(refine⟨⟨_,rfl,?_⟩,?_⟩)|exact J0a.kf rfl|exact J0a.loc rfl|exact J0a.vec rfl rfl rfl|(refine And.intro ?_ ?_))
     rintro m ⟨v,y⟩ ⟨hm2,hv,hP⟩;simp only at hm2 hv hP;by_cases hvn:v<g.ids.length
     . dsimp only;have hrl:=J9l hg v
       repeat' ((conv=>whnf);first|(refine Br.dec ?_ ?_<;>intro _<;>try omega)|(refine Ix.nat (by omega) ?_))
       all_goals (conv=>whnf)
       refine J0u J0b [0,3,8,9,10,15,16] [] [6,7,8,9,10,11,12,13,14,15,16,17,18,19,20,21,22,23,24,25,26,27,28,29] [5,4,3,2,1,0] (fun p:Nat×List Int=>[(17,.int .i64 p.1)]) (fun own p=>clO (J1l own 2 (.vec g.ids.length 1 (vI p.2)))) (fun m p=>m=(gR g.ports v).length-p.1/\p.1<=(gR g.ports v).length/\VPs g r v p.1 p.2) (gR g.ports v).length (0,y) ⟨rfl,Nat.zero_le _,hP⟩ rfl (fun _=>rfl) ?_ ?_
       . refine J0c (fun _ _=>[(0,some 0),(1,some 1),(2,some 2),(3,some 3),(4,some 4),(5,some 5)]) ?_ ?_ rfl
         . repeat' (first|exact J0a.yld rfl|exact True.intro|(refine⟨⟨_,rfl,?_⟩,?_⟩)|exact J0a.kf rfl)
         . repeat' (first|(refine J0a.fn ?_)|(refine⟨rfl,rfl,rfl,rfl,rfl,?_⟩)|exact⟨Nat.le_refl _,rfl,fun i j hi hj=>VLe.rfl⟩|exact True.intro|(refine⟨⟨_,rfl,?_⟩,?_⟩)|exact J0a.kf rfl|exact J0a.loc rfl|exact J0a.vec rfl rfl rfl|(refine And.intro ?_ ?_))
       rintro m ⟨i,z⟩ ⟨hm3,hi,hQ⟩;simp only at hm3 hi hQ;by_cases hin:i<(gR g.ports v).length
       . dsimp only;have hok:=(J0B.1 (f6 v (by omega))).1 _ (J2X hin);have hb:=hQ.base;have hzl:=hb.len;have hlo:=hb.low (gF (gR g.ports v) i).1.toNat (by omega);have hto:=hb.top (gF (gR g.ports v) i).1.toNat (by omega);have hext:=J4E g hg (gI z (0+(gF (gR g.ports v) i).1.toNat)) ⟨by rw[Nat.zero_add];omega,by rw[Nat.zero_add];exact hto⟩ (gF (gR g.ports v) i) ⟨by omega,by omega⟩
         repeat' ((conv=>whnf);first|(refine Ix.mk (gF (gR g.ports v) i).1.toNat (by omega) (by omega) ?_)|(refine Br.tt ?_)|(refine Br.dec ?_ ?_<;>intro _<;>try omega)|(refine Ar.i64 (by omega) (by omega) ?_)|(refine Sv.mk _ rfl ?_)|(refine Ix.nat (by omega) ?_)|(refine Ltn.mk (by omega) ?_)|(refine hext.go ?_)|(refine J1f J0b rfl rfl ?_)|(refine And.intro rfl ?_)|(refine And.intro (Ltn.mk (by omega) rfl) ?_))
         all_goals (conv=>whnf)
         refine⟨(gR g.ports v).length-(i+1),(i+1,Q62 g z v (gF (gR g.ports v) i)),by omega,⟨rfl,by omega,hQ.step hgc hvn hin⟩,?_⟩;refine J0c (fun _ _=>[(0,some 0),(1,some 1),(2,some 2),(3,some 3),(4,some 4),(5,some 5)]) ?_ ?_ rfl
         . repeat' (first|exact J0a.yld rfl|exact True.intro|(refine⟨⟨_,rfl,?_⟩,?_⟩)|exact J0a.kf rfl)
         . repeat' (first|(refine J0a.fn ?_)|(refine⟨rfl,rfl,rfl,rfl,rfl,?_⟩)|exact⟨Nat.le_refl _,rfl,fun i j hi hj=>by simp only[Nat.zero_add];exact Q6c z v _ _ _ (by omega) hj⟩|exact True.intro|(refine⟨⟨_,rfl,?_⟩,?_⟩)|exact J0a.kf rfl|exact J0a.loc rfl|exact J0a.vec rfl rfl rfl|(refine And.intro ?_ ?_))
       . repeat' ((conv=>whnf);first|(refine Br.dec ?_ ?_<;>intro _<;>try omega)|(refine Ar.i64 (by omega) (by omega) ?_))
         all_goals (conv=>whnf)
         refine⟨g.ids.length-(v+1),(v+1,z),by omega,⟨rfl,by omega,?_⟩,?_⟩
         . have e:i=(gR g.ports v).length:=by omega
           subst e;exact hQ.row hgc hvn
         . refine J0c (fun _ _=>[(0,some 0),(1,some 1),(2,some 2),(3,some 3),(4,some 4),(5,some 5)]) ?_ ?_ rfl
           . repeat' (first|exact J0a.yld rfl|exact True.intro|(refine⟨⟨_,rfl,?_⟩,?_⟩)|exact J0a.kf rfl)
           . repeat' (first|(refine J0a.fn ?_)|(refine⟨rfl,rfl,rfl,rfl,rfl,?_⟩)|exact⟨Nat.le_refl _,rfl,fun i j hi hj=>VLe.rfl⟩|exact True.intro|(refine⟨⟨_,rfl,?_⟩,?_⟩)|exact J0a.kf rfl|exact J0a.loc rfl|exact J0a.vec rfl rfl rfl|(refine And.intro ?_ ?_))
     . repeat' ((conv=>whnf);first|(refine Br.dec ?_ ?_<;>intro _<;>try omega)|(refine Ar.i64 (by omega) (by omega) ?_))
       all_goals (conv=>whnf)
       refine⟨g.ids.length-(r+1),(r+1,y),by omega,⟨rfl,by omega,hP.over (by omega)⟩,?_⟩;refine J0c (fun _ _=>[(0,some 0),(1,some 1),(2,some 2),(3,some 3)]) ?_ ?_ rfl
       . repeat' (first|exact True.intro|(refine⟨⟨_,rfl,?_⟩,?_⟩)|exact J0a.kf rfl|exact J0a.loc rfl)
       . repeat' (first|exact⟨Nat.le_refl _,rfl,fun i j hi hj=>VLe.rfl⟩|exact True.intro|(refine⟨⟨_,rfl,?_⟩,?_⟩)|exact J0a.kf rfl|exact J0a.vec rfl rfl rfl|(refine And.intro ?_ ?_))
   . repeat' ((conv=>whnf);first|(refine Br.dec ?_ ?_<;>intro _<;>try omega)|(refine Len.mk (by omega) ?_))
     all_goals (conv=>whnf)
     have er:r=g.ids.length:=by omega
     subst er;have hx:=hI.done;subst hx;exact VLe.fz (J2O g).symm (fun h=>h) (fun i j hi hj=>VLe.of_eq (by simp[J0l]))
def clmX (m:Int):V:=.agg [.int .i64 3,.bool false,.bool true,.int .i64 (m+1),.int .i64 (-1)]
theorem J8q:∀(l:List Int) (m:Int) (i:Nat),J26 l m=J26 (l.drop i) (J26 (l.take i) m)
 | [],m,i=>by simp[J26]
 | a::r,m,0=>by simp[J26]
 | a::r,m,i+1=>by
   rw[List.drop_succ_cons,List.take_succ_cons,J26,J26];exact J8q r _ i
theorem Q05 {l:List Int} {m:Int} {i:Nat} (h:i<l.length):J26 (l.take (i+1)) m=if J26 (l.take i) m<gI l i then gI l i else J26 (l.take i) m:=by
 rw[J8q (l.take (i+1)) m i,List.take_take,Nat.min_eq_left (by omega)];have e:(l.take (i+1)).drop i=[gI l i]:=by
  rw[List.take_succ_eq_append_getElem h,List.drop_append,List.drop_of_length_le (by simp;omega)];simp[gI,List.getD,h,Nat.min_eq_left (by omega:i<=l.length)]
 rw[e,J26,J26]
theorem X35 (l:List Int) (h0:0<l.length) (hl:l.length<=9223372036854775807) (hp:0<=gI l 0):Ret Tryz.prog 22 [.fz l.length 1 false (vI l)] (.int .i64 (J26 l 0)):=by
 refine J0h rfl ?_;refine J0d J0b Tryz.func22 rfl hc22 hr22 rfl ?_
 repeat' ((conv=>whnf);first|(refine Br.dec ?_ ?_<;>intro _<;>try omega)|(refine Ix.nat (by omega) ?_))
 all_goals (conv=>whnf)
 have e1:J26 (l.take 1) 0=gI l 0:=by
  rw[Q05 (i:=0) (by omega)];simp only[List.take_zero,J26];split<;>omega
 refine J1a J0b [0] (fun i:Nat=>[(3,.int .i64 (J26 (l.take (i+1)) 0)),(4,.int .i64 ((i:Int)+1))]) (fun m i=>m=l.length-1-i/\i+1<=l.length) (l.length-1) 0 ⟨rfl,by omega⟩ ?_ ?_
 . refine J0c (fun _ _=>[]) ?_ ?_ rfl
   . repeat' (first|exact J0a.int (by rw[e1])|exact True.intro|(refine⟨⟨_,rfl,?_⟩,?_⟩)|exact J0a.kf rfl)
   . repeat' (first|exact True.intro)
 rintro m i ⟨hm,hi⟩;by_cases hil:i+1<l.length
 . repeat' ((conv=>whnf);first|(refine Ix.mk (i+1) (by omega) (by omega) ?_)|(refine Br.dec ?_ ?_<;>intro _<;>try omega)|(refine Ar.i64 (by omega) (by omega) ?_)|(refine Sv.mk _ rfl ?_))
   all_goals (conv=>whnf)
   refine⟨l.length-1-(i+1),i+1,by omega,⟨rfl,by omega⟩,?_⟩;refine J0c (fun _ _=>[]) ?_ ?_ rfl
   . repeat' (first|exact J0a.int (by rw[Q05 hil])|exact True.intro|(refine⟨⟨_,rfl,?_⟩,?_⟩)|exact J0a.kf rfl)
   . repeat' (first|exact True.intro)
 . repeat' ((conv=>whnf);first|(refine Br.dec ?_ ?_<;>intro _<;>try omega))
   all_goals (conv=>whnf)
   have:i+1=l.length:=by omega
   rw[this,List.take_length];exact VLe.rfl
theorem Q7C {g:G} (h:g.conn=true):0<(J2f g).length/\(J2f g).length<=24/\gI (J2f g) 0=0:=by
 obtain⟨f1,f2,f3,f4,f5,f6,f7⟩:=J0f (J0o h).1;refine⟨by rw[J2O];omega,by rw[J2O];exact f2,?_⟩;rw[J3u (by omega),J5g];rfl
theorem Q4Y (g:G) (hs:g.Small) (hgc:g.conn=true):Ret Tryz.prog 7 [g.v] (clmX (mxV g)):=by
 have hf:=Q3i g hs;have hv:=Q0j g hs hgc;obtain⟨m1,m2,m3⟩:=Q7C hgc;have hm:=X35 (J2f g) m1 (by omega) (by omega);rw[show J26 (J2f g) 0=mxV g from rfl] at hm;obtain⟨t1,t2,t3⟩:=X2I hgc;rw[hgc] at hf;refine J0h rfl ?_;refine J0d J0b Tryz.func7 rfl hc7 hr7 rfl ?_
 repeat' ((conv=>whnf);first|(refine Br.tt ?_)|(refine Ar.i64 (by omega) (by omega) ?_)|(refine hf.go ?_)|(refine hv.go ?_)|(refine hm.go ?_))
 all_goals (conv=>whnf)
 exact VLe.rfl
def btL (c:Cf):List Int:=c.map fun r=>(gI r 0).tdiv c.length
theorem X5R (c:Cf):(btL c).length=c.length:=by simp[btL]
theorem X5S (c:Cf) {v:Nat} (h:v<c.length):gI (btL c) v=(gI (gC c v) 0).tdiv c.length:=by simp[btL,gI,gC,List.getD,h]
def G.botX (g:G) (c:Cf):List Int:=if g.conn&&g.xconf c then btL c else[]
def btF (c:Cf) (v:Nat):Nat->Nat->V:=fun i _=>.int .i64 (if i<v then gI (btL c) i else 0)
theorem X5T (c:Cf) (v i t:Nat) (x:Int) (hx:x=gI (btL c) v) (ht:t<1):VLe (J00 (btF c v) v 0 [.int .i64 x] i t) (btF c (v+1) i t):=by
 obtain rfl:t=0:=by omega
 apply VLe.of_eq;by_cases e:i=v
 . subst e;simp[J00,btF,hx]
 . have:(i<v+1)=(i<v):=by simp;omega
   simp[J00,btF,e,this]
theorem X0e {a:Int} {n:Nat} (h0:0<=a) (h1:a<=1000):0<=a.tdiv n/\a.tdiv n<=1000:=by
 rw[Int.tdiv_eq_ediv_of_nonneg h0];exact⟨Int.ediv_nonneg h0 (Int.natCast_nonneg _),Int.le_trans (Int.ediv_le_self _ h0) h1⟩
set_option maxHeartbeats 4000000 in
theorem Q17 (g:G) (hs:g.Small) (c:Cf) (hc:J7N c):Ret Tryz.prog 51 [g.v,cV c] (.fz (g.botX c).length 1 false (vI (g.botX c))):=by
 have hcf:=J2N g hs c hc;have hcl:=hc.len;refine J0h rfl ?_;refine J0d J0b Tryz.func51 rfl hc51 hr51 rfl ?_;by_cases h:(g.conn&&g.xconf c)=true
 . rw[h] at hcf;rw[G.botX,if_pos h,X5R];rw[Bool.and_eq_true] at h;obtain⟨e1,e2⟩:=J6r h.2;obtain⟨f1,f2,f3,f4,f5,f6,f7⟩:=J0f (J0o h.1).1
   repeat' ((conv=>whnf);first|(refine Br.tt ?_)|(refine Bd.nat (by omega) ?_)|(refine Len.mk (by omega) ?_)|(refine MkS.vec ?_)|(refine hcf.go ?_))
   all_goals (conv=>whnf)
   refine J0u J0b [1,5,15,16] [] [2,3,4,5,6,7,8,9,10,11,12,13,14,15,16,17,18,19,20,21,22,23,24,25,26,27,28,29] [1,0] (fun v:Nat=>[(17,.int .i64 v)]) (fun own v=>J1l own 1 (.vec c.length 1 (btF c v))) (fun m v=>m=c.length-v/\v<=c.length) c.length 0 ⟨rfl,Nat.zero_le _⟩ rfl (fun _=>rfl) ?_ ?_
   . refine J0c (fun _ _=>[(0,some 0),(1,some 1)]) ?_ ?_ rfl
     . repeat' (first|exact True.intro|(refine⟨⟨_,rfl,?_⟩,?_⟩)|exact J0a.kf rfl|exact J0a.vec rfl rfl rfl)
     . repeat' (first|(refine⟨Nat.le_refl _,rfl,fun i j hi hj=>VLe.of_eq ?_⟩;obtain rfl:j=0:=(by omega);rfl)|exact True.intro|(refine⟨⟨_,rfl,?_⟩,?_⟩)|exact J0a.kf rfl|(refine And.intro ?_ ?_))
   rintro m v ⟨hm,hv⟩;by_cases hvl:v<c.length
   . have hr:=e2 v hvl;have hd:=X0e (n:=c.length) hr.2.1 (by omega)
     repeat' ((conv=>whnf);first|(refine Ar.i64 (by omega) (by omega) ?_)|(refine Br.dec ?_ ?_<;>intro _<;>try omega)|(refine Nz.mk (by omega) ?_)|(refine Ix.nat (by omega) ?_)|(refine Ix.mk 0 rfl (by omega) ?_)|(refine Ltn.mk (by omega) ?_))
     all_goals (conv=>whnf)
     refine⟨c.length-(v+1),v+1,by omega,⟨rfl,by omega⟩,?_⟩;refine J0c (fun _ _=>[(0,some 0),(1,some 1)]) ?_ ?_ rfl
     . repeat' (first|exact True.intro|(refine⟨⟨_,rfl,?_⟩,?_⟩)|exact J0a.kf rfl|exact J0a.vec rfl rfl rfl)
     . repeat' (first|(refine⟨Nat.le_refl _,rfl,fun i j hi hj=>?_⟩;simp only[Nat.zero_add];exact X5T c v i j _ (X5S c hvl).symm hj)|exact True.intro|(refine⟨⟨_,rfl,?_⟩,?_⟩)|exact J0a.kf rfl|(refine And.intro ?_ ?_))
   . have ev:v=c.length:=by omega
     subst ev
     repeat' ((conv=>whnf);first|(refine Br.dec ?_ ?_<;>intro _<;>try omega)|(refine Len.mk (by omega) ?_))
     all_goals (conv=>whnf)
     refine VLe.fz rfl (fun h=>h) (fun i j hi hj=>VLe.of_eq ?_);obtain rfl:j=0:=by omega
     rw[J0v,Nat.zero_add,btF,if_pos hi];rfl
 . rw[G.botX,if_neg h];simp only[Bool.not_eq_true] at h;rw[h] at hcf
   repeat' ((conv=>whnf);first|(refine Br.ff ?_)|(refine hcf.go ?_))
   all_goals (conv=>whnf)
   exact VLe.nilfz rfl
noncomputable def vlV (g:G):V:=.fz (J2f g).length 1 false (vI (J2f g))
def gCs (g:G):List V:=[.fz g.ids.length 1 false (vI g.ids),.fz g.ports.length 1 false (vP g.ports)]
noncomputable def X8k (g:G) (v:Nat) (l:Int×Int):Bool:=decide (exI g (gI (J2f g) l.1.toNat) l.2=gI (J2f g) v)
theorem X3M {g:G} (h:g.conn=true) {v:Nat} (hv:v<g.ids.length) (h0:v≠0):upW g v=fpI (X8k g v) 0 (gR g.ports v):=by
 obtain⟨f1,f2,f3,f4,f5,f6,f7⟩:=J0f (J0o h).1;rw[upW,if_neg h0];refine J9J fun l hl=>?_;have hok:=(J0B.1 (f6 v (by omega))).1 l hl;rw[X8k,J3u hv,J3u (show l.1.toNat<g.ids.length by omega)]
theorem Q93 {g:G} (h:g.conn=true) (v:Nat):0<=gI (J2f g) v/\gI (J2f g) v<=400:=by
 obtain⟨f1,f2,f3,f4,f5,f6,f7⟩:=J0f (J0o h).1;by_cases hv:v<g.ids.length
 . rw[J3u hv];have:=J78 h hv;omega
 . have hl:=J2O g;have:gI (J2f g) v=0:=by simp[gI,List.getD,List.getElem?_eq_none (show(J2f g).length<=v by omega)]
   omega
theorem Q71 (g:G) (hgc:g.conn=true) (v:Nat) (hv:v<g.ports.length) (i:Nat) (hi:i<(gR g.ports v).length) :
 Ret Tryz.prog 39 [.agg [.int .i64 (gF (gR g.ports v) i).1,.int .i64 (gF (gR g.ports v) i).2],.fe 1 2 (tab [gCs g]) 0 0,.fe 1 1 (tab [[vlV g]]) 0 0,.fe 1 1 (tab [[.int .i64 v]]) 0 0] (.bool (X8k g v (gF (gR g.ports v) i))):=by
 obtain⟨hg,_⟩:=J0o hgc;obtain⟨f1,f2,f3,f4,f5,f6,f7⟩:=J0f hg;have hok:=(J0B.1 (f6 v (by omega))).1 _ (J2X hi);have hr:=Q7m (f6 v hv) hi;have hl:=J2O g;have hy:=Q93 hgc (0+(gF (gR g.ports v) i).1.toNat);have hext:=J4E g hg (gI (J2f g) (0+(gF (gR g.ports v) i).1.toNat)) ⟨by omega,by omega⟩ (gF (gR g.ports v) i) ⟨by omega,by omega⟩;have hext2:=J4E g hg (gI (J2f g) (gF (gR g.ports v) i).1.toNat) ⟨by rw[Nat.zero_add] at hy;omega,by rw[Nat.zero_add] at hy;omega⟩ (gF (gR g.ports v) i) ⟨by omega,by omega⟩;refine J0h rfl ?_;refine J0d J0b Tryz.func39 rfl hc39 hr39 rfl ?_
 repeat' ((conv=>whnf);first|(refine Br.dec ?_ ?_<;>intro _<;>try omega)|(refine Ix.nat (by omega) ?_)|(refine Ix.int (by omega) (by omega) ?_)|(refine hext2.go ?_)|(refine And.intro rfl ?_))
 all_goals (conv=>whnf)
 . rename_i h;exact VLe.bool (decide_eq_true (by simpa using h)).symm
 . rename_i h;exact VLe.bool (decide_eq_false (by simpa using h)).symm
theorem X6w (g:G) (hgc:g.conn=true) (v:Nat) (hv:v<g.ports.length) (h0:v≠0) :
 J0G Tryz.prog 38 [g.v,.int .i64 v,.fn (.func 39) false [.loc 2 0,.loc 1 0,.loc 0 0]] [(2,.cells (gCs g)),(1,.cells [vlV g]),(0,.cells [.int .i64 v])] [3,4,5,6,7,8,9,10,11,12,13,14,15,16,17,18,19,20,21,22,23,24,25,26,27,28,29] fun X own' _=>X=.int .i64 (upW g v)/\own'=[(2,.cells (gCs g)),(1,.cells [vlV g]),(0,.cells [.int .i64 v])]:=by
 obtain⟨hg,_⟩:=J0o hgc;obtain⟨f1,f2,f3,f4,f5,f6,f7⟩:=J0f hg;have hup:=X3M hgc (show v<g.ids.length by omega) h0;have hrl:=J9l hg v;refine J1u ?_;refine J0d J0b Tryz.func38 rfl hc38 hr38 rfl ?_
 repeat' ((conv=>whnf);first|(refine Ix.nat (by omega) ?_))
 all_goals (conv=>whnf)
 refine J1a J0b [2,13,14] (fun i:Nat=>[(15,.int .i64 i)]) (fun m i=>m=(gR g.ports v).length-i/\i<=(gR g.ports v).length/\∀l∈(gR g.ports v).take i,X8k g v l=false) (gR g.ports v).length 0 ⟨rfl,Nat.zero_le _,by simp⟩ ?_ ?_
 . exact J0k (fun _ _=>[(0,some 0),(1,some 1),(2,some 2),(3,some 3)])
 rintro m i ⟨hm,hi,hall⟩;by_cases hil:i<(gR g.ports v).length
 . have h1:=Q71 g hgc v hv i hil;cases hb:X8k g v (gF (gR g.ports v) i) with
   | true =>
     rw[hb] at h1
     repeat' ((conv=>whnf);first|(refine Br.tt ?_)|(refine Br.dec ?_ ?_<;>intro _<;>try omega)|(refine Ix.nat (by omega) ?_)|(refine Chk.mk (by kernel_rfl) ?_)|(refine J1j h1 rfl ⟨VLe.rfl,VLe.rfl,VLe.rfl,VLe.rfl,True.intro⟩ ?_))
     all_goals (conv=>whnf)
     have e:upW g v=i:=by rw[hup,J7f _ _ 0 i hi hall,X1e hil,fpI,if_pos hb];omega
     exact J1A (fun _=>[(0,some 0),(1,some 1),(2,some 2)]) _ _ ⟨by rw[e],rfl⟩ (J0a.kf rfl) (by repeat' (first|exact True.intro|(refine⟨⟨_,rfl,?_⟩,?_⟩)|exact J0a.kf rfl|(refine And.intro ?_ ?_))) rfl
   | false =>
     rw[hb] at h1
     repeat' ((conv=>whnf);first|(refine Br.ff ?_)|(refine Br.dec ?_ ?_<;>intro _<;>try omega)|(refine Ar.i64 (by omega) (by omega) ?_)|(refine Ix.nat (by omega) ?_)|(refine Chk.mk (by kernel_rfl) ?_)|(refine J1j h1 rfl ⟨VLe.rfl,VLe.rfl,VLe.rfl,VLe.rfl,True.intro⟩ ?_))
     all_goals (conv=>whnf)
     refine⟨(gR g.ports v).length-(i+1),i+1,by omega,⟨rfl,by omega,fun l hl=>?_⟩,?_⟩
     . rw[J28 _ i hil] at hl;rcases List.mem_append.1 hl with h|h
       . exact hall l h
       . simp at h;rw[h];exact hb
     . exact J0k (fun _ _=>[(0,some 0),(1,some 1),(2,some 2),(3,some 3)])
 . repeat' ((conv=>whnf);first|(refine Br.dec ?_ ?_<;>intro _<;>try omega))
   all_goals (conv=>whnf)
   have e:upW g v=-1:=by rw[hup,J7f _ _ 0 i hi hall,List.drop_of_length_le (by omega)];rfl
   exact J1A (fun _=>[(0,some 0),(1,some 1),(2,some 2)]) _ _ ⟨by rw[e],rfl⟩ (J0a.kf rfl) (by repeat' (first|exact True.intro|(refine⟨⟨_,rfl,?_⟩,?_⟩)|exact J0a.kf rfl|(refine And.intro ?_ ?_))) rfl
set_option maxHeartbeats 4000000 in
theorem J73 (g:G) (hs:g.Small) (c:Cf) (hc:J7N c):Ret Tryz.prog 10 [g.v,cV c] (.bool (g.xleg c)):=by
 have h0:=J2N g hs c hc;have hcl:=hc.len;refine J0h rfl ?_;refine J0d J0b Tryz.func10 rfl hc10 hr10 rfl ?_;rw[G.xleg];cases hgc:g.conn&&g.xconf c with
 | false =>
   rw[hgc] at h0
   repeat' ((conv=>whnf);first|(refine Br.ff ?_)|(refine h0.go ?_))
   all_goals (conv=>whnf)
   exact VLe.rfl
 | true =>
   rw[hgc] at h0;rw[Bool.true_and];rw[Bool.and_eq_true] at hgc;obtain⟨h1,_⟩:=J0o hgc.1;obtain⟨f1,f2,f3,f4,f5,f6,f7⟩:=J0f h1;obtain⟨e1,e2⟩:=J6r hgc.2;have hv:=Q0j g hs hgc.1;have hvl:=J2O g
   repeat' ((conv=>whnf);first|(refine Br.tt ?_)|(refine h0.go ?_)|(refine hv.go ?_))
   all_goals (conv=>whnf)
   refine J1a J0b [1,2,5,15,16] (fun i:Nat=>[(17,.int .i64 i)]) (fun m i=>m=c.length-i/\i<=c.length/\∀v,v<i->gI (gC c v) 0=gI (J2f g) v/\gI (gC c v) 1=upW g v) c.length 0 ⟨rfl,Nat.zero_le _,fun v hv=>by omega⟩ ?_ ?_
   . exact J0k (fun _ _=>[(0,some 0),(1,some 1)])
   rintro m i ⟨hm,hi,hall⟩;by_cases hil:i<c.length
   . have hrow:=e2 i hil;have hno:∀a:Prop,(gI (gC c i) 0≠gI (J2f g) i\/gI (gC c i) 1≠upW g i)->VLe (V.bool false) (.bool (X6E g c)):=fun _ q=>VLe.bool (by
      cases e:X6E g c with
      | false=>rfl
      | true =>
        obtain⟨q1,q2⟩:=J87.1 e i hil;rcases q with q|q
        . exact(q q1).elim
        . exact(q q2).elim)
     by_cases hz:i=0
     . have hup:upW g i=-1:=if_pos hz
       repeat' ((conv=>whnf);first|(refine Ix.mk 1 rfl (by omega) ?_)|(refine Br.dec ?_ ?_<;>intro _<;>try omega)|(refine Br.bne ?_ ?_<;>intro _<;>try omega)|(refine Ar.i64 (by omega) (by omega) ?_)|(refine Ix.nat (by omega) ?_)|(refine Ix.mk 0 rfl (by omega) ?_))
       all_goals (conv=>whnf)
       . rename_i h;exact hno True (.inl h)
       . rename_i h;exact hno True (.inr (by rw[hup];exact h))
       . rename_i q1 q2;refine⟨c.length-(i+1),i+1,by omega,⟨rfl,by omega,fun v hv=>?_⟩,?_⟩
         . by_cases e:v=i
           . subst e;exact⟨q1,by rw[hup];exact q2⟩
           . exact hall v (by omega)
         . exact J0k (fun _ _=>[(0,some 0),(1,some 1)])
     . have hfp:=X6w g hgc.1 i (by omega) hz
       repeat' ((conv=>whnf);first|(refine Ix.mk 1 rfl (by omega) ?_)|(refine Br.dec ?_ ?_<;>intro _<;>try omega)|(refine Br.bne ?_ ?_<;>intro _<;>try omega)|(refine Ar.i64 (by omega) (by omega) ?_)|(refine Ix.nat (by omega) ?_)|(refine Ix.mk 0 rfl (by omega) ?_)|(refine J1E [(0,some 2),(1,some 1),(2,some 0)] [] (hfp.mono ?_) ⟨J0a.kf rfl,J0a.int rfl,J0a.fn ⟨J0a.loc rfl,J0a.loc rfl,J0a.loc rfl,True.intro⟩,True.intro⟩ (by repeat' (first|exact True.intro|(refine⟨⟨_,rfl,?_⟩,?_⟩)|exact J0a.kf rfl|(refine And.intro ?_ ?_))) rfl;rintro _ _ _ ⟨rfl,rfl⟩)|(refine Chk.mk rfl ?_))
       all_goals (conv=>whnf)
       . rename_i h;exact hno True (.inl h)
       . rename_i h;exact hno True (.inr h)
       . rename_i q1 q2;refine⟨c.length-(i+1),i+1,by omega,⟨rfl,by omega,fun v hv=>?_⟩,?_⟩
         . by_cases e:v=i
           . subst e;exact⟨q1,q2⟩
           . exact hall v (by omega)
         . exact J0k (fun _ _=>[(0,some 0),(1,some 1)])
   . repeat' ((conv=>whnf);first|(refine Br.dec ?_ ?_<;>intro _<;>try omega))
     all_goals (conv=>whnf)
     exact VLe.bool (J87.2 (fun v hv=>hall v (by omega))).symm
inductive JD (D:List (Nat×Nat)):Nat->Nat->Prop
 | refl (u:Nat):JD D u u
 | edge {u v:Nat} (h:(u,v)∈D):JD D u v
 | symm {u v:Nat} (h:JD D u v):JD D v u
 | trans {u v w:Nat} (h:JD D u v) (h':JD D v w):JD D u w
theorem JD.mono {D D':List (Nat×Nat)} (hs:∀p∈D,p∈D') {u v:Nat} (h:JD D u v):JD D' u v:=by
 induction h with
 | refl u=>exact .refl u
 | edge h=>exact .edge (hs _ h)
 | symm _ ih=>exact .symm ih
 | trans _ _ i1 i2=>exact .trans i1 i2
theorem JD.snoc {D:List (Nat×Nat)} {a b u v:Nat}:JD (D++[(a,b)]) u v↔JD D u v\/(JD D u a/\JD D b v)\/(JD D u b/\JD D a v):=by
 constructor
 . intro h
   induction h with
   | refl u=>exact .inl (.refl u)
   | edge h =>
     rcases List.mem_append.1 h with h|h
     . exact .inl (.edge h)
     . simp at h;obtain⟨rfl,rfl⟩:=h;exact .inr (.inl ⟨.refl _,.refl _⟩)
   | symm _ ih =>
     rcases ih with h | ⟨h1,h2⟩ | ⟨h1,h2⟩
     . exact .inl h.symm
     . exact .inr (.inr ⟨h2.symm,h1.symm⟩)
     . exact .inr (.inl ⟨h2.symm,h1.symm⟩)
   | trans _ _ i1 i2 =>
     rcases i1 with h | ⟨h1,h2⟩ | ⟨h1,h2⟩<;>rcases i2 with k | ⟨k1,k2⟩ | ⟨k1,k2⟩
     . exact .inl (h.trans k)
     . exact .inr (.inl ⟨h.trans k1,k2⟩)
     . exact .inr (.inr ⟨h.trans k1,k2⟩)
     . exact .inr (.inl ⟨h1,h2.trans k⟩)
     . exact .inr (.inl ⟨h1,k2⟩)
     . exact .inl (h1.trans k2)
     . exact .inr (.inr ⟨h1,h2.trans k⟩)
     . exact .inl (h1.trans k2)
     . exact .inr (.inr ⟨h1,k2⟩)
 . intro h;have hm:∀{x y:Nat},JD D x y->JD (D++[(a,b)]) x y:=fun h=>h.mono fun p hp=>List.mem_append.2 (.inl hp);have he:JD (D++[(a,b)]) a b:=.edge (List.mem_append.2 (.inr (by simp)));rcases h with h | ⟨h1,h2⟩ | ⟨h1,h2⟩
   . exact hm h
   . exact((hm h1).trans he).trans (hm h2)
   . exact((hm h1).trans he.symm).trans (hm h2)
def PtI (n:Nat) (D:List (Nat×Nat)) (p:Nat->Int):Prop:=∀u v,u<n->v<n->(p u=p v↔JD D u v)
theorem PtI.start (n:Nat):PtI n [] (fun v=>(v:Int)):=by
 intro u v _ _;constructor
 . intro e;have e:(u:Int)=(v:Int):=e;have:u=v:=by omega
   subst this;exact .refl u
 . intro h;have key:∀{x y:Nat},JD [] x y->x=y:=fun h=>by
    induction h with
    | refl u=>rfl
    | edge h=>simp at h
    | symm _ ih=>exact ih.symm
    | trans _ _ i1 i2=>exact i1.trans i2
   rw[key h]
def joP (p:Nat->Int) (a b:Nat):Nat->Int:=fun v=>if p v=max (p a) (p b) then min (p a) (p b) else p v
theorem PtI.join {n:Nat} {D:List (Nat×Nat)} {p:Nat->Int} (h:PtI n D p) {a b:Nat} (ha:a<n) (hb:b<n):PtI n (D++[(a,b)]) (joP p a b):=by
 intro u v hu hv;rw[JD.snoc,<- h u v hu hv,<- h u a hu ha,<- h b v hb hv,<- h u b hu hb,<- h a v ha hv,joP,joP];generalize p u=x;generalize p v=y;generalize p a=s;generalize p b=t;split<;>split<;>omega
inductive Jn (g:G) (w:Int) (a:Nat):Nat->Prop
 | refl:Jn g w a a
 | step {v:Nat} {l:Int×Int} (hv:v<g.ids.length) (hl:l∈gR g.ports v) (hw:l.2<w) (h:Jn g w a l.1.toNat):Jn g w a v
def ClJ (g:G) (w:Int) (x:Nat->Bool):Prop:=∀v,v<g.ids.length->∀l∈gR g.ports v,l.2<w->x l.1.toNat=true->x v=true
theorem Jn.in_ {g:G} {w:Int} {a:Nat} {x:Nat->Bool} (hc:ClJ g w x) (ha:x a=true) {v:Nat} (h:Jn g w a v):x v=true:=by
 induction h with
 | refl=>exact ha
 | step hv hl hw _ ih=>exact hc _ hv _ hl hw ih
structure J5b (g:G) (u v:Nat) (w:Int):Prop where
 lu:u<g.ids.length
 lv:v<g.ids.length
 mem:((v:Int),w)∈gR g.ports u
theorem J5b.symm {g:G} (hg:g.valid=true) {u v:Nat} {w:Int} (h:J5b g u v w):J5b g v u w:=by
 obtain⟨f1,f2,f3,f4,f5,f6,f7⟩:=J0f hg;have:=f7 u (by rw[f3];exact h.lu) _ h.mem;simp only[Int.toNat_natCast] at this;exact⟨h.lv,h.lu,this⟩
def LtD (g:G) (w:Int) (D:List (Nat×Nat)):Prop:=(∀u v,(u,v)∈D->∃k,J5b g u v k/\k<w)/\∀u v k,J5b g u v k->k<w->(u,v)∈D\/(v,u)∈D
theorem Y0z {g:G} (hg:g.valid=true) {w:Int} {D:List (Nat×Nat)} (hD:LtD g w D) {a v:Nat} (ha:a<g.ids.length):Jn g w a v↔(v<g.ids.length/\JD D a v):=by
 obtain⟨f1,f2,f3,f4,f5,f6,f7⟩:=J0f hg;constructor
 . intro h
   induction h with
   | refl=>exact⟨ha,.refl a⟩
   | step hv hl hw hu ih =>
     rename_i v l;have hok:=(J0B.1 (f6 v (by omega))).1 l hl;refine⟨hv,ih.2.trans ?_⟩;have he:J5b g v l.1.toNat l.2:=⟨hv,by omega,by rw[Int.toNat_of_nonneg (by omega)];exact hl⟩;rcases hD.2 _ _ _ he hw with q|q
     . exact(JD.edge q).symm
     . exact JD.edge q
 . rintro⟨hv,h⟩;have tr:∀{x y z:Nat},Jn g w x y->Jn g w y z->Jn g w x z:=fun h h'=>by
    induction h' with
    | refl=>exact h
    | step hv hl hw _ ih=>exact .step hv hl hw ih
   have one:∀{x y:Nat} {k:Int},J5b g x y k->k<w->Jn g w x y:=fun {x y k} he hk=>by
    have he':=he.symm hg;exact .step (l:=((x:Int),k)) he.lv he'.mem hk (by simp only[Int.toNat_natCast];exact .refl)
   have sy:∀{x y:Nat},x<g.ids.length->Jn g w x y->Jn g w y x/\y<g.ids.length:=fun {x y} hx h=>by
    induction h with
    | refl=>exact⟨.refl,hx⟩
    | step hv hl hw hu ih =>
      rename_i v l;have hok:=(J0B.1 (f6 v (by omega))).1 l hl;have he:J5b g v l.1.toNat l.2:=⟨hv,by omega,by rw[Int.toNat_of_nonneg (by omega)];exact hl⟩;exact⟨tr (one he hw) ih.1,hv⟩
   have key:∀{x y:Nat},JD D x y->(x<g.ids.length\/y<g.ids.length)->Jn g w x y/\x<g.ids.length/\y<g.ids.length:=by
    intro x y h
    induction h with
    | refl u=>intro q;exact⟨.refl,by omega,by omega⟩
    | edge h =>
      intro _;obtain⟨k,he,hk⟩:=hD.1 _ _ h;exact⟨one he hk,he.lu,he.lv⟩
    | symm _ ih =>
      intro q;obtain⟨i1,i2,i3⟩:=ih q.symm;exact⟨(sy i2 i1).1,i3,i2⟩
    | trans _ _ i1 i2 =>
      intro q;rcases q with q|q
      . obtain⟨a1,a2,a3⟩:=i1 (.inl q);obtain⟨b1,b2,b3⟩:=i2 (.inl a3);exact⟨tr a1 b1,a2,b3⟩
      . obtain⟨b1,b2,b3⟩:=i2 (.inr q);obtain⟨a1,a2,a3⟩:=i1 (.inr b2);exact⟨tr a1 b1,a2,b3⟩
   exact(key h (.inl ha)).1
structure Ed where
 a:Nat
 b:Nat
 w:Int
 deriving DecidableEq
instance:Inhabited Ed:=⟨⟨0,0,0⟩⟩
def Ed.lt (e f:Ed):Prop:=e.a<f.a\/(e.a=f.a/\e.b<f.b)
theorem J6G {α:Type} {r:α->α->Prop} (has:∀x y,r x y->¬ r y x):∀(l m:List α),l.Pairwise r->m.Pairwise r->(∀x,x∈l↔x∈m)->l=m
 | [],m,_,_,h=>by
   cases m with
   | nil=>rfl
   | cons y m=>exact absurd ((h y).2 (by simp)) (by simp)
 | x::l,[],_,_,h=>absurd ((h x).1 (by simp)) (by simp)
 | x::l,y::m,hl,hm,h=>by
   rw[List.pairwise_cons] at hl hm;have hxy:x=y:=by
    apply Classical.byContradiction;intro ne;have h1:x∈m:=by
     rcases List.mem_cons.1 ((h x).1 (by simp)) with q|q
     . exact(ne q).elim
     . exact q
    have h2:y∈l:=by
     rcases List.mem_cons.1 ((h y).2 (by simp)) with q|q
     . exact(ne q.symm).elim
     . exact q
    exact has _ _ (hl.1 y h2) (hm.1 x h1)
   subst hxy;have irr:∀z,z∈l->z≠x:=fun z hz e=>by subst e;exact has _ _ (hl.1 z hz) (hl.1 z hz)
   have irr2:∀z,z∈m->z≠x:=fun z hz e=>by subst e;exact has _ _ (hm.1 z hz) (hm.1 z hz)
   rw[J6G has l m hl.2 hm.2 fun z=>?_];constructor
   . intro hz;rcases List.mem_cons.1 ((h z).1 (List.mem_cons_of_mem _ hz)) with q|q
     . exact(irr z hz q).elim
     . exact q
   . intro hz;rcases List.mem_cons.1 ((h z).2 (List.mem_cons_of_mem _ hz)) with q|q
     . exact(irr2 z hz q).elim
     . exact q
theorem X0R (e f:Ed) (h:e.lt f):¬ f.lt e:=by
 intro h';rcases h with h|h<;>rcases h' with h'|h'<;>omega
def edE (g:G) (a b:Nat):Option Ed:=if a<b/\0<=J99 0 (gR g.ports a) b then some ⟨a,b,(gF (gR g.ports a) (J99 0 (gR g.ports a) b).toNat).2⟩ else none
def J0S (g:G):List Ed:=(List.range g.ids.length).flatMap fun a=>(List.range g.ids.length).filterMap (edE g a)
theorem Q3O {b:Int}:∀{l:X2h} {k:Nat},(J99 k l b=-1/\∀a∈l,a.1≠b)\/∃i,i<l.length/\J99 k l b=((k+i:Nat):Int)/\(gF l i).1=b
 | [],_=>.inl ⟨rfl,by simp⟩
 | a::r,k=>by
   rw[J99];by_cases e:a.1=b
   . rw[if_pos e];exact .inr ⟨0,by simp,rfl,e⟩
   . rw[if_neg e];rcases Q3O (b:=b) (l:=r) (k:=k+1) with ⟨h1,h2⟩ | ⟨i,h1,h2,h3⟩
     . refine .inl ⟨h1,fun x hx=>?_⟩;rcases List.mem_cons.1 hx with q|q
       . rw[q];exact e
       . exact h2 x q
     . exact .inr ⟨i+1,by simp;omega,by rw[h2];congr 1;omega,by simpa[gF] using h3⟩
theorem Q8r {r:X2h} (h:(r.map (·.1)).Nodup) {x y:Int×Int} (hx:x∈r) (hy:y∈r) (e:x.1=y.1):x=y:=by
 obtain⟨i,hi,rfl⟩:=List.getElem_of_mem hx;obtain⟨j,hj,rfl⟩:=List.getElem_of_mem hy;have hp:=List.pairwise_iff_getElem.1 h;rcases Nat.lt_trichotomy i j with q|q|q
 . exact(hp i j (by simpa using hi) (by simpa using hj) q (by simpa using e)).elim
 . subst q;rfl
 . exact(hp j i (by simpa using hj) (by simpa using hi) q (by simpa using e.symm)).elim
theorem Q8I {g:G} (hg:g.valid=true) {a b:Nat} (ha:a<g.ids.length) (hb:b<g.ids.length) {e:Ed}:edE g a b=some e↔(e.a=a/\e.b=b/\a<b/\J5b g a b e.w):=by
 obtain⟨f1,f2,f3,f4,f5,f6,f7⟩:=J0f hg;have hnd:=(J0B.1 (f6 a (by omega))).2;rw[edE];rcases Q3O (b:=(b:Int)) (l:=gR g.ports a) (k:=0) with ⟨h1,h2⟩ | ⟨i,h1,h2,h3⟩
 . rw[if_neg (by omega)];refine⟨fun h=>(by cases h),fun⟨_,_,_,h⟩=>(h2 _ h.mem rfl).elim⟩
 . rw[Nat.zero_add] at h2;rw[h2,Int.toNat_natCast];have hm:=J2X h1;by_cases q:a<b
   . rw[if_pos ⟨q,by omega⟩];constructor
     . intro h;cases h;refine⟨rfl,rfl,q,⟨ha,hb,?_⟩⟩;simp only;rw[<- h3];exact hm
     . rintro⟨e1,e2,_,h⟩;have:=Q8r hnd h.mem hm (by rw[h3]);obtain⟨ea,eb,ew⟩:=e;simp only at e1 e2 this;subst e1 e2;rw[<- this]
   . rw[if_neg (fun h=>q h.1)];exact⟨fun h=>(by cases h),fun h=>(q h.2.2.1).elim⟩
theorem J3V {g:G} (hg:g.valid=true) {e:Ed}:e∈J0S g↔(e.a<e.b/\J5b g e.a e.b e.w):=by
 simp only[J0S,List.mem_flatMap,List.mem_range,List.mem_filterMap];constructor
 . rintro⟨a,ha,b,hb,h⟩;obtain⟨rfl,rfl,h1,h2⟩:=(Q8I hg ha hb).1 h;exact⟨h1,h2⟩
 . rintro⟨h1,h2⟩;exact⟨e.a,h2.lu,e.b,h2.lv,(Q8I hg h2.lu h2.lv).2 ⟨rfl,rfl,h1,h2⟩⟩
theorem J3U (g:G):(J0S g).Pairwise Ed.lt:=by
 have hr:∀n:Nat,(List.range n).Pairwise (·<·):=fun n=>List.pairwise_lt_range;have ea:∀{a b:Nat} {e:Ed},edE g a b=some e->e.a=a/\e.b=b:=fun {a b e} h=>by
  rw[edE] at h;split at h
  . cases h;exact⟨rfl,rfl⟩
  . cases h
 rw[J0S,List.pairwise_flatMap];refine⟨fun a _=>?_,(hr _).imp fun {a a'} haa x hx y hy=>?_⟩
 . rw[List.pairwise_filterMap];refine(hr _).imp fun {b b'} hbb x hx y hy=>?_;obtain⟨x1,x2⟩:=ea hx;obtain⟨y1,y2⟩:=ea hy;exact .inr ⟨by omega,by omega⟩
 . obtain⟨b,_,hx⟩:=List.mem_filterMap.1 hx;obtain⟨b',_,hy⟩:=List.mem_filterMap.1 hy;obtain⟨x1,x2⟩:=ea hx;obtain⟨y1,y2⟩:=ea hy;exact .inl (by omega)
def Q9F (v:Nat) (l:Int×Int):Option Ed:=if (v:Int)<l.1 then some ⟨v,l.1.toNat,l.2⟩ else none
def Q3M (g:G):List Ed:=(List.range g.ids.length).flatMap fun v=>(gR g.ports v).filterMap (Q9F v)
theorem Q63 {g:G} (hg:g.valid=true) {e:Ed}:e∈Q3M g↔(e.a<e.b/\J5b g e.a e.b e.w):=by
 obtain⟨f1,f2,f3,f4,f5,f6,f7⟩:=J0f hg;simp only[Q3M,List.mem_flatMap,List.mem_range,List.mem_filterMap,Q9F];constructor
 . rintro⟨v,hv,l,hl,h⟩;have hok:=(J0B.1 (f6 v (by omega))).1 l hl;split at h
   . rename_i q;cases h;refine⟨by show v<l.1.toNat;omega,⟨hv,by show l.1.toNat<_;omega,?_⟩⟩;show(((l.1.toNat:Nat):Int),l.2)∈_;rw[Int.toNat_of_nonneg (by omega)];exact hl
   . cases h
 . rintro⟨h1,h2⟩;refine⟨e.a,h2.lu,_,h2.mem,?_⟩;rw[if_pos (by simp only;omega)];simp
theorem Q0M {g:G} (hg:g.valid=true):(Q3M g).Nodup:=by
 obtain⟨f1,f2,f3,f4,f5,f6,f7⟩:=J0f hg;rw[Q3M,List.nodup_iff_pairwise_ne,List.pairwise_flatMap];have ra:∀{v:Nat} {l:Int×Int} {e:Ed},Q9F v l=some e->e.a=v/\e.b=l.1.toNat/\(v:Int)<l.1:=fun {v l e} h=>by
  rw[Q9F] at h;split at h
  . rename_i q;cases h;exact⟨rfl,rfl,q⟩
  . cases h
 refine⟨fun v hv=>?_,List.pairwise_lt_range.imp fun {a a'} haa x hx y hy e=>?_⟩
 . rw[List.pairwise_filterMap];have hnd:=(J0B.1 (f6 v (by have:=List.mem_range.1 hv;omega))).2;rw[List.nodup_iff_pairwise_ne,List.pairwise_map] at hnd;refine hnd.imp fun {l l'} hne x hx y hy e=>?_;obtain⟨x1,x2,x3⟩:=ra hx;obtain⟨y1,y2,y3⟩:=ra hy;apply hne;rw[e] at x2;omega
 . obtain⟨l,_,hx⟩:=List.mem_filterMap.1 hx;obtain⟨l',_,hy⟩:=List.mem_filterMap.1 hy;have:=(ra hx).1;have:=(ra hy).1;rw[e] at *;omega
theorem Q0x {g:G} (hg:g.valid=true) {L:List Ed} (hp:L.Perm (Q3M g)) (hs:L.Pairwise fun e f=>¬ f.lt e):L=J0S g:=by
 obtain⟨f1,f2,f3,f4,f5,f6,f7⟩:=J0f hg;have hmem:∀e,e∈L↔(e.a<e.b/\J5b g e.a e.b e.w):=fun e=>by rw[hp.mem_iff,Q63 hg]
 have hnd:L.Nodup:=hp.nodup_iff.2 (Q0M hg);have hst:L.Pairwise Ed.lt:=by
  rw[List.nodup_iff_pairwise_ne] at hnd;have hboth:=hs.and hnd;refine List.Pairwise.imp_of_mem (fun {e f} he hf h=>?_) hboth;obtain⟨h1,h2⟩:=h;apply Classical.byContradiction;intro q;apply h2;have hab:e.a=f.a/\e.b=f.b:=by simp only[Ed.lt] at h1 q;omega
  have me:=((hmem e).1 he).2;have mf:=((hmem f).1 hf).2;have hndr:=(J0B.1 (f6 e.a (by have:=me.lu;omega))).2;rw[<- hab.1,<- hab.2] at mf;have:=Q8r hndr me.mem mf.mem rfl;obtain⟨ea,eb,ew⟩:=e;obtain⟨fa,fb,fw⟩:=f;simp only at hab this;obtain⟨rfl,rfl⟩:=hab;rw[(Prod.mk.inj this).2]
 exact J6G X0R _ _ hst (J3U g) fun e=>by rw[hmem,J3V hg]
open Classical in
noncomputable def chE (g:G) (e:Ed):Bool:=decide (¬ Jn g e.w e.a e.b)
noncomputable def J8g (g:G) (a b:Nat):Option (Nat×Nat):=match edE g a b with
 | some e=>if chE g e=true then some (a,b) else none
 | none=>none
noncomputable def Q5a (g:G):List (Nat×Nat):=(List.range g.ids.length).flatMap fun a=>(List.range g.ids.length).filterMap (J8g g a)
theorem J8e (g:G):((J0S g).filter (chE g)).map (fun e=>(e.a,e.b))=Q5a g:=by
 rw[J0S,Q5a,List.filter_flatMap,List.map_flatMap];congr 1;funext a;rw[List.filter_filterMap,List.map_filterMap];congr 1;funext b;rw[J8g];cases h:edE g a b with
 | none=>rfl
 | some e =>
   have:e.a=a/\e.b=b:=by
    rw[edE] at h;split at h
    . cases h;exact⟨rfl,rfl⟩
    . cases h
   simp only[Option.filter,Option.map];by_cases q:chE g e=true
   . rw[if_pos q,if_pos q];simp[this.1,this.2]
   . rw[if_neg q,if_neg q]
def prs (l:List Ed):List (Nat×Nat):=l.map fun e=>(e.a,e.b)
theorem Q5n {g:G} (hg:g.valid=true) {B:List Ed} (hp:B.Perm (J0S g)) (hs:B.Pairwise fun e f=>e.w<=f.w) {i:Nat} {w:Int} (hlt:∀j,j<i->∀e,B[j]?=some e->e.w<w) (hge:∀j,i<=j->∀e,B[j]?=some e->w<=e.w) :
 LtD g w (prs (B.take i)):=by
 constructor
 . intro u v h;obtain⟨e,he,q⟩:=List.mem_map.1 h;simp only[Prod.mk.injEq] at q;obtain⟨rfl,rfl⟩:=q;obtain⟨j,hj,ej⟩:=List.getElem_of_mem he;rw[List.getElem_take] at ej;have hm:=((J3V hg).1 (hp.mem_iff.1 (List.mem_of_mem_take he))).2;exact⟨e.w,hm,hlt j (by simp at hj;omega) e (by rw[List.getElem?_eq_getElem (by simp at hj;omega),ej])⟩
 . intro u v k h hk;have key:∀{u v:Nat},J5b g u v k->u<v->(u,v)∈prs (B.take i):=fun {u v} h huv=>by
    have hm:(⟨u,v,k⟩:Ed)∈B:=hp.mem_iff.2 ((J3V hg).2 ⟨huv,h⟩);obtain⟨j,hj,ej⟩:=List.getElem_of_mem hm;have hji:j<i:=by
     apply Nat.lt_of_not_le;intro q;have:=hge j q ⟨u,v,k⟩ (by rw[List.getElem?_eq_getElem hj,ej]);simp only at this;omega
    refine List.mem_map.2 ⟨⟨u,v,k⟩,?_,rfl⟩;rw[<- ej];exact List.mem_iff_getElem.2 ⟨j,by simp;omega,by rw[List.getElem_take]⟩
   rcases Nat.lt_trichotomy u v with q|q|q
   . exact .inl (key h q)
   . exfalso;subst q;obtain⟨f1,f2,f3,f4,f5,f6,f7⟩:=J0f hg;have:=(J0B.1 (f6 u (by have:=h.lu;omega))).1 _ h.mem;simp only at this;omega
   . exact .inr (key (h.symm hg) q)
abbrev gE (L:List Ed) (i:Nat):Ed:=L.getD i default
def eF (L:List Ed):Nat->Nat->V:=fun i j=>match j with
 | 0=>.int .i64 (gE L i).a
 | 1=>.int .i64 (gE L i).b
 | _=>.int .i64 (gE L i).w
structure Wo (lt:Ed->Ed->Prop):Prop where
 asy:∀x y,lt x y->¬ lt y x
 nt:∀x y z,¬ lt y x->¬ lt z y->¬ lt z x
def swE (L:List Ed) (i j:Nat):List Ed:=(L.set i (gE L j)).set j (gE L i)
theorem Q6y (L:List Ed) (i j:Nat):(swE L i j).length=L.length:=by simp[swE]
theorem Q2k {L:List Ed} {i j:Nat} (hi:i<L.length) (hj:j<L.length) (k:Nat):gE (swE L i j) k=if k=j then gE L i else if k=i then gE L j else gE L k:=by
 simp only[gE,swE,List.getD,List.getElem?_set,List.length_set];by_cases e:k=j
 . subst e;simp[hj]
 . rw[if_neg (fun q=>e q.symm),if_neg e];by_cases e2:k=i
   . subst e2;simp[hi]
   . rw[if_neg (fun q=>e2 q.symm),if_neg e2]
theorem X7P {l m:List Ed} (hl:l.length=m.length) (h:∀k,k<l.length->gE l k=gE m k):l=m :=
 List.ext_getElem hl fun k h1 h2=>by have:=h k h1;simpa[gE,List.getD,h1,h2] using this
theorem X0i {L:List Ed} {i:Nat} (hi:i+1<L.length):(swE L (i+1) i).Perm L:=by
 have e:L=L.take i++(gE L i::gE L (i+1)::L.drop (i+2)):=by
  have h1:L.drop i=gE L i::L.drop (i+1):=by rw[List.drop_eq_getElem_cons (by omega)];simp[gE,List.getD,show i<L.length by omega]
  have h2:L.drop (i+1)=gE L (i+1)::L.drop (i+2):=by rw[List.drop_eq_getElem_cons (by omega)];simp[gE,List.getD,hi]
  rw[<- h2,<- h1,List.take_append_drop]
 have e2:swE L (i+1) i=L.take i++(gE L (i+1)::gE L i::L.drop (i+2)):=by
  refine X7P (by rw[Q6y];simp;omega) fun k hk=>?_;rw[Q6y] at hk;rw[Q2k hi (by omega)];have ht:(L.take i).length=i:=by simp;omega
  simp only[gE,List.getD];rcases Nat.lt_trichotomy k i with q|q|q
  . rw[if_neg (by omega),if_neg (by omega),List.getElem?_append_left (by omega),List.getElem?_take,if_pos q]
  . subst q;rw[if_pos rfl,List.getElem?_append_right (by omega),ht];simp
  . rw[if_neg (by omega),List.getElem?_append_right (by omega),ht];by_cases q2:k=i+1
    . subst q2;rw[if_pos rfl,show i+1-i=1 by omega];simp
    . rw[if_neg q2];obtain⟨d,rfl⟩:∃d,k=i+2+d:=⟨k-(i+2),by omega⟩;rw[show i+2+d-i=d+2 by omega];simp
 rw[e2]
 conv=>rhs;rw[e]
 exact(List.Perm.swap _ _ _).append_left _
def SoI (lt:Ed->Ed->Prop) (L:List Ed) (i:Nat):Prop:=∀p q,p<q->q<i->¬ lt (gE L q) (gE L p)
structure SoJ (lt:Ed->Ed->Prop) (L:List Ed) (i j:Nat):Prop where
 le:j<=i
 but:∀p q,p<q->q<=i->p≠j->q≠j->¬ lt (gE L q) (gE L p)
 behind:∀q,j<q->q<=i->¬ lt (gE L q) (gE L j)
theorem SoJ.start {lt:Ed->Ed->Prop} {L:List Ed} {i:Nat} (h:SoI lt L i):SoJ lt L i i :=
 ⟨Nat.le_refl _,fun p q h1 h2 h3 h4=>h p q h1 (by omega),fun q h1 h2=>by omega⟩
theorem SoJ.done {lt:Ed->Ed->Prop} (hw:Wo lt) {L:List Ed} {i j:Nat} (h:SoJ lt L i j) (hj:j=0\/¬ lt (gE L j) (gE L (j-1))):SoI lt L (i+1):=by
 intro p q h1 h2;by_cases e:q=j
 . subst e;rcases hj with hj|hj
   . omega
   . by_cases e2:p=q-1
     . rw[e2];exact hj
     . exact hw.nt _ _ _ (h.but p (q-1) (by omega) (by omega) (by omega) (by omega)) hj
 . by_cases e2:p=j
   . subst e2;exact h.behind q h1 (by omega)
   . exact h.but p q h1 (by omega) e2 e
theorem SoJ.step {lt:Ed->Ed->Prop} (hw:Wo lt) {L:List Ed} {i j:Nat} (h:SoJ lt L i (j+1)) (hi:i<L.length) (hlt:lt (gE L (j+1)) (gE L j)):SoJ lt (swE L (j+1) j) i j:=by
 have hle:=h.le;have hg:=fun k=>Q2k (L:=L) (i:=j+1) (j:=j) (by omega) (by omega) k;refine⟨by omega,fun p q h1 h2 h3 h4=>?_,fun q h1 h2=>?_⟩
 . rw[hg,hg,if_neg h4,if_neg h3];by_cases e:q=j+1
   . rw[if_pos e,if_neg (by omega)];exact h.but p j (by omega) (by omega) (by omega) (by omega)
   . rw[if_neg e];by_cases e2:p=j+1
     . rw[if_pos e2];exact h.but j q (by omega) h2 (by omega) e
     . rw[if_neg e2];exact h.but p q h1 h2 e2 e
 . rw[hg,hg,if_neg (by omega),if_pos rfl];by_cases e:q=j+1
   . rw[if_pos e];exact hw.asy _ _ hlt
   . rw[if_neg e];exact h.behind q (by omega) h2
theorem SoI.pairwise {lt:Ed->Ed->Prop} {L:List Ed} (h:SoI lt L L.length):L.Pairwise fun e f=>¬ lt f e:=by
 rw[List.pairwise_iff_getElem];intro i j h1 h2 h3;have:=h i j h3 h2;simpa[gE,List.getD,h1,h2] using this
theorem SoI.one {lt:Ed->Ed->Prop} {L:List Ed} {i:Nat} (h:i<=1):SoI lt L i:=fun p q h1 h2=>by omega
def ltW (e f:Ed):Prop:=e.w<f.w
theorem X8Q:Wo Ed.lt:=⟨fun x y h h'=>X0R x y h h',fun x y z h1 h2 h3=>by simp only[Ed.lt] at h1 h2 h3;omega⟩
theorem wo_w:Wo ltW:=⟨fun x y h h'=>by simp only[ltW] at h h';omega,fun x y z h1 h2 h3=>by simp only[ltW] at h1 h2 h3;omega⟩
instance (l:List IntKind):DecidableEq (KyS l):=KyS.dec l
abbrev KE:List IntKind:=[.i64,.i64,.i64]
def X2R (e:Ed):KyT (.st KE):=((e.a:Int),(e.b:Int),e.w,())
theorem Q4b {e f:Ed} (h:X2R e=X2R f):e=f:=by
 obtain⟨a,b,w⟩:=e;obtain⟨a',b',w'⟩:=f;obtain⟨h1,h⟩:=Prod.mk.inj h;obtain⟨h2,h⟩:=Prod.mk.inj h;obtain⟨h3,_⟩:=Prod.mk.inj h;simp only at h1 h2 h3;obtain rfl:a=a':=by omega
 obtain rfl:b=b':=by omega
 rw[h3]
theorem Q3Y {α:Type} [DecidableEq α]:∀{l:List (α×V)} {k:α} {v:V},(∀p∈l,p.1≠k)->mput l k v=l++[(k,v)]
 | [],_,_,_=>rfl
 | (q,u)::r,k,v,h=>by
   rw[mput,if_neg (h (q,u) (by simp)),Q3Y (fun p hp=>h p (by simp[hp]))];rfl
theorem Q02 {α:Type} [DecidableEq α] {β:Type} {f:β->α} {v:β->V} (hf:∀x y,f x=f y->x=y):∀{l:List β} {x:β},x∈l->J09 (l.map fun x=>(f x,v x)) (f x)=some (v x)
 | [],_,h=>by simp at h
 | y::r,x,h=>by
   rw[List.map_cons,J09];by_cases e:f y=f x
   . rw[if_pos e,hf _ _ e]
   . rw[if_neg e];rcases List.mem_cons.1 h with q|q
     . subst q;exact(e rfl).elim
     . exact Q02 hf q
noncomputable def enM (g:G) (l:List Ed):List (KyT (.st KE)×V):=l.map fun e=>(X2R e,.bool (chE g e))
theorem Q1o {L:List Ed} {i:Nat} (h:i<L.length):L[i]=gE L i:=by simp[gE,List.getD,h]
theorem J9a {L:List Ed} {i:Nat} (h:i<L.length):L.take (i+1)=L.take i++[gE L i]:=by
 rw[List.take_succ_eq_append_getElem h,Q1o h]
theorem X5o (g:G) {B:List Ed} (hn:B.Nodup) {i:Nat} (hi:i<B.length) {v:V} (hv:v=.bool (chE g (gE B i))):mput (enM g (B.take i)) (X2R (gE B i)) v=enM g (B.take (i+1)):=by
 rw[Q3Y,J9a hi,enM,enM,List.map_append,hv]
 . rfl
 . intro p hp q;obtain⟨e,he,rfl⟩:=List.mem_map.1 hp;have:=Q4b q;subst this;obtain⟨j,hj,ej⟩:=List.getElem_of_mem he;simp at hj;rw[List.getElem_take,Q1o (by omega)] at ej;have hp:=List.pairwise_iff_getElem.1 (List.nodup_iff_pairwise_ne.1 hn) j i (by omega) hi (by omega);rw[Q1o,Q1o] at hp;exact hp ej
theorem X1v (g:G) {B:List Ed} {e:Ed} (he:e∈B):J09 (enM g B) (X2R e)=some (.bool (chE g e)):=Q02 (fun _ _ h=>Q4b h) he
theorem X20:∃f:G->List Ed->List (KyT (.st KE)×V),∀g l,f g l=enM g l:=⟨enM,fun _ _=>rfl⟩
noncomputable def enX:G->List Ed->List (KyT (.st KE)×V):=Classical.choose X20
theorem Q4u (g:G) (l:List Ed):enX g l=enM g l:=Classical.choose_spec X20 g l
theorem X5m (g:G) (B:List Ed):enX g (B.take 0)=[]:=by rw[Q4u];rfl
theorem X5l (g:G) {B:List Ed} (hn:B.Nodup) {i:Nat} (hi:i<B.length) {v:V} (hv:v=.bool (chE g (gE B i))):mput (enX g (B.take i)) (X2R (gE B i)) v=enX g (B.take (i+1)):=by
 rw[Q4u,Q4u];exact X5o g hn hi hv
theorem X1t (g:G) {B:List Ed} {e:Ed} (he:e∈B):J09 (enX g B) (X2R e)=some (.bool (chE g e)):=by
 rw[Q4u];exact X1v g he
structure ByW (g:G) (B:List Ed):Prop where
 perm:B.Perm (J0S g)
 so:SoI ltW B B.length
theorem ByW.le {g:G} {B:List Ed} (h:ByW g B) {i j:Nat} (hij:i<=j) (hj:j<B.length):(gE B i).w<=(gE B j).w:=by
 by_cases e:i=j
 . subst e;exact Int.le_refl _
 . have:=h.so i j (by omega) hj;simp only[ltW] at this;omega
theorem ByW.nodup {g:G} (hg:g.valid=true) {B:List Ed} (h:ByW g B):B.Nodup:=by
 rw[h.perm.nodup_iff,List.nodup_iff_pairwise_ne];exact(J3U g).imp fun {e f} hl q=>by subst q;exact X0R _ _ hl hl
theorem ByW.edge {g:G} (hg:g.valid=true) {B:List Ed} (h:ByW g B) {i:Nat} (hi:i<B.length):(gE B i).a<(gE B i).b/\J5b g (gE B i).a (gE B i).b (gE B i).w:=by
 rw[<- J3V hg,<- h.perm.mem_iff,<- Q1o hi];exact List.getElem_mem hi
structure Cls (g:G) (B:List Ed) (i:Nat) (p:Nat->Int):Prop where
 le:i<=B.length
 pt:PtI g.ids.length (prs (B.take i)) p
 bd:∀j,j<i->i<B.length->(gE B j).w<(gE B i).w
theorem Cls.start {g:G} (B:List Ed):Cls g B 0 (fun v=>(v:Int)):=⟨Nat.zero_le _,by simpa[prs] using PtI.start g.ids.length,fun j hj=>by omega⟩
theorem Cls.ch {g:G} (hg:g.valid=true) {B:List Ed} (hB:ByW g B) {i:Nat} {p:Nat->Int} (h:Cls g B i p) {k:Nat} (hik:i<=k) (hk:k<B.length) (hw:(gE B k).w=(gE B i).w) :
 (!decide (p (gE B k).a=p (gE B k).b))=chE g (gE B k):=by
 have he:=(hB.edge hg hk).2;have hD:LtD g (gE B k).w (prs (B.take i)):=by
  refine Q5n hg hB.perm ?_ (fun j hj e ee=>?_) (fun j hj e ee=>?_)
  . refine hB.so.pairwise.imp fun {e f} q=>?_;simp only[ltW] at q;omega
  . have hjl:j<B.length:=by have:=h.le;omega
    rw[List.getElem?_eq_getElem hjl,Q1o hjl] at ee;cases ee;rw[hw];exact h.bd j hj (by omega)
  . have hjl:j<B.length:=(List.getElem?_eq_some_iff.1 ee).1;rw[List.getElem?_eq_getElem hjl,Q1o hjl] at ee;cases ee;rw[hw];exact hB.le hj hjl
 have hj:=Y0z hg hD (v:=(gE B k).b) he.lu;have hp:=h.pt _ _ he.lu he.lv;rw[chE,<- decide_not,decide_eq_decide,hj,hp];exact⟨fun q r=>q r.2,fun q r=>q ⟨he.lv,r⟩⟩
structure Jng (g:G) (B:List Ed) (i k m:Nat) (p:Nat->Int):Prop where
 le:i<=m/\m<=k/\k<=B.length
 pt:PtI g.ids.length (prs (B.take m)) p
theorem Jng.step {g:G} (hg:g.valid=true) {B:List Ed} (hB:ByW g B) {i k m:Nat} {p:Nat->Int} (h:Jng g B i k m p) (hm:m<k):Jng g B i k (m+1) (joP p (gE B m).a (gE B m).b):=by
 have hl:=h.le;have he:=(hB.edge hg (i:=m) (by omega)).2;refine⟨⟨by omega,by omega,hl.2.2⟩,?_⟩;rw[J9a (by omega),prs,List.map_append];exact h.pt.join he.lu he.lv
theorem Jng.next {g:G} {B:List Ed} (hB:ByW g B) {i k:Nat} {p:Nat->Int} (h:Jng g B i k k p) (hik:i<k) (hw:∀j,i<=j->j<k->(gE B j).w=(gE B i).w) (hn:k<B.length->(gE B k).w≠(gE B i).w):Cls g B k p:=by
 have hl:=h.le;refine⟨hl.2.2,h.pt,fun j hj hk=>?_⟩;have h1:=hB.le (i:=i) (j:=k) (by omega) hk;have h2:=hn hk;have h3:(gE B j).w<=(gE B i).w:=by
  by_cases e:i<=j
  . rw[hw j e hj];exact Int.le_refl _
  . exact hB.le (by omega) (by omega)
 omega
def cpI (a b:Int):Int:=if a<b then -1 else if a > b then 1 else 0
def edC (e:Ed):List V:=[.int .i64 e.a,.int .i64 e.b,.int .i64 e.w]
def edV (e:Ed):V:=.agg (edC e)
theorem Q4d (a:Int):Ret Tryz.prog 119 [.int .i64 a] (.bool false):=by
 refine J0h rfl ?_;refine J0d J0b Tryz.func119 rfl Y1B Y0X rfl ?_
 repeat' ((conv=>whnf);first|(refine Br.bne ?_ ?_<;>intro _<;>try omega))
 all_goals (conv=>whnf)
 all_goals first
  | exact VLe.rfl
  | (exfalso;rename_i h;exact h rfl)
theorem J5v (a b:Int):Ret Tryz.prog 81 [.int .i64 a,.int .i64 b] (.int .i64 (cpI a b)):=by
 have h1:=Q4d a;have h2:=Q4d b;refine J0h rfl ?_;refine J0d J0b Tryz.func81 rfl hc81 hr81 rfl ?_
 repeat' ((conv=>whnf);first|(refine Br.ff ?_)|(refine Br.dec ?_ ?_<;>intro _<;>try omega)|(refine h1.go ?_)|(refine h2.go ?_))
 all_goals (conv=>whnf)
 all_goals exact VLe.int (by rw[cpI];repeat' split;all_goals first|rfl|omega)
theorem Y0i (a b:Int):Ret Tryz.prog 117 [.fz 2 1 false (vI [a,b])] (.int .i64 (if a=0 then b else a)):=by
 refine J0h rfl ?_;refine J0d J0b Tryz.func117 rfl Y1D Y0Z rfl ?_;have e0:vI [a,b] 0 0=.int .i64 a:=rfl;have e1:vI [a,b] 1 0=.int .i64 b:=rfl
 repeat' ((conv=>whnf);first|fail)
 all_goals (conv=>whnf)
 refine J2F J0b 3 ?_
 repeat' ((conv=>whnf);first|(refine Br.tt ?_)|(refine Br.ff ?_)|(refine Br.bne ?_ ?_<;>intro _<;>try omega)|(refine Ar.i64 (by omega) (by omega) ?_)|(refine Ix.mk 0 rfl (by omega) ?_)|(refine Ix.mk 1 rfl (by omega) ?_))
 all_goals (conv=>whnf)
 all_goals first
  | (rename_i h;have h:a≠0:=h;rw[if_neg h];exact VLe.rfl)
  | (rename_i h _;have h:a=0:=h;rw[if_pos h];exact VLe.rfl)
  | (rename_i h h2;have h:a=0:=h;have h2:b=0:=h2;rw[if_pos h,h2];exact VLe.rfl)
def cfE (x y:Ed):Int:=if cpI x.a y.a=0 then cpI x.b y.b else cpI x.a y.a
theorem X75 (x y:Ed):cfE x y<0↔x.lt y:=by
 simp only[cfE,cpI,Ed.lt]
 repeat' split
 all_goals omega
theorem X7Z (x y:Ed):cpI x.w y.w<0↔ltW x y:=by
 simp only[cpI,ltW]
 repeat' split
 all_goals omega
theorem X0k (x y:Ed):Ret Tryz.prog 80 [edV x,edV y] (.int .i64 (cpI x.w y.w)):=by
 have h:=J5v x.w y.w;refine J0h rfl ?_;refine J0d J0b Tryz.func80 rfl hc80 hr80 rfl ?_
 repeat' ((conv=>whnf);first|(refine h.go ?_))
 all_goals (conv=>whnf)
 exact VLe.rfl
theorem Q8H (x y:Ed):Ret Tryz.prog 116 [edV x,edV y] (.int .i64 (cfE x y)):=by
 have h1:=J5v x.a y.a;have h2:=J5v x.b y.b;have h3:=Y0i (cpI x.a y.a) (cpI x.b y.b);refine J0h rfl ?_;refine J0d J0b Tryz.func116 rfl Y1E Y00 rfl ?_
 repeat' ((conv=>whnf);first|(refine h1.go ?_)|(refine h2.go ?_)|(refine And.intro rfl ?_)|(refine J1j h3 rfl ⟨by decide,VLe.fz rfl (fun h=>h) (Q6o _ _ _ rfl rfl),True.intro⟩ ?_))
 all_goals (conv=>whnf)
 exact VLe.rfl
theorem J4F (e:Ed) (j:Nat) (hj:j<3) (L:List Ed) (i:Nat) (he:gE L i=e):eF L i j=(edC e).getD j default:=by
 subst he;rcases (show j=0\/j=1\/j=2 by omega) with rfl|rfl|rfl<;>rfl
theorem X31 (L:List Ed) (q:Nat) (hq:q+1<L.length) (i t:Nat) (ht:t<3):VLe (J00 (J00 (eF L) (q+1) 0 (edC (gE L q))) q 0 (edC (gE L (q+1))) i t) (eF (swE L (q+1) q) i t):=by
 apply VLe.of_eq;have hg:=Q2k (L:=L) (i:=q+1) (j:=q) hq (by omega) i;have hl:∀e:Ed,(edC e).length=3:=fun e=>rfl;simp only[J00,hl,Nat.sub_zero,Nat.zero_le,true_and,Nat.zero_add];by_cases e1:i=q
 . rw[if_pos e1] at hg;rw[if_pos ⟨e1,ht⟩,J4F _ t ht _ i hg]
 . rw[if_neg e1] at hg;rw[if_neg (fun h=>e1 h.1)];by_cases e2:i=q+1
   . rw[if_pos e2] at hg;rw[if_pos ⟨e2,ht⟩,J4F _ t ht _ i hg]
   . rw[if_neg e2] at hg;rw[if_neg (fun h=>e2 h.1),J4F _ t ht _ i hg,J4F _ t ht _ i rfl]
set_option maxHeartbeats 8000000 in
theorem X2U (cl:FuncId) (hcl:J0M Tryz.prog cl=true) (cf:Ed->Ed->Int) (hcf:∀x y,Ret Tryz.prog cl [edV x,edV y] (.int .i64 (cf x y))) (lt:Ed->Ed->Prop) (hw:Wo lt) (hlt:∀x y,cf x y<0↔lt x y) (L0:List Ed) (hL:L0.length<=1000) :
 J0G Tryz.prog 144 [.vec 0 3 0 L0.length,.int .i64 0,.int .i64 L0.length,.fn (.func cl) false []] [(0,.vec L0.length 3 (eF L0))] [1,2,3,4,5,6,7,8,9,10,11,12,13,14,15,16,17,18,19,20,21,22,23,24,25,26,27,28,29]
  fun v own' _=>∃L:List Ed,(L.Perm L0/\SoI lt L L.length)/\v=.tup []/\own'=[(0,.vec L0.length 3 (eF L))]:=by
 refine J0d J0b Tryz.func144 rfl Y1w Y0S rfl ?_
 repeat' ((conv=>whnf);first|(refine Ar.i64 (by omega) (by omega) ?_))
 all_goals (conv=>whnf)
 refine J0u J0b [0,1,2,3] [] [1,2,3,4,5,6,7,8,9,10,11,12,13,14,15,16,17,18,19,20,21,22,23,24,25,26,27,28,29] [0] (fun p:Nat×List Ed=>[(8,.int .i64 ((p.1:Int)+1))]) (fun own p=>J1l own 0 (.vec L0.length 3 (eF p.2))) (fun m p=>m=L0.length-p.1/\(p.1=0\/p.1+1<=L0.length)/\p.2.Perm L0/\SoI lt p.2 (p.1+1)) L0.length (0,L0) ⟨rfl,.inl rfl,.refl _,SoI.one (by omega)⟩ rfl (fun _=>rfl) ?_ ?_
 . exact J0k (fun _ _=>[(0,some 0)])
 rintro m ⟨k,L1⟩ ⟨hm,hk,hp1,hs1⟩;simp only at hm hk hp1 hs1;have hl1:=hp1.length_eq;by_cases hkn:k+1<L0.length
 . dsimp only
   repeat' ((conv=>whnf);first|(refine Br.dec ?_ ?_<;>intro _<;>try omega))
   all_goals (conv=>whnf)
   refine J0u J0b [0,1,2,3,8] [] [1,2,3,4,5,6,7,8,9,10,11,12,13,14,15,16,17,18,19,20,21,22,23,24,25,26,27,28,29] [0] (fun p:Nat×List Ed=>[(9,.int .i64 p.1)]) (fun own p=>J1l own 0 (.vec L0.length 3 (eF p.2))) (fun m p=>m=p.1/\SoJ lt p.2 (k+1) p.1/\p.2.Perm L0) (k+1) (k+1,L1) ⟨rfl,SoJ.start hs1,hp1⟩ rfl (fun _=>rfl) ?_ ?_
   . exact J0k (fun _ _=>[(0,some 0)])
   rintro m ⟨j,L⟩ ⟨hm2,hj,hp⟩;simp only at hm2 hj hp;have hl:=hp.length_eq;have hle:=hj.le;subst hm2;rcases m with _|q
   . dsimp only
     repeat' ((conv=>whnf);first|(refine Br.ff ?_)|(refine Ar.i64 (by omega) (by omega) ?_))
     all_goals (conv=>whnf)
     refine⟨L0.length-(k+1),(k+1,L),by omega,⟨rfl,.inr (by omega),hp,hj.done hw (.inl rfl)⟩,?_⟩;exact J0k (fun _ _=>[(0,some 0)])
   . dsimp only;have h1:=hcf (gE L (0+(q+1))) (gE L (0+q));have z1:0+(q+1)=q+1:=Nat.zero_add _;have z2:0+q=q:=Nat.zero_add _;by_cases hc:cf (gE L (0+(q+1))) (gE L (0+q))<0
     . repeat' ((conv=>whnf);first|(refine Ix.mk (q+1) (by omega) (by omega) ?_)|(refine Ix.mk q (by omega) (by omega) ?_)|(refine Br.dec ?_ ?_<;>intro _<;>try omega)|(refine Ar.i64 (by omega) (by omega) ?_)|(refine Ltn.mk (by omega) ?_)|(refine Chk.mk hcl ?_)|(refine h1.go ?_))
       all_goals (conv=>whnf)
       rw[z1,z2] at hc;refine⟨q,(q,swE L (q+1) q),by omega,⟨rfl,hj.step hw (by omega) ((hlt _ _).1 hc),(X0i (by omega)).trans hp⟩,?_⟩;refine J0c (fun _ _=>[(0,some 0)]) ?_ ?_ rfl
       . repeat' (first|exact True.intro|(refine J0a.fn ?_)|(refine⟨⟨_,rfl,?_⟩,?_⟩)|exact J0a.kf rfl|exact J0a.int (by omega)|exact J0a.vec rfl rfl rfl)
       . repeat' (first|exact⟨Nat.le_refl _,rfl,fun i t hi ht=>by simp only[Nat.zero_add];exact X31 L q (by omega) i t ht⟩|exact True.intro|(refine⟨⟨_,rfl,?_⟩,?_⟩))
     . repeat' ((conv=>whnf);first|(refine Ix.mk (q+1) (by omega) (by omega) ?_)|(refine Ix.mk q (by omega) (by omega) ?_)|(refine Br.dec ?_ ?_<;>intro _<;>try omega)|(refine Ar.i64 (by omega) (by omega) ?_)|(refine Ltn.mk (by omega) ?_)|(refine Chk.mk hcl ?_)|(refine h1.go ?_))
       all_goals (conv=>whnf)
       rw[z1,z2] at hc;refine⟨L0.length-(k+1),(k+1,L),by omega,⟨rfl,.inr (by omega),hp,hj.done hw (.inr (fun h=>hc ((hlt _ _).2 h)))⟩,?_⟩;exact J0k (fun _ _=>[(0,some 0)])
 . dsimp only
   repeat' ((conv=>whnf);first|(refine Br.dec ?_ ?_<;>intro _<;>try omega))
   all_goals (conv=>whnf)
   refine⟨L1,⟨hp1,?_⟩,rfl,rfl⟩;intro p q h1 h2;exact hs1 p q h1 (by omega)
def Y0u (n:Nat):Int:=if n=0 then 0 else if n=1 then 1 else if n<=3 then 2 else if n<=7 then 3 else 4
theorem Y2g {n:Int} {K:Int->Prop} (h1:0<=n) (h2:n<=255) (hK:K n):Ar .u8 n K:=⟨n,by simp[IntKind.wrap,IntKind.bits,IntKind.signed];omega,hK⟩
theorem Q9n (n:Nat) (h:n<=12):Ret Tryz.prog 170 [.int .u64 n] (.int .i64 (Y0u n)):=by
 rcases (show n=0\/n=1\/n=2\/n=3\/n=4\/n=5\/n=6\/n=7\/n=8\/n=9\/n=10\/n=11\/n=12 by omega) with rfl|rfl|rfl|rfl|rfl|rfl|rfl|rfl|rfl|rfl|rfl|rfl|rfl
 all_goals
  refine J0h rfl ?_;refine J0d J0b Tryz.func170 rfl Y1q Y0M rfl ?_
  repeat' ((conv=>whnf);first|(refine Br.ff ?_)|(refine Y2g (by omega) (by omega) ?_)|(refine Ix.nat (by decide) ?_)|(refine Ar.i64 (by decide) (by decide) ?_))
  all_goals (conv=>whnf)
  first
   | (refine VLe.int ?_;decide)
   | (refine VLe.int ?_;rfl)
   | exact VLe.of_eq rfl
theorem X5Y (n:Nat) (h:n<=12):Ret Tryz.prog 143 [.int .u64 n] (.int .i64 (Y0u n)):=by
 have h1:=Q9n n h;refine J0h rfl ?_;refine J0d J0b Tryz.func143 rfl Y1x Y0T rfl ?_
 repeat' ((conv=>whnf);first|(refine h1.go ?_))
 all_goals (conv=>whnf)
 exact VLe.rfl
abbrev X6j:List Nat:=[1,2,3,4,5,6,7,8,9,10,11,12,13,14,15,16,17,18,19,20,21,22,23,24,25,26,27,28,29]
theorem X61 (cl:FuncId) (hcl:J0M Tryz.prog cl=true) (cf:Ed->Ed->Int) (hcf:∀x y,Ret Tryz.prog cl [edV x,edV y] (.int .i64 (cf x y))) (lt:Ed->Ed->Prop) (hw:Wo lt) (hlt:∀x y,cf x y<0↔lt x y) (L0:List Ed) (hL:L0.length<=12) (lim:Int) :
 J0G Tryz.prog 142 [.vec 0 3 0 L0.length,.int .i64 0,.int .i64 L0.length,.int .i64 lim,.fn (.func cl) false []] [(0,.vec L0.length 3 (eF L0))] X6j
  fun v own' _=>∃L:List Ed,(L.Perm L0/\SoI lt L L.length)/\v=.tup []/\own'=[(0,.vec L0.length 3 (eF L))]:=by
 have hi:=X2U cl hcl cf hcf lt hw hlt L0 (by omega);refine J0d J0b Tryz.func142 rfl Y1y Y0U rfl ?_
 repeat' ((conv=>whnf);first|fail)
 all_goals (conv=>whnf)
 refine J2F J0b 1 ?_
 repeat' ((conv=>whnf);first|(refine Br.dec ?_ ?_<;>intro _<;>try omega)|(refine Ar.i64 (by omega) (by omega) ?_)|(refine hi.mono ?_;rintro _ _ _ ⟨L,hp,rfl,rfl⟩))
 all_goals (conv=>whnf)
 exact⟨L,hp,rfl,rfl⟩
theorem X0m (cl:FuncId) (hcl:J0M Tryz.prog cl=true) (cf:Ed->Ed->Int) (hcf:∀x y,Ret Tryz.prog cl [edV x,edV y] (.int .i64 (cf x y))) (lt:Ed->Ed->Prop) (hw:Wo lt) (hlt:∀x y,cf x y<0↔lt x y) (L0:List Ed) (hL:L0.length<=12) :
 J0G Tryz.prog 115 [.vec 0 3 0 L0.length,.fn (.func cl) false []] [(0,.vec L0.length 3 (eF L0))] X6j
  fun v own' _=>∃L:List Ed,(L.Perm L0/\SoI lt L L.length)/\v=.tup []/\own'=[(0,.vec L0.length 3 (eF L))]:=by
 have hb:=X5Y L0.length hL;have hi:=X61 cl hcl cf hcf lt hw hlt L0 hL (Y0u L0.length);refine J0d J0b Tryz.func115 rfl Y1F Y01 rfl ?_
 repeat' ((conv=>whnf);first|(refine Ar.u64 (by omega) (by omega) ?_)|(refine hb.go ?_)|(refine hi.mono ?_;rintro _ _ _ ⟨L,hp,rfl,rfl⟩))
 all_goals (conv=>whnf)
 exact⟨L,hp,rfl,rfl⟩
theorem Q6E (cl:FuncId) (hcl:J0M Tryz.prog cl=true) (cf:Ed->Ed->Int) (hcf:∀x y,Ret Tryz.prog cl [edV x,edV y] (.int .i64 (cf x y))) (lt:Ed->Ed->Prop) (hw:Wo lt) (hlt:∀x y,cf x y<0↔lt x y) (L0:List Ed) (hL:L0.length<=12) :
 J0G Tryz.prog 118 [.vec 0 3 0 L0.length,.int .i64 L0.length,.fn (.func cl) false []] [(0,.vec L0.length 3 (eF L0))] X6j
  fun v own' _=>∃L:List Ed,(L.Perm L0/\SoI lt L L.length)/\v=.tup []/\own'=[(0,.vec L0.length 3 (eF L))]:=by
 have hi:=X2U cl hcl cf hcf lt hw hlt L0 (by omega);refine J0d J0b Tryz.func118 rfl Y1C Y0Y rfl ?_
 repeat' ((conv=>whnf);first|fail)
 all_goals (conv=>whnf)
 refine J2F J0b 1 ?_
 repeat' ((conv=>whnf);first|(refine Br.dec ?_ ?_<;>intro _<;>try omega)|(refine hi.mono ?_;rintro _ _ _ ⟨L,hp,rfl,rfl⟩))
 all_goals (conv=>whnf)
 refine J2F J0b 1 ?_
 repeat' ((conv=>whnf);first|(refine Br.dec ?_ ?_<;>intro _<;>try omega))
 all_goals (conv=>whnf)
 exact⟨L,hp,rfl,rfl⟩
theorem X0l (cl:FuncId) (hcl:J0M Tryz.prog cl=true) (cf:Ed->Ed->Int) (hcf:∀x y,Ret Tryz.prog cl [edV x,edV y] (.int .i64 (cf x y))) (lt:Ed->Ed->Prop) (hw:Wo lt) (hlt:∀x y,cf x y<0↔lt x y) (L0:List Ed) (hL:L0.length<=12) :
 J0G Tryz.prog 79 [.vec 0 3 0 L0.length,.fn (.func cl) false []] [(0,.vec L0.length 3 (eF L0))] X6j
  fun v own' _=>∃L:List Ed,(L.Perm L0/\SoI lt L L.length)/\v=.tup []/\own'=[(0,.vec L0.length 3 (eF L))]:=by
 have hi:=Q6E cl hcl cf hcf lt hw hlt L0 hL;refine J0d J0b Tryz.func79 rfl hc79 hr79 rfl ?_
 repeat' ((conv=>whnf);first|(refine hi.mono ?_;rintro _ _ _ ⟨L,hp,rfl,rfl⟩))
 all_goals (conv=>whnf)
 exact⟨L,hp,rfl,rfl⟩
def J52 (g:G) (v i:Nat):List Ed:=((List.range v).flatMap fun v=>(gR g.ports v).filterMap (Q9F v))++((gR g.ports v).take i).filterMap (Q9F v)
theorem Q3L (g:G) (v:Nat):J52 g v (gR g.ports v).length=J52 g (v+1) 0:=by
 rw[J52,J52,List.take_length,List.range_succ,List.flatMap_append];simp
theorem X0B (g:G):J52 g g.ids.length 0=Q3M g:=by simp[J52,Q3M]
theorem Q64 (g:G):J52 g 0 0=[]:=by simp[J52]
theorem Q65 (g:G) (v:Nat) {i:Nat} (hi:i<(gR g.ports v).length):J52 g v (i+1)=J52 g v i++(Q9F v (gF (gR g.ports v) i)).toList:=by
 rw[J52,J52,J28 _ i hi,List.filterMap_append,<- List.append_assoc];congr 1
theorem X1h {α β:Type} (f:α->List β):∀{l m:List α},l.Sublist m->(l.flatMap f).length<=(m.flatMap f).length:=fun h=>by
 induction h with
 | slnil=>simp
 | cons a _ ih=>simp only[List.flatMap_cons,List.length_append];omega
 | cons_cons a _ ih=>simp only[List.flatMap_cons,List.length_append];omega
theorem X4n (g:G) {v i:Nat} (hv:v<g.ids.length):(J52 g v i).length<=(Q3M g).length:=by
 have h1:(J52 g v i).length<=(J52 g (v+1) 0).length:=by
  rw[<- Q3L,J52,J52,List.take_length];simp only[List.length_append];have:=(List.Sublist.filterMap (Q9F v) (List.take_sublist i (gR g.ports v))).length_le;omega
 have h2:(J52 g (v+1) 0).length<=(Q3M g).length:=by
  simp only[J52,Q3M,List.take_zero,List.filterMap_nil,List.append_nil];exact X1h _ (List.range_sublist.2 (by omega))
 omega
theorem Q90 (L:List Ed) (e:Ed) (n i j:Nat) (hn:L.length=n) (f:Nat->Nat->V) (h0:f 0 0=.int .i64 e.a) (h1:f 0 1=.int .i64 e.b) (h2:f 0 2=.int .i64 e.w) (hi:i<n+1) (hj:j<3) :
 VLe (J43 (J0l 0 (eF L)) n (J0l 0 f) i j) (eF (L++[e]) i j):=by
 subst hn;apply VLe.of_eq;by_cases h:i<L.length
 . rw[J1I h,Q6I,Nat.zero_add];have:gE (L++[e]) i=gE L i:=by simp[gE,List.getD,List.getElem?_append_left h]
   rw[J4F _ j hj _ i this,J4F _ j hj _ i rfl]
 . rw[J1J h,Q6I,Nat.zero_add];have hil:i=L.length:=by omega
   subst hil;have:gE (L++[e]) L.length=e:=by simp[gE,List.getD]
   rw[J4F _ j hj _ _ this,Nat.sub_self];rcases (show j=0\/j=1\/j=2 by omega) with rfl|rfl|rfl
   . rw[h0];rfl
   . rw[h1];rfl
   . rw[h2];rfl
set_option maxHeartbeats 16000000 in
theorem X1w (g:G) (hs:g.Small) (hg:g.valid=true) (h12:(Q3M g).length<=12):Ret Tryz.prog 77 [g.v] (.fz (J0S g).length 3 false (eF (J0S g))):=by
 obtain⟨f1,f2,f3,f4,f5,f6,f7⟩:=J0f hg;refine J0h rfl ?_;refine J0d J0b Tryz.func77 rfl hc77 hr77 rfl ?_
 repeat' ((conv=>whnf);first|(refine J0d J0b Tryz.func58 rfl hc58 hr58 rfl ?_)|(refine J1z ?_)|(refine Chk.mk (by kernel_rfl) ?_)|(refine J0d J0b Tryz.func100 rfl X7F X7D rfl ?_))
 all_goals (conv=>whnf)
 refine J0u J0b [0,8,9] [4] [5,6,7,8,9,10,11,12,13,14,15,16,17,18,19,20,21,22,23,24,25,26,27,28,29] [4,3,2,1,0] (fun v:Nat=>[(10,.int .i64 v)]) (fun own v=>clO ((4,.vec (J52 g v 0).length 3 (eF (J52 g v 0)))::J1l own 1 (.cells [.vec 4 3 0 (J52 g v 0).length]))) (fun m v=>m=g.ids.length-v/\v<=g.ids.length) g.ids.length 0 ⟨rfl,Nat.zero_le _⟩ rfl (fun _=>rfl) ?_ ?_
 . simp only[Q64];refine J0c (fun _ _=>[(0,some 0),(1,some 1),(2,some 2),(3,some 3),(4,none)]) ?_ ?_ rfl
   . repeat' (first|exact J0a.yld rfl|exact True.intro|(refine⟨⟨_,rfl,?_⟩,?_⟩)|exact J0a.kf rfl)
   . repeat' (first|(refine J0a.fn ?_)|(refine⟨rfl,rfl,rfl,rfl,rfl,?_⟩)|exact True.intro|(refine⟨⟨_,rfl,?_⟩,?_⟩)|exact J0a.kf rfl|exact J0a.loc rfl|exact J0a.nil rfl rfl|(refine⟨⟨_,_,rfl⟩,?_⟩)|(refine And.intro ?_ ?_))
 rintro m v ⟨hm,hv⟩;by_cases hvn:v<g.ids.length
 . have hrl:=J9l hg v
   repeat' ((conv=>whnf);first|(refine Br.dec ?_ ?_<;>intro _<;>try omega)|(refine Ix.nat (by omega) ?_))
   all_goals (conv=>whnf)
   refine J0u J0b [0,3,8,9,10,15,16] [4] [5,6,7,8,9,10,11,12,13,14,15,16,17,18,19,20,21,22,23,24,25,26,27,28,29] [4,3,2,1,0] (fun i:Nat=>[(17,.int .i64 i)]) (fun own i=>clO (J1l (J1l own 4 (.vec (J52 g v i).length 3 (eF (J52 g v i)))) 1 (.cells [.vec 4 3 0 (J52 g v i).length]))) (fun m i=>m=(gR g.ports v).length-i/\i<=(gR g.ports v).length) (gR g.ports v).length 0 ⟨rfl,Nat.zero_le _⟩ rfl (fun _=>rfl) ?_ ?_
   . refine J0c (fun _ _=>[(0,some 0),(1,some 1),(2,some 2),(3,some 3),(4,some 4)]) ?_ ?_ rfl
     . repeat' (first|exact J0a.yld rfl|exact True.intro|(refine⟨⟨_,rfl,?_⟩,?_⟩)|exact J0a.kf rfl)
     . repeat' (first|(refine J0a.fn ?_)|(refine⟨rfl,rfl,rfl,rfl,rfl,?_⟩)|exact True.intro|(refine⟨⟨_,rfl,?_⟩,?_⟩)|exact J0a.kf rfl|exact J0a.loc rfl|exact J0a.vec rfl rfl rfl|(refine⟨Nat.le_refl _,rfl,fun i j hi hj=>?_⟩)|exact VLe.rfl|(refine And.intro ?_ ?_))
   rintro m i ⟨hm2,hi⟩;by_cases hin:i<(gR g.ports v).length
   . have hok:=(J0B.1 (f6 v (by omega))).1 _ (J2X hin);have hnx:=Q65 g v hin;have hle:=X4n g (v:=v) (i:=i) hvn;by_cases hlt:(v:Int)<(gF (gR g.ports v) i).1
     . have hre:Q9F v (gF (gR g.ports v) i)=some ⟨v,(gF (gR g.ports v) i).1.toNat,(gF (gR g.ports v) i).2⟩:=if_pos hlt;rw[hre,Option.toList_some] at hnx
       repeat' ((conv=>whnf);first|(refine Br.tt ?_)|(refine Br.dec ?_ ?_<;>intro _<;>try omega)|(refine Br.nbeq ?_ ?_<;>intro _<;>try omega)|(refine Ar.i64 (by omega) (by omega) ?_)|(refine Ix.nat (by omega) ?_)|(refine Len.mk (by omega) ?_)|(refine J1f J0b rfl rfl ?_))
       all_goals (conv=>whnf)
       refine⟨(gR g.ports v).length-(i+1),i+1,by omega,⟨rfl,by omega⟩,?_⟩;simp only[hnx,List.length_append,List.length_singleton];refine J0c (fun _ own=>[(0,some 0),(1,some 1),(2,some 2),(3,some 3),(4,Q2V own 1 0)]) ?_ ?_ rfl
       . repeat' (first|exact J0a.yld rfl|exact True.intro|(refine⟨⟨_,rfl,?_⟩,?_⟩)|exact J0a.kf rfl)
       . repeat' (first|(refine J0a.fn ?_)|(refine⟨rfl,rfl,rfl,rfl,rfl,?_⟩)|(refine⟨Nat.le_refl _,rfl,fun i j hi hj=>?_⟩)|exact Q90 _ _ _ _ _ rfl _ rfl (by show V.int .i64 _=V.int .i64 _;rw[Int.toNat_of_nonneg (by omega)]) rfl hi hj|exact True.intro|(refine⟨⟨_,rfl,?_⟩,?_⟩)|exact J0a.kf rfl|exact J0a.loc rfl|exact J0a.vec rfl rfl rfl|(refine And.intro ?_ ?_))
     . have hre:Q9F v (gF (gR g.ports v) i)=none:=if_neg hlt;rw[hre,Option.toList_none,List.append_nil] at hnx
       repeat' ((conv=>whnf);first|(refine Br.tt ?_)|(refine Br.dec ?_ ?_<;>intro _<;>try omega)|(refine Ar.i64 (by omega) (by omega) ?_)|(refine Ix.nat (by omega) ?_)|(refine J1f J0b rfl rfl ?_))
       all_goals (conv=>whnf)
       refine⟨(gR g.ports v).length-(i+1),i+1,by omega,⟨rfl,by omega⟩,?_⟩;simp only[hnx];refine J0c (fun _ _=>[(0,some 0),(1,some 1),(2,some 2),(3,some 3),(4,some 4)]) ?_ ?_ rfl
       . repeat' (first|exact J0a.yld rfl|exact True.intro|(refine⟨⟨_,rfl,?_⟩,?_⟩)|exact J0a.kf rfl)
       . repeat' (first|(refine J0a.fn ?_)|(refine⟨rfl,rfl,rfl,rfl,rfl,?_⟩)|exact True.intro|(refine⟨⟨_,rfl,?_⟩,?_⟩)|exact J0a.kf rfl|exact J0a.loc rfl|exact J0a.vec rfl rfl rfl|(refine⟨Nat.le_refl _,rfl,fun i j hi hj=>?_⟩)|exact VLe.rfl|(refine And.intro ?_ ?_))
   . repeat' ((conv=>whnf);first|(refine Br.dec ?_ ?_<;>intro _<;>try omega)|(refine Ar.i64 (by omega) (by omega) ?_))
     all_goals (conv=>whnf)
     refine⟨g.ids.length-(v+1),v+1,by omega,⟨rfl,by omega⟩,?_⟩;have e:i=(gR g.ports v).length:=by omega
     subst e;simp only[<- Q3L];refine J0c (fun _ _=>[(0,some 0),(1,some 1),(2,some 2),(3,some 3),(4,some 4)]) ?_ ?_ rfl
     . repeat' (first|exact J0a.yld rfl|exact True.intro|(refine⟨⟨_,rfl,?_⟩,?_⟩)|exact J0a.kf rfl)
     . repeat' (first|(refine J0a.fn ?_)|(refine⟨rfl,rfl,rfl,rfl,rfl,?_⟩)|exact True.intro|(refine⟨⟨_,rfl,?_⟩,?_⟩)|exact J0a.kf rfl|exact J0a.loc rfl|exact J0a.vec rfl rfl rfl|(refine⟨Nat.le_refl _,rfl,fun i j hi hj=>?_⟩)|exact VLe.rfl|(refine And.intro ?_ ?_))
 . have ev:v=g.ids.length:=by omega
   subst ev;simp only[X0B];have hso:=X0m 116 (by kernel_rfl) cfE Q8H Ed.lt X8Q X75 (Q3M g) h12
   repeat' ((conv=>whnf);first|(refine Br.dec ?_ ?_<;>intro _<;>try omega)|(refine Len.mk (by omega) ?_)|(refine J1E [(0,some 4)] [] (hso.mono ?_) ⟨J0a.vec rfl rfl rfl,J0a.fn True.intro,True.intro⟩ (by repeat' (first|exact True.intro|(refine⟨⟨_,rfl,?_⟩,?_⟩)|(refine⟨Nat.le_refl _,rfl,fun i j hi hj=>?_⟩)|exact VLe.rfl)) rfl;rintro _ _ _ ⟨L,⟨hp,hsl⟩,rfl,rfl⟩)|(refine Chk.mk rfl ?_))
   all_goals (conv=>whnf)
   have hE:=Q0x hg hp hsl.pairwise;subst hE;exact VLe.fz hp.length_eq.symm (fun h=>h) (fun i j hi hj=>VLe.of_eq (by rw[Q6I,Nat.zero_add]))
def pF (p:Nat->Int):Nat->Nat->V:=fun i _=>.int .i64 (p i)
theorem X2w (p:Nat->Int) (v:Nat) (x:Int) (n i j:Nat) (hi:i<n) (hj:j<1):VLe (J00 (pF p) v 0 [.int .i64 x] i j) (pF (fun u=>if u=v then x else p u) i j):=by
 apply VLe.of_eq;obtain rfl:j=0:=by omega
 simp only[pF,J00];by_cases h:i=v
 . subst h;simp
 . simp[h]
structure JoS (p:Nat->Int) (a b v:Nat) (q:Nat->Int):Prop where
 lo:∀u,u<v->q u=joP p a b u
 hi:∀u,v<=u->q u=p u
theorem JoS.start {p:Nat->Int} {a b:Nat}:JoS p a b 0 p:=⟨fun u h=>by omega,fun _ _=>rfl⟩
theorem JoS.yes {p:Nat->Int} {a b v:Nat} {q:Nat->Int} (h:JoS p a b v q) (he:p v=max (p a) (p b)):JoS p a b (v+1) (fun u=>if u=v then min (p a) (p b) else q u):=by
 refine⟨fun u hu=>?_,fun u hu=>?_⟩
 . show(if u=v then _ else q u)=_;by_cases e:u=v
   . subst e;rw[if_pos rfl,joP,if_pos he]
   . rw[if_neg e];exact h.lo u (by omega)
 . show(if u=v then _ else q u)=_;rw[if_neg (by omega)];exact h.hi u (by omega)
theorem JoS.no {p:Nat->Int} {a b v:Nat} {q:Nat->Int} (h:JoS p a b v q) (he:¬ p v=max (p a) (p b)):JoS p a b (v+1) q:=by
 refine⟨fun u hu=>?_,fun u hu=>h.hi u (by omega)⟩;by_cases e:u=v
 . subst e;rw[joP,if_neg he];exact h.hi u (Nat.le_refl _)
 . exact h.lo u (by omega)
theorem mxR (x y:Int):(if y > x then y else x)=max x y:=by
 rw[Int.max_def];split<;>split<;>omega
theorem mnR (x y:Int):(if y<x then y else x)=min x y:=by
 rw[Int.min_def];split<;>split<;>omega
set_option maxHeartbeats 8000000 in
theorem X4P (n:Nat) (hn:n<=1000000) (p:Nat->Int) (a b:Nat) (ha:a<n) (hb:b<n) :
 J0G Tryz.prog 82 [.vec 0 1 0 n,.int .i64 a,.int .i64 b] [(0,.vec n 1 (pF p))] X6j
  fun v own' _=>∃q:Nat->Int,(∀u,u<n->q u=joP p a b u)/\v=.tup []/\own'=[(0,.vec n 1 (pF q))]:=by
 refine J0d J0b Tryz.func82 rfl hc82 hr82 rfl ?_
 repeat' ((conv=>whnf);first|(refine Ix.mk a (by omega) (by omega) ?_)|(refine Ix.mk b (by omega) (by omega) ?_)|(refine Sv.mk _ rfl ?_)|(refine Ltn.mk (by omega) ?_)|(refine And.intro (Ltn.mk (by omega) rfl) ?_))
 all_goals (conv=>whnf)
 refine J0u J0b [0,6,7,28] [] X6j [0] (fun s:Nat×(Nat->Int)=>[(29,.int .i64 s.1)]) (fun own s=>J1l own 0 (.vec n 1 (pF s.2))) (fun m s=>m=n-s.1/\s.1<=n/\JoS p a b s.1 s.2) n (0,p) ⟨rfl,Nat.zero_le _,JoS.start⟩ rfl (fun _=>rfl) ?_ ?_
 . exact J0k (fun _ _=>[(0,some 0)])
 rintro m ⟨v,q⟩ ⟨hm,hv,hJ⟩;simp only at hm hv hJ;by_cases hvn:v<n
 . dsimp only;have hqv:=hJ.hi v (Nat.le_refl _);have z0:0+a=a:=Nat.zero_add _;have z1:0+b=b:=Nat.zero_add _;have z2:0+v=v:=Nat.zero_add _;by_cases hc:q (0+v)=(if p (0+b) > p (0+a) then p (0+b) else p (0+a))
   . repeat' ((conv=>whnf);first|(refine Br.dec ?_ ?_<;>intro _<;>try omega)|(refine Ar.i64 (by omega) (by omega) ?_)|(refine Ix.nat (by omega) ?_)|(refine Ltn.mk (by omega) ?_))
     all_goals (conv=>whnf)
     rw[mxR,z0,z1,z2,hqv] at hc;refine⟨n-(v+1),(v+1,fun u=>if u=v then (if p (0+b)<p (0+a) then p (0+b) else p (0+a)) else q u),by omega,⟨rfl,by omega,?_⟩,?_⟩
     . rw[mnR,z0,z1];exact hJ.yes hc
     . refine J0c (fun _ _=>[(0,some 0)]) ?_ ?_ rfl
       . repeat' (first|exact True.intro|(refine⟨⟨_,rfl,?_⟩,?_⟩)|exact J0a.kf rfl|exact J0a.vec rfl rfl rfl)
       . repeat' (first|exact⟨Nat.le_refl _,rfl,fun i t hi ht=>by simp only[Nat.zero_add];exact X2w q v _ n i t (by omega) ht⟩|exact True.intro|(refine⟨⟨_,rfl,?_⟩,?_⟩))
   . repeat' ((conv=>whnf);first|(refine Br.dec ?_ ?_<;>intro _<;>try omega)|(refine Ar.i64 (by omega) (by omega) ?_)|(refine Ix.nat (by omega) ?_)|(refine Ltn.mk (by omega) ?_))
     all_goals (conv=>whnf)
     rw[mxR,z0,z1,z2,hqv] at hc;refine⟨n-(v+1),(v+1,q),by omega,⟨rfl,by omega,hJ.no hc⟩,?_⟩;exact J0k (fun _ _=>[(0,some 0)])
 . dsimp only
   repeat' ((conv=>whnf);first|(refine Br.dec ?_ ?_<;>intro _<;>try omega))
   all_goals (conv=>whnf)
   exact⟨q,fun u hu=>hJ.lo u (by omega),rfl,rfl⟩
end Go.Proofs.YtmifmchinfhbnaaGreatDoor
