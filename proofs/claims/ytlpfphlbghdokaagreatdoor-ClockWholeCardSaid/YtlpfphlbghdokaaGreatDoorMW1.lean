import Derived.Test.YtlpfphlbghdokaaGreatDoorFW5
import Derived.Test.YtlpfphlbghdokaaGreatDoorAN1
import Derived.Test.YtlpfphlbghdokaaGreatDoorEngZ
namespace Go.Proofs.YtlpfphlbghdokaaGreatDoor
open Go.Eng Go.Plain
set_option maxRecDepth 100000
set_option linter.unusedVariables false
def X7v (s:Tsy) (c:Nat->Int) (u:Nat):Prop:=∃k,k<s.n/\c k=u
def SvW (s:Tsy) (c:Nat->Int) (u v:Nat):Prop:=∃k,k<s.n/\c k=u/\((s.en k).testBit v=false\/∃a∈s.ar k,c a.2=u/\a.1.testBit v=true)
structure KpI (s:Tsy) (c:Nat->Int) (ins:Nat->Bool) (sv:Nat->Nat):Prop where
 hi:∀u,ins u=true->X7v s c u
 hs:∀u v,v<24->(sv u).testBit v=true->SvW s c u v
 lt:∀u,sv u<4294967296
def J9N {α:Type} (f:Nat->α) (k:Nat) (x:α):Nat->α:=fun i=>if i=k then x else f i
variable {s:Tsy} {c:Nat->Int} {ins:Nat->Bool} {sv:Nat->Nat}
theorem KpI.start (s:Tsy) (c:Nat->Int):KpI s c (fun _=>false) (fun _=>0):=⟨fun u h=>(by cases h),fun u v _ h=>(by simp at h),fun u=>by decide⟩
theorem KpI.put (h:KpI s c ins sv) {k u:Nat} (hk:k<s.n) (hc:c k=u):KpI s c (J9N ins u true) sv:=by
 refine⟨fun w hw=>?_,h.hs,h.lt⟩;by_cases e:w=u
 . subst e;exact⟨k,hk,hc⟩
 . exact h.hi w (by rw[J9N,if_neg e] at hw;exact hw)
theorem KpI.off (h:KpI s c ins sv) (u:Nat):KpI s c (J9N ins u false) sv:=by
 refine⟨fun w hw=>?_,h.hs,h.lt⟩;by_cases e:w=u
 . rw[J9N,if_pos e] at hw;cases hw
 . exact h.hi w (by rw[J9N,if_neg e] at hw;exact hw)
theorem KpI.or (h:KpI s c ins sv) {u m:Nat} (hm:m<4294967296) (hw:∀v,v<24->m.testBit v=true->SvW s c u v):KpI s c ins (J9N sv u (sv u ||| m)):=by
 refine⟨h.hi,fun w v hv hb=>?_,fun w=>?_⟩
 . by_cases e:w=u
   . subst e;rw[J9N,if_pos rfl,Nat.testBit_or,Bool.or_eq_true] at hb;rcases hb with hb|hb
     . exact h.hs w v hv hb
     . exact hw v hv hb
   . exact h.hs w v hv (by rw[J9N,if_neg e] at hb;exact hb)
 . rw[J9N];split
   . exact Nat.or_lt_two_pow (n:=32) (h.lt u) hm
   . exact h.lt w
def mxC (c:Nat->Int):Nat->Nat
 | 0=>0
 | k+1=>max (mxC c k) (c k+1).toNat
theorem Q6A (c:Nat->Int) {j:Nat}:∀{k:Nat},j<k->c j<mxC c k\/c j<0
 | 0,h=>by omega
 | k+1,h=>by
   rw[mxC];by_cases e:j=k
   . subst e;omega
   . have:=Q6A c (j:=j) (k:=k) (by omega);omega
theorem X1E (c:Nat->Int) {N:Nat}:∀{k:Nat},(∀j,j<k->c j<N)->mxC c k<=N
 | 0,_=>Nat.zero_le _
 | k+1,h=>by
   rw[mxC];have:=X1E c (k:=k) (fun j hj=>h j (by omega));have:=h k (by omega);omega
def vBn (b:Nat->Bool):Nat->Nat->V:=fun i _=>.bool (b i)
def vUn (f:Nat->Nat):Nat->Nat->V:=fun i _=>.int .u32 (f i)
theorem Q5m (b:Nat->Bool) (k k':Nat) (x:Bool) (hk:k'=k) (i j:Nat) (hj:j<1):VLe (J0L (vBn b) k' 0 [.bool x] i j) (vBn (J9N b k x) i j):=by
 obtain rfl:j=0:=by omega
 subst hk;apply VLe.of_eq;rw[vBn,J9N];by_cases h:i=k'
 . subst h;simp[J0L]
 . simp[J0L,vBn,h]
theorem Q5f (f:Nat->Nat) (k k':Nat) (x:Int) (a:Nat) (hk:k'=k) (hx:x=a) (i j:Nat) (hj:j<1):VLe (J0L (vUn f) k' 0 [.int .u32 x] i j) (vUn (J9N f k a) i j):=by
 obtain rfl:j=0:=by omega
 subst hk;subst hx;apply VLe.of_eq;rw[vUn,J9N];by_cases h:i=k'
 . subst h;simp[J0L]
 . simp[J0L,vUn,h]
theorem Q9d (i j:Nat) (hj:j<1):VLe ((fun(_ j:Nat)=>[V.bool false].getD j default) i j) (vBn (fun _=>false) i j):=by
 obtain rfl:j=0:=by omega
 exact VLe.rfl
theorem Q81 (i j:Nat) (hj:j<1):VLe ((fun(_ j:Nat)=>[V.int .u32 0].getD j default) i j) (vUn (fun _=>0) i j):=by
 obtain rfl:j=0:=by omega
 exact VLe.rfl
set_option maxHeartbeats 16000000 in
theorem X3w (s:Tsy) (hs:s.Ok) (c:Nat->Int) (hc:∀k,k<s.n->-1<=c k/\c k<s.n) (hno:∀u,¬ (X7v s c u/\∀v,v<24->SvW s c u v)) :
 Ret Tryz.prog 45 [s.v,.fz s.n 1 false (vIc c)] (.fz (mxC c s.n) 1 false (vBn fun _=>false)):=by
 have n1:=hs.n1;have n2:=hs.n2;refine J0g rfl ?_;refine J0d J0b Tryz.func45 rfl hc45 hr45 rfl ?_
 repeat' ((conv=>whnf);first|fail)
 all_goals (conv=>whnf)
 refine J0N J0b [1,2,16,17] (fun i:Nat=>[(5,.int .i64 (mxC c i)),(18,.int .i64 i)]) (fun m i=>m=s.n-i/\i<=s.n) s.n 0 ⟨rfl,Nat.zero_le _⟩ ?_ ?_
 . exact J0k (fun _ _=>[(0,some 0)])
 rintro m i ⟨hm,hi⟩;have hmx:=X1E c (k:=i) (fun j hj=>(hc j (by omega)).2);by_cases hin:i<s.n
 . have hci:=hc i hin
   repeat' ((conv=>whnf);first|(refine Br.dec ?_ ?_<;>intro _<;>try omega)|(refine Ar.i64 (by omega) (by omega) ?_)|(refine Sv.mk _ rfl ?_)|(refine Ix.nat (by omega) ?_))
   all_goals (conv=>whnf)
   all_goals
    refine⟨s.n-(i+1),i+1,by omega,⟨rfl,by omega⟩,?_⟩;refine J0f (fun _ _=>[(0,some 0)]) ?_ ?_ rfl
    . repeat' (first|exact J0a.int (by rw[mxC];first|omega|(split<;>omega))|exact True.intro|(refine⟨⟨_,rfl,?_⟩,?_⟩)|exact J0a.kf rfl|exact J0a.loc rfl)
    . repeat' (first|exact True.intro|(refine⟨⟨_,rfl,?_⟩,?_⟩)|exact J0a.kf rfl|(refine And.intro ?_ ?_))
 have ei:i=s.n:=by omega
 subst ei
 repeat' ((conv=>whnf);first|(refine Br.dec ?_ ?_<;>intro _<;>try omega)|(refine Bd.nat (by omega) ?_)|(refine Len.mk (by omega) ?_)|(refine MkS.vec ?_))
 all_goals (conv=>whnf)
 refine J1v J0b [1,2,5,8,9,31,32] [] [3,4,5,6,7,8,9,10,11,12,13,14,15,16,17,18,19,20,21,22,23,24,25,26,27,28,29] [2,1,0] (fun x:Nat×(Nat->Bool)×(Nat->Nat)=>[(33,.int .i64 x.1)]) (fun x=>[(2,.vec (mxC c s.n) 1 (vUn x.2.2)),(1,.vec (mxC c s.n) 1 (vBn x.2.1)),(0,.cells [.fz s.n 1 false (vEn s),.fz s.n 1 false (Q9g s)])]) (fun m x=>m=s.n-x.1/\x.1<=s.n/\KpI s c x.2.1 x.2.2) s.n (0,(fun _=>false),fun _=>0) ⟨rfl,Nat.zero_le _,KpI.start s c⟩ rfl (fun _=>rfl) ?_ ?_
 . refine J0f (fun _ _=>[(2,some 2),(1,some 1),(0,some 0)]) ?_ ?_ rfl
   . repeat' (first|exact True.intro|(refine⟨⟨_,rfl,?_⟩,?_⟩)|exact J0a.kf rfl|exact J0a.loc rfl|exact J0a.vec rfl rfl rfl)
   . repeat' (first|exact Q81 _ _ hj|exact Q9d _ _ hj|exact True.intro|(refine⟨⟨_,rfl,?_⟩,?_⟩)|exact J0a.kf rfl|(refine⟨Nat.le_refl _,rfl,fun i j hi hj=>?_⟩)|(refine And.intro ?_ ?_))
 rintro m1 x ⟨hm1,hx,hK⟩;by_cases hxn:x.1<s.n
 . have hcx:=hc x.1 hxn;by_cases hneg:c x.1<0
   . repeat' ((conv=>whnf);first|(refine Br.dec ?_ ?_<;>intro _<;>try omega)|(refine Ar.i64 (by omega) (by omega) ?_)|(refine Ix.nat (by omega) ?_))
     all_goals (conv=>whnf)
     refine⟨s.n-(x.1+1),(x.1+1,x.2),by omega,⟨rfl,hxn,hK⟩,?_⟩;exact J0k (fun _ _=>[(2,some 2),(1,some 1),(0,some 0)])
   . obtain⟨u,hu⟩:∃u:Nat,c x.1=u:=⟨(c x.1).toNat,by omega⟩;have hun:u<mxC c s.n:=by have:=Q6A c hxn;omega
     have hen:=hs.en x.1 hxn;have hrow:=hs.row hxn;have hlt:=hK.lt u
     repeat' ((conv=>whnf);first|(refine Ix.mk u (by rw[hu]) hun ?_)|(refine Br.dec ?_ ?_<;>intro _<;>try omega)|(refine Sv.mk _ rfl ?_)|(refine Ix.nat (by omega) ?_)|(refine Ltn.mk (by omega) ?_))
     all_goals (conv=>whnf)
     have hx1:J4a .xor .u32 (if IntKind.u32.signed=true then -1 else IntKind.u32.max) (s.en x.1:Int)=((4294967295 ^^^ s.en x.1:Nat):Int):=X4C (a:=4294967295) (by decide) (by omega);have hxl:4294967295 ^^^ s.en x.1<4294967296:=Nat.xor_lt_two_pow (n:=32) (by decide) (by omega);have hor:=Q3X hlt hxl;have hK1:=hK.or (u:=u) hxl (fun v hv hb=>⟨x.1,hxn,hu,.inl (by
      have h1:(4294967295:Nat).testBit v=true:=by
       rw[show(4294967295:Nat)=2 ^ 32-1 from rfl,Nat.testBit_two_pow_sub_one];simp;omega
      rw[Nat.testBit_xor,h1] at hb;simpa using hb)⟩)
     refine J1v J0b [1,2,5,8,9,10,11,31,32,33,56,57] [] [3,4,5,6,7,8,9,10,11,12,13,14,15,16,17,18,19,20,21,22,23,24,25,26,27,28,29] [2,1,0] (fun y:Nat×(Nat->Bool)×(Nat->Nat)=>[(58,.int .i64 y.1)]) (fun x=>[(2,.vec (mxC c s.n) 1 (vUn x.2.2)),(1,.vec (mxC c s.n) 1 (vBn x.2.1)),(0,.cells [.fz s.n 1 false (vEn s),.fz s.n 1 false (Q9g s)])]) (fun m y=>m=(s.ar x.1).length-y.1/\y.1<=(s.ar x.1).length/\KpI s c y.2.1 y.2.2) (s.ar x.1).length (0,x.2.1,J9N x.2.2 u (x.2.2 u ||| (4294967295 ^^^ s.en x.1))) ⟨rfl,Nat.zero_le _,hK1⟩ rfl (fun _=>rfl) ?_ ?_
     . refine J0f (fun _ _=>[(2,some 2),(1,some 1),(0,some 0)]) ?_ ?_ rfl
       . repeat' (first|exact True.intro|(refine⟨⟨_,rfl,?_⟩,?_⟩)|exact J0a.kf rfl|exact J0a.loc rfl|exact J0a.vec rfl rfl rfl)
       . repeat' (first|exact Q5f _ _ _ _ _ (Nat.zero_add _) (by rw[hx1,Nat.zero_add];exact hor) _ _ hj|exact True.intro|(refine⟨⟨_,rfl,?_⟩,?_⟩)|exact J0a.kf rfl|(refine⟨Nat.le_refl _,rfl,fun i j hi hj=>?_⟩)|exact VLe.rfl|(refine And.intro ?_ ?_))
     rintro m2 y ⟨hm2,hy,hJ⟩;have hlt2:=hJ.lt u;by_cases hyn:y.1<(s.ar x.1).length
     . obtain⟨a1,a2,a3⟩:=hs.arc _ hxn _ (J4Y hyn);have ha32:=a2.le;have hor2:=Q3X hlt2 (b:=(gA (s.ar x.1) y.1).1) (by omega);by_cases hce:c (gA (s.ar x.1) y.1).2=c x.1
       . have hJ2:=(hJ.put (k:=x.1) hxn hu).or (u:=u) (m:=(gA (s.ar x.1) y.1).1) (by omega) (fun v hv hb=>⟨x.1,hxn,hu,.inr ⟨_,J4Y hyn,by rw[hce,hu],hb⟩⟩)
         repeat' ((conv=>whnf);first|(refine Ix.mk u (by rw[hu]) hun ?_)|(refine Br.dec ?_ ?_<;>intro _<;>try omega)|(refine Ar.i64 (by omega) (by omega) ?_)|(refine Sv.mk _ rfl ?_)|(refine Ix.nat (by omega) ?_)|(refine Ltn.mk (by omega) ?_))
         all_goals (conv=>whnf)
         refine⟨(s.ar x.1).length-(y.1+1),(y.1+1,J9N y.2.1 u true,J9N y.2.2 u (y.2.2 u ||| (gA (s.ar x.1) y.1).1)),by omega,⟨rfl,hyn,hJ2⟩,?_⟩;refine J0f (fun _ _=>[(2,some 2),(1,some 1),(0,some 0)]) ?_ ?_ rfl
         . repeat' (first|exact True.intro|(refine⟨⟨_,rfl,?_⟩,?_⟩)|exact J0a.kf rfl|exact J0a.loc rfl|exact J0a.vec rfl rfl rfl)
         . repeat' (first|exact Q5m _ _ _ _ (Nat.zero_add _) _ _ hj|exact Q5f _ _ _ _ _ (Nat.zero_add _) (by rw[Nat.zero_add];exact hor2) _ _ hj|exact True.intro|(refine⟨⟨_,rfl,?_⟩,?_⟩)|exact J0a.kf rfl|(refine⟨Nat.le_refl _,rfl,fun i j hi hj=>?_⟩)|(refine And.intro ?_ ?_))
       . repeat' ((conv=>whnf);first|(refine Br.dec ?_ ?_<;>intro _<;>try omega)|(refine Ar.i64 (by omega) (by omega) ?_)|(refine Ix.nat (by omega) ?_))
         all_goals (conv=>whnf)
         refine⟨(s.ar x.1).length-(y.1+1),(y.1+1,y.2),by omega,⟨rfl,hyn,hJ⟩,?_⟩;exact J0k (fun _ _=>[(2,some 2),(1,some 1),(0,some 0)])
     . repeat' ((conv=>whnf);first|(refine Br.dec ?_ ?_<;>intro _<;>try omega)|(refine Ar.i64 (by omega) (by omega) ?_))
       all_goals (conv=>whnf)
       refine⟨s.n-(x.1+1),(x.1+1,y.2),by omega,⟨rfl,hxn,hJ⟩,?_⟩;exact J0k (fun _ _=>[(2,some 2),(1,some 1),(0,some 0)])
 . have ex:x.1=s.n:=by omega
   repeat' ((conv=>whnf);first|(refine Br.dec ?_ ?_<;>intro _<;>try omega))
   all_goals (conv=>whnf)
   refine J1v J0b [1,2,5,8,9,82] [] [3,4,5,6,7,8,9,10,11,12,13,14,15,16,17,18,19,20,21,22,23,24,25,26,27,28,29] [2,1,0] (fun w:Nat×(Nat->Bool)=>[(83,.int .i64 w.1)]) (fun w=>[(2,.vec (mxC c s.n) 1 (vUn x.2.2)),(1,.vec (mxC c s.n) 1 (vBn w.2)),(0,.cells [.fz s.n 1 false (vEn s),.fz s.n 1 false (Q9g s)])]) (fun m w=>m=mxC c s.n-w.1/\w.1<=mxC c s.n/\KpI s c w.2 x.2.2/\∀j,j<w.1->w.2 j=false) (mxC c s.n) (0,x.2.1) ⟨rfl,Nat.zero_le _,hK,fun j hj=>(by omega)⟩ rfl (fun _=>rfl) ?_ ?_
   . exact J0k (fun _ _=>[(2,some 2),(1,some 1),(0,some 0)])
   rintro m3 z ⟨hm3,hz,hL,hoff⟩;by_cases hzn:z.1<mxC c s.n
   . have hlt:=hL.lt z.1
     repeat' ((conv=>whnf);first|(refine Br.dec ?_ ?_<;>intro _<;>try omega))
     all_goals (conv=>whnf)
     refine J1v J0b [1,2,5,8,9,14,82,83] [] [3,4,5,6,7,8,9,10,11,12,13,14,15,16,17,18,19,20,21,22,23,24,25,26,27,28,29] [2,1,0] (fun w:Nat×(Nat->Bool)=>[(86,.int .i64 w.1)]) (fun w=>[(2,.vec (mxC c s.n) 1 (vUn x.2.2)),(1,.vec (mxC c s.n) 1 (vBn w.2)),(0,.cells [.fz s.n 1 false (vEn s),.fz s.n 1 false (Q9g s)])]) (fun m w=>m=24-w.1/\w.1<=24/\KpI s c w.2 x.2.2/\(∀j,j<z.1->w.2 j=false)/\(w.2 z.1=true->∀v,v<w.1->(x.2.2 z.1).testBit v=true)) 24 (0,z.2) ⟨rfl,Nat.zero_le _,hL,hoff,fun _ v hv=>(by omega)⟩ rfl (fun _=>rfl) ?_ ?_
     . exact J0k (fun _ _=>[(2,some 2),(1,some 1),(0,some 0)])
     rintro m4 w ⟨hm4,hw,hM,hof2,hon⟩;by_cases hwn:w.1<24
     . have hsh:J4a .and .u32 ((x.2.2 (0+z.1):Int).fdiv (2 ^ (min (w.1:Int).toNat IntKind.u32.bits))) 1=if (x.2.2 z.1).testBit w.1 then 1 else 0:=by
        rw[Nat.zero_add,show min (w.1:Int).toNat IntKind.u32.bits=w.1 from by show min _ 32=_;omega];exact X2T hlt
       cases hb:(x.2.2 z.1).testBit w.1 with
       | true =>
         rw[hb,if_pos rfl] at hsh
         repeat' ((conv=>whnf);first|(refine Br.dec ?_ ?_<;>intro _<;>try omega)|(refine Ar.i64 (by omega) (by omega) ?_)|(refine Sv.mk _ rfl ?_)|(refine Nn.mk (by omega) ?_)|(refine Ix.nat (by omega) ?_)|(refine Ltn.mk (by omega) ?_))
         all_goals (conv=>whnf)
         refine⟨24-(w.1+1),(w.1+1,w.2),by omega,⟨rfl,hwn,hM,hof2,fun h v hv=>?_⟩,?_⟩
         . by_cases e:v=w.1
           . subst e;exact hb
           . exact hon h v (by simp only at hv;omega)
         . exact J0k (fun _ _=>[(2,some 2),(1,some 1),(0,some 0)])
       | false =>
         rw[hb,if_neg (by decide)] at hsh
         repeat' ((conv=>whnf);first|(refine Br.dec ?_ ?_<;>intro _<;>try omega)|(refine Ar.i64 (by omega) (by omega) ?_)|(refine Sv.mk _ rfl ?_)|(refine Nn.mk (by omega) ?_)|(refine Ix.nat (by omega) ?_)|(refine Ltn.mk (by omega) ?_))
         all_goals (conv=>whnf)
         refine⟨24-(w.1+1),(w.1+1,J9N w.2 z.1 false),by omega,⟨rfl,hwn,hM.off z.1,fun j hj=>?_,fun h=>?_⟩,?_⟩
         . show(if j=z.1 then false else w.2 j)=false;split
           . rfl
           . exact hof2 j hj
         . have h:(if z.1=z.1 then false else w.2 z.1)=true:=h;rw[if_pos rfl] at h;cases h
         . refine J0f (fun _ _=>[(2,some 2),(1,some 1),(0,some 0)]) ?_ ?_ rfl
           . repeat' (first|exact True.intro|(refine⟨⟨_,rfl,?_⟩,?_⟩)|exact J0a.kf rfl|exact J0a.loc rfl|exact J0a.vec rfl rfl rfl)
           . repeat' (first|exact Q5m _ _ _ _ (Nat.zero_add _) _ _ hj|exact True.intro|(refine⟨⟨_,rfl,?_⟩,?_⟩)|exact J0a.kf rfl|(refine⟨Nat.le_refl _,rfl,fun i j hi hj=>?_⟩)|exact VLe.rfl|(refine And.intro ?_ ?_))
     . have hlast:w.2 z.1=false:=by
        cases e:w.2 z.1 with
        | false=>rfl
        | true=>exact(hno z.1 ⟨hM.hi z.1 e,fun v hv=>hM.hs z.1 v hv (hon e v (by omega))⟩).elim
       repeat' ((conv=>whnf);first|(refine Br.dec ?_ ?_<;>intro _<;>try omega)|(refine Ar.i64 (by omega) (by omega) ?_))
       all_goals (conv=>whnf)
       refine⟨mxC c s.n-(z.1+1),(z.1+1,w.2),by omega,⟨rfl,hzn,hM,fun j hj=>?_⟩,?_⟩
       . by_cases e:j=z.1
         . subst e;exact hlast
         . exact hof2 j (by simp only at hj;omega)
       . exact J0k (fun _ _=>[(2,some 2),(1,some 1),(0,some 0)])
   . have ez:z.1=mxC c s.n:=by omega
     repeat' ((conv=>whnf);first|(refine Br.dec ?_ ?_<;>intro _<;>try omega)|(refine Len.mk (by omega) ?_))
     all_goals (conv=>whnf)
     exact VLe.fz rfl (fun h=>h) (fun a b ha hb=>VLe.of_eq (by rw[J0E,Nat.zero_add];show V.bool (z.2 a)=V.bool false;rw[hoff a (by omega)]))
end Go.Proofs.YtlpfphlbghdokaaGreatDoor
namespace Go.Plain.Mx
def pr (sz:Nat->Nat):Nat->Nat->Nat
 | _,0=>1
 | a,l+1=>sz a*pr sz (a+1) l
def vl (sz d:Nat->Nat):Nat->Nat->Nat
 | _,0=>0
 | a,l+1=>d a*pr sz (a+1) l+vl sz d (a+1) l
variable {sz:Nat->Nat}
theorem pr_pos (h:∀i,0<sz i):∀l a,0<pr sz a l
 | 0,_=>Nat.one_pos
 | l+1,a=>Nat.mul_pos (h a) (pr_pos h l (a+1))
theorem pr_snoc:∀l a,pr sz a (l+1)=pr sz a l*sz (a+l)
 | 0,a=>by simp[pr]
 | l+1,a=>by
   rw[pr,pr_snoc l (a+1),pr,Nat.mul_assoc];congr 2;congr 1;omega
theorem vl_lt {d:Nat->Nat}:∀l a,(∀i,a<=i->i<a+l->d i<sz i)->vl sz d a l<pr sz a l
 | 0,_,_=>Nat.one_pos
 | l+1,a,h=>by
   have h1:=vl_lt l (a+1) (fun i q q2=>h i (by omega) (by omega));have h2:=h a (Nat.le_refl _) (by omega);rw[vl,pr];have h3:(d a+1)*pr sz (a+1) l<=sz a*pr sz (a+1) l:=Nat.mul_le_mul_right _ h2;rw[Nat.add_mul] at h3;omega
theorem vl_ext {d e:Nat->Nat}:∀l a,(∀i,a<=i->i<a+l->d i=e i)->vl sz d a l=vl sz e a l
 | 0,_,_=>rfl
 | l+1,a,h=>by rw[vl,vl,h a (Nat.le_refl _) (by omega),vl_ext l (a+1) (fun i q q2=>h i (by omega) (by omega))]
def dg (sz:Nat->Nat) (N k i:Nat):Nat:=k / pr sz (i+1) (N-(i+1)) % sz i
theorem dg_lt (h:∀i,0<sz i) (N k i:Nat):dg sz N k i<sz i:=Nat.mod_lt _ (h i)
theorem X5b (h:∀i,0<sz i) (N k:Nat):∀l a,a+l=N->vl sz (dg sz N k) a l=k % pr sz a l
 | 0,a,_=>by simp[vl,pr,Nat.mod_one]
 | l+1,a,e=>by
   rw[vl,X5b h N k l (a+1) (by omega),dg,show N-(a+1)=l by omega,pr];have hp:=pr_pos h l (a+1);generalize pr sz (a+1) l=P at *;generalize sz a=s at *;rw[Nat.mul_comm s P,Nat.mod_mul,Nat.mul_comm (k / P % s) P,Nat.add_comm]
theorem X6u (h:∀i,0<sz i) (N:Nat) (d:Nat->Nat) (hd:∀i,i<N->d i<sz i):∀l a,a+l=N->∀i,a<=i->i<N->∀hi,dg sz N (hi*pr sz a l+vl sz d a l) i=d i
 | 0,a,e,i,h1,h2,hi=>by omega
 | l+1,a,e,i,h1,h2,hi=>by
   have hv:=vl_lt (sz:=sz) (d:=d) l (a+1) (fun i q q2=>hd i (by omega));have hP:=pr_pos h l (a+1);rw[vl,pr];have e2:hi*(sz a*pr sz (a+1) l)+(d a*pr sz (a+1) l+vl sz d (a+1) l)=(hi*sz a+d a)*pr sz (a+1) l+vl sz d (a+1) l:=by
    rw[Nat.add_mul,Nat.mul_assoc];omega
   rw[e2];by_cases q:i=a
   . subst q;rw[dg,show N-(i+1)=l by omega];rw[Nat.add_comm ((hi*sz i+d i)*_),Nat.add_mul_div_right _ _ hP,Nat.div_eq_of_lt hv,Nat.zero_add,Nat.add_comm,Nat.add_mul_mod_self_right,Nat.mod_eq_of_lt (hd i h2)]
   . exact X6u h N d hd l (a+1) (by omega) i (by omega) h2 _
theorem dg_val (h:∀i,0<sz i) {N:Nat} {d:Nat->Nat} (hd:∀i,i<N->d i<sz i) {i:Nat} (hi:i<N):dg sz N (vl sz d 0 N) i=d i:=by
 have:=X6u h N d hd N 0 (by omega) i (Nat.zero_le _) hi 0;simpa using this
theorem val_dg (h:∀i,0<sz i) {N k:Nat} (hk:k<pr sz 0 N):vl sz (dg sz N k) 0 N=k:=by
 rw[X5b h N k N 0 (by omega),Nat.mod_eq_of_lt hk]
theorem rest_step (N k i:Nat) (hi:i<N):k / pr sz (i+1) (N-(i+1)) / sz i=k / pr sz i (N-i):=by
 rw[Nat.div_div_eq_div_mul,show N-i=N-(i+1)+1 by omega,pr,Nat.mul_comm]
theorem Q5k {d:Nat->Nat}:∀l a,(∀i,a<=i->i<a+l->d i=0)->vl sz d a l=0
 | 0,_,_=>rfl
 | l+1,a,h=>by rw[vl,h a (Nat.le_refl _) (by omega),Q5k l (a+1) (fun i q q2=>h i (by omega) (by omega)),Nat.zero_mul]
theorem Q1s (h:∀i,0<sz i) {d:Nat->Nat}:∀l a,(∀i,a<=i->i<a+l->d i+1=sz i)->vl sz d a l+1=pr sz a l
 | 0,_,_=>rfl
 | l+1,a,q=>by
   have h1:=Q1s h (d:=d) l (a+1) (fun i q1 q2=>q i (by omega) (by omega));have h2:=q a (Nat.le_refl _) (by omega);rw[vl,pr,<- h2,Nat.add_mul];omega
def nx (d:Nat->Nat) (i j:Nat):Nat:=if j<i then d j else if j=i then d j+1 else 0
theorem X5a (h:∀i,0<sz i) (d:Nat->Nat) (N i:Nat) (hi:i<N) (hf:∀j,i<j->j<N->d j+1=sz j):∀l a,a+l=N->a<=i->vl sz (nx d i) a l=vl sz d a l+1
 | 0,a,e,q=>by omega
 | l+1,a,e,q=>by
   rw[vl,vl];by_cases ea:a=i
   . subst ea;rw[Q5k (d:=nx d a) l (a+1) (fun j q1 q2=>by rw[nx,if_neg (by omega),if_neg (by omega)]),nx,if_neg (by omega),if_pos rfl,Nat.add_mul];have:=Q1s h (d:=d) l (a+1) (fun j q1 q2=>hf j (by omega) (by omega));omega
   . rw[X5a h d N i hi hf l (a+1) (by omega) (by omega),nx,if_pos (by omega)];omega
theorem dg_next (h:∀i,0<sz i) {N k i:Nat} (hk:k<pr sz 0 N) (hi:i<N) (hn:dg sz N k i+1<sz i) (hf:∀j,i<j->j<N->dg sz N k j+1=sz j) {j:Nat} (hj:j<N):dg sz N (k+1) j=nx (dg sz N k) i j:=by
 have h1:=X5a h (dg sz N k) N i hi hf N 0 (by omega) (Nat.zero_le _);rw[val_dg h hk] at h1;rw[<- h1];refine dg_val h (fun j hj=>?_) hj;rw[nx];split
 . exact dg_lt h _ _ _
 . split
   . rename_i e;subst e;exact hn
   . exact h j
theorem dg_last (h:∀i,0<sz i) {N k:Nat} (hk:k<pr sz 0 N) (hf:∀j,j<N->dg sz N k j+1=sz j):k+1=pr sz 0 N:=by
 rw[<- Q1s h (d:=dg sz N k) N 0 (fun j _ q2=>hf j (by omega)),val_dg h hk]
theorem dg_zero (N i:Nat):dg sz N 0 i=0:=by simp[dg]
theorem vl_diff {d e:Nat->Nat}:∀l a,(vl sz e a l:Int)=vl sz d a l+((List.range l).map fun i=>((e (a+i):Int)-d (a+i))*pr sz (a+i+1) (l-(i+1))).sum
 | 0,a=>by simp[vl]
 | l+1,a=>by
   rw[vl,vl,List.range_succ_eq_map,List.map_cons,List.map_map,List.sum_cons];have h1:=vl_diff (d:=d) (e:=e) l (a+1);have e1:((fun i=>((e (a+i):Int)-d (a+i))*pr sz (a+i+1) (l+1-(i+1))) ∘ Nat.succ)=fun i=>((e (a+1+i):Int)-d (a+1+i))*pr sz (a+1+i+1) (l-(i+1)):=by
    funext i;simp only[Function.comp];rw[show a+i.succ=a+1+i by omega,show l+1-(i.succ+1)=l-(i+1) by omega]
   rw[e1]
   push_cast
   rw[h1];simp only[Nat.add_zero];have:((e a:Int)-d a)*(pr sz (a+1) l:Int)=e a*pr sz (a+1) l-d a*pr sz (a+1) l:=Int.sub_mul _ _ _;rw[this];omega
end Go.Plain.Mx
namespace Go.Proofs.YtlpfphlbghdokaaGreatDoor
open Go.Eng Go.Plain
set_option maxRecDepth 100000
set_option linter.unusedVariables false
def loP (p:Pr) (g:G) (v x:Nat):Int:=(bnd g (gV p.vars x) v).1
def hiP (p:Pr) (g:G) (v x:Nat):Int:=(bnd g (gV p.vars x) v).2
def szX (p:Pr) (g:G) (v x:Nat):Nat:=(hiP p g v x-loP p g v x).toNat+1
def szP (p:Pr) (g:G) (i:Nat):Nat:=szX p g (i / p.vars.length) (i % p.vars.length)
abbrev nP (p:Pr) (g:G):Nat:=g.ids.length*p.vars.length
def J1e (p:Pr) (g:G):Nat:=Mx.pr (szP p g) 0 (nP p g)
def dgP (p:Pr) (g:G) (k v x:Nat):Nat:=Mx.dg (szP p g) (nP p g) k (v*p.vars.length+x)
def plP (p:Pr) (g:G) (v x:Nat):Nat:=Mx.pr (szP p g) (v*p.vars.length+x+1) (nP p g-(v*p.vars.length+x+1))
def cfK (p:Pr) (g:G) (k:Nat):Cf:=(List.range g.ids.length).map fun v=>(List.range p.vars.length).map fun x=>loP p g v x+dgP p g k v x
def dgC (p:Pr) (g:G) (c:Cf) (i:Nat):Nat:=(gI (gC c (i / p.vars.length)) (i % p.vars.length)-loP p g (i / p.vars.length) (i % p.vars.length)).toNat
def rkC (p:Pr) (g:G) (c:Cf):Nat:=Mx.vl (szP p g) (dgC p g c) 0 (nP p g)
theorem J2V (p:Pr) (g:G) (i:Nat):0<szP p g i:=Nat.succ_pos _
theorem Q3I (p:Pr) (g:G):0<J1e p g:=Mx.pr_pos (J2V p g) _ _
theorem J4U {m v x:Nat} (h:x<m):(v*m+x) / m=v:=by
 rw[Nat.mul_comm,Nat.mul_add_div (by omega),Nat.div_eq_of_lt h,Nat.add_zero]
theorem Q0z {m v x:Nat} (h:x<m):(v*m+x) % m=x:=by
 rw[Nat.mul_comm,Nat.mul_add_mod,Nat.mod_eq_of_lt h]
theorem J7L {m n v x:Nat} (hv:v<n) (hx:x<m):v*m+x<n*m:=by
 have:(v+1)*m<=n*m:=Nat.mul_le_mul_right _ hv;rw[Nat.add_mul] at this;omega
theorem X58 {m n i:Nat} (h:i<n*m):i / m<n/\i % m<m/\i / m*m+i % m=i:=by
 have hm:0<m:=by
  rcases Nat.eq_zero_or_pos m with e|e
  . subst e;simp at h
  . exact e
 exact⟨(Nat.div_lt_iff_lt_mul hm).2 h,Nat.mod_lt _ hm,by rw[Nat.mul_comm];exact Nat.div_add_mod i m⟩
theorem J3D (p:Pr) (g:G) {v x:Nat} (hx:x<p.vars.length):szP p g (v*p.vars.length+x)=szX p g v x:=by rw[szP,J4U hx,Q0z hx]
theorem Q6Q {p:Pr} (hp:J2I p) (g:G) (hg:g.valid=true) (v:Nat) {x:Nat} (hx:x<p.vars.length):loP p g v x<=hiP p g v x:=by
 obtain⟨f1,f2,f3,f4,f5,f6,f7⟩:=J0e hg;have ht:=Q5z hg;obtain⟨hk,h1,h2,h3,h4,h5⟩:=hp.var x hx;have m1:=Q0k h4 ht;have m2:(gV p.vars x).pn*1<=(gV p.vars x).pn*(g.ids.length:Int):=Int.mul_le_mul_of_nonneg_left (by omega) h3.1;rw[loP,hiP,bnd];split
 . simp only;omega
 . split
   . decide
   . simp only;omega
theorem J4j {p:Pr} (hp:J2I p) (g:G) (hg:g.valid=true) (v:Nat) {x:Nat} (hx:x<p.vars.length):(szX p g v x:Int)=hiP p g v x-loP p g v x+1:=by
 have:=Q6Q hp g hg v hx;rw[szX];omega
theorem J5s (p:Pr) (g:G) (k:Nat):(cfK p g k).length=g.ids.length:=by simp[cfK]
theorem J7r (p:Pr) (g:G) (k:Nat) {v:Nat} (hv:v<g.ids.length):gC (cfK p g k) v=(List.range p.vars.length).map fun x=>loP p g v x+dgP p g k v x:=by
 simp[gC,cfK,List.getD,hv]
theorem J3N (p:Pr) (g:G) (k:Nat) {v x:Nat} (hv:v<g.ids.length) (hx:x<p.vars.length):gI (gC (cfK p g k) v) x=loP p g v x+dgP p g k v x:=by
 rw[J7r p g k hv];simp[gI,List.getD,hx]
theorem Q7P (p:Pr) (g:G) (k v:Nat) {x:Nat} (hx:x<p.vars.length):dgP p g k v x<szX p g v x:=by
 have:=Mx.dg_lt (J2V p g) (nP p g) k (v*p.vars.length+x)
 rwa[J3D p g hx] at this
theorem J1T {p:Pr} (hp:J2I p) {g:G} (hg:g.valid=true) (k:Nat):J1s p g (cfK p g k):=by
 refine⟨J5s p g k,fun v hv=>?_,fun v hv x hx=>?_⟩
 . rw[J5s] at hv;rw[J7r p g k hv];simp
 . rw[J5s] at hv;rw[J3N p g k hv hx];have h1:=Q7P p g k v hx;have h2:=J4j hp g hg v hx;have h3:=Q6Q hp g hg v hx;show loP p g v x<=_/\_<=hiP p g v x;omega
theorem X1X {p:Pr} (hp:J2I p) {g:G} (hg:g.valid=true) {c:Cf} (hc:J1s p g c) (i:Nat) (hi:i<nP p g):dgC p g c i<szP p g i:=by
 obtain⟨h1,h2,h3⟩:=X58 hi;have hv:=hc.val _ (by rw[hc.len];exact h1) _ h2;change loP p g _ _<=_/\_<=hiP p g _ _ at hv;have h4:=J4j hp g hg (i / p.vars.length) h2;rw[dgC,szP];omega
theorem Q5Z {p:Pr} (hp:J2I p) {g:G} (hg:g.valid=true) {c:Cf} (hc:J1s p g c):rkC p g c<J1e p g :=
 Mx.vl_lt _ _ fun i _ h=>X1X hp hg hc i (by omega)
theorem X5s {p:Pr} {g:G} {k:Nat} (hk:k<J1e p g):rkC p g (cfK p g k)=k:=by
 have e:∀i,0<=i->i<0+nP p g->dgC p g (cfK p g k) i=Mx.dg (szP p g) (nP p g) k i:=fun i _ hi=>by
  obtain⟨h1,h2,h3⟩:=X58 (show i<g.ids.length*p.vars.length by simpa using hi);rw[dgC,J3N p g k h1 h2,dgP,h3];omega
 rw[rkC,Mx.vl_ext _ _ e];exact Mx.val_dg (J2V p g) hk
theorem X23 {a b:List Int} (h1:a.length=b.length) (h2:∀x,x<a.length->gI a x=gI b x):a=b :=
 List.ext_getElem h1 fun i q1 q2=>by
  have:=h2 i q1;simpa[gI,List.getD,q1,q2] using this
theorem X6E {a b:Cf} (h1:a.length=b.length) (h2:∀v,v<a.length->gC a v=gC b v):a=b :=
 List.ext_getElem h1 fun i q1 q2=>by
  have:=h2 i q1;simpa[gC,List.getD,q1,q2] using this
theorem X12 {p:Pr} (hp:J2I p) {g:G} (hg:g.valid=true) {c:Cf} (hc:J1s p g c):cfK p g (rkC p g c)=c:=by
 refine X6E (by rw[J5s,hc.len]) fun v hv=>?_;rw[J5s] at hv;have hr:=hc.row v (by rw[hc.len];exact hv);refine X23 (by rw[J7r p g _ hv,hr];simp) fun x hx=>?_;rw[J7r p g _ hv] at hx;simp only[List.length_map,List.length_range] at hx;rw[J3N p g _ hv hx,dgP,rkC,Mx.dg_val (J2V p g) (fun i hi=>X1X hp hg hc i hi) (J7L hv hx),dgC,J4U hx,Q0z hx];have:=(hc.val v (by rw[hc.len];exact hv) x hx).1;change loP p g v x<=_ at this;omega
theorem X26 (p:Pr) (g:G) (c d:Cf):(rkC p g d:Int)=rkC p g c+((List.range (nP p g)).map fun i=>((dgC p g d i:Int)-dgC p g c i)*Mx.pr (szP p g) (i+1) (nP p g-(i+1))).sum:=by
 have:=Mx.vl_diff (sz:=szP p g) (d:=dgC p g c) (e:=dgC p g d) (nP p g) 0;rw[rkC,rkC];simpa only[Nat.zero_add] using this
theorem Q2N (f:Nat->Int) (m:Nat):∀n,((List.range (n*m)).map f).sum=((List.range n).map fun v=>((List.range m).map fun x=>f (v*m+x)).sum).sum
 | 0=>by simp
 | n+1=>by
   rw[List.range_succ,List.map_append,List.sum_append,<- Q2N f m n];have e:(n+1)*m=n*m+m:=by rw[Nat.add_mul];omega
   rw[e];have e2:List.range (n*m+m)=List.range (n*m)++(List.range m).map (n*m+·):=List.range_add;rw[e2,List.map_append,List.sum_append,List.map_map];simp only[List.map_cons,List.map_nil,List.sum_cons,List.sum_nil,Int.add_zero];rfl
def grX (p:Pr) (g:G) (c d:Cf) (v:Nat):Int:=((List.range p.vars.length).map fun x=>(gI (gC d v) x-gI (gC c v) x)*(plP p g v x:Int)).sum
theorem X25 {p:Pr} {g:G} {c d:Cf} (hc:J1s p g c) (hd:J1s p g d):(rkC p g d:Int)=rkC p g c+((List.range g.ids.length).map fun v=>grX p g c d v).sum:=by
 rw[X26 p g c d,Q2N];congr 2;refine List.map_congr_left fun v hv=>?_;have hv:=List.mem_range.1 hv;congr 1;refine List.map_congr_left fun x hx=>?_;have hx:=List.mem_range.1 hx;have h1:=(hc.val v (by rw[hc.len];exact hv) x hx).1;have h2:=(hd.val v (by rw[hd.len];exact hv) x hx).1;change loP p g v x<=_ at h1 h2;rw[dgC,dgC,J4U hx,Q0z hx,plP];congr 1;omega
end Go.Proofs.YtlpfphlbghdokaaGreatDoor
namespace Go.Proofs.YtlpfphlbghdokaaGreatDoor
open Go.Eng
set_option maxRecDepth 100000
set_option linter.unusedVariables false
def gN (l:List Nat) (i:Nat):Nat:=l.getD i 0
def vU (l:List Nat):Nat->Nat->V:=fun i _=>.int .u32 (gN l i)
end Go.Proofs.YtlpfphlbghdokaaGreatDoor
namespace Go.Proofs.YtlpfphlbghdokaaGreatDoor
open Go.Eng
set_option maxRecDepth 100000
set_option linter.unusedVariables false
def J5H (e:Nat):Nat->List Nat
 | 0=>[]
 | b+1=>if e.testBit b then J5H e b++[2 ^ b] else J5H e b
theorem J6x {e b:Nat}:∀{v:Nat},b<=v->(∀j,b<=j->j<v->e.testBit j=false)->J5H e v=J5H e b
 | 0,h,_=>by rw[show b=0 by omega]
 | v+1,h,hz=>by
   by_cases e1:b=v+1
   . rw[e1]
   . rw[J5H,hz v (by omega) (by omega),if_neg (by simp)];exact J6x (by omega) (fun j a c=>hz j a (by omega))
theorem Q5K {e v:Nat} (h:e.testBit v=true):J5H e (v+1)=J5H e v++[2 ^ v]:=by rw[J5H,if_pos h]
theorem J8V (e:Nat):∀b,(J5H e b).length<=b
 | 0=>Nat.le_refl _
 | b+1=>by have:=J8V e b;rw[J5H];split<;>simp<;>omega
def chs (g:G) (k:Int) (e:Nat):List Nat×Int :=
 if e=0 then ([],0) else if k=1 then (J5H e 32,0) else if k=4 then ([e],0) else if cnt e 32 > 10 then ([],3) else ((Q1g e (J4p e)).filter (okC g k e),0)
def lst (l:List Nat):V:=.fz l.length 1 false (vU l)
theorem Q7l (l:List Nat) (a i:Nat):List.getD (l++[a]) i 0=if i<l.length then List.getD l i 0 else if i=l.length then a else 0:=by
 by_cases h:i<l.length
 . rw[if_pos h];simp only[List.getD];rw[List.getElem?_append_left h]
 . rw[if_neg h];by_cases e:i=l.length
   . subst e;simp[List.getD]
   . rw[if_neg e];simp[List.getD];rw[List.getElem?_eq_none (by simp;omega)];rfl
theorem Q2B (l:List Nat) (a:Nat) (x:Int) (hx:x=a) (i j:Nat) (hi:i<(l++[a]).length) (hj:j<1) :
 VLe (J5p (J0l 0 (vU l)) l.length (J0l 0 (tab [[.int .u32 x]])) i j) (vU (l++[a]) i j):=by
 apply VLe.of_eq;subst hx;rw[List.length_append] at hi;simp only[List.length_cons,List.length_nil] at hi;by_cases h:i<l.length
 . rw[J2c h];simp only[J0l,vU,gN,Q7l,if_pos h]
 . rw[J2d h];have:i=l.length:=by omega
   subst this;obtain rfl:j=0:=by omega
   simp[J0l,vU,gN,tab]
theorem Q6N (l:List Nat):VLe (.fz l.length 1 false (J0l 0 (vU l))) (lst l):=by
 refine VLe.fz rfl (fun h=>h) (fun i j hi hj=>VLe.of_eq ?_);simp only[J0l]
 try simp
set_option maxHeartbeats 8000000 in
theorem Q1R (g:G) (hg:g.valid=true) (k:Int) (e:Nat) (he:e<4294967296) (hp:J19 e (J2x g.ports.length)):RG 67 [.fz g.ports.length 1 false (X2z g),.int .i64 k,.int .u32 e] (.tup [lst (chs g k e).1,.int .i64 (chs g k e).2]):=by
 refine J3W rfl ?_;refine J0d J0b Tryz.func67 rfl hc67 hr67 rfl ?_;have hoc:=X87 e he;have hneg:J4a .and .u32 (((4294967296-e) % 4294967296:Nat):Int) (e:Int)=(J4p e:Nat):=by
  rw[J2h (Nat.mod_lt _ (by omega)) he,Nat.and_comm,J87 he]
 by_cases h0:e=0
 . rw[chs,if_pos h0]
   repeat' ((conv=>whnf);first|(refine Br.dec ?_ ?_<;>intro _<;>try omega))
   all_goals (conv=>whnf)
   all_goals exact VLe.tup ⟨VLe.nilfz rfl,VLe.rfl,True.intro⟩
 rw[chs,if_neg h0];by_cases k1:k=1
 . rw[if_pos k1]
   repeat' ((conv=>whnf);first|(refine Br.dec ?_ ?_<;>intro _<;>try omega)|(refine J0d J0b Tryz.func68 rfl X9U X9f rfl ?_)|(refine J1Y ?_)|(refine Chk.mk (by kernel_rfl) ?_)|(refine J0d J0b Tryz.func108 rfl X3G X3D rfl ?_))
   all_goals (conv=>whnf)
   refine J02 J0b [0,1] [3] [4,5,6,7,8,9,10,11,12,13,14,15,16,17,18,19,20,21,22,23,24,25,26,27,28,29] [3,2,1,0,999] (fun b:Nat=>[]) (fun own b=>(3,.vec (J5H e b).length 1 (vU (J5H e b)))::J1I (J1I own 0 (.cells [.vec 3 1 0 (J5H e b).length])) 1 (.cells [.int .u32 (upS e b)])) (fun m b=>m=32-b/\b<=32) 32 0 ⟨rfl,by omega⟩ rfl (fun _=>rfl) ?_ ?_
   . have hx:=J8M he;refine J0f (fun _ _=>[(0,some 0),(1,some 1),(2,some 2),(3,none),(999,some 999)]) ?_ ?_ rfl
     . repeat' (first|exact J0a.yld rfl|exact True.intro|(refine⟨⟨_,rfl,?_⟩,?_⟩)|exact J0a.loc rfl)
     . repeat' (first|exact J0a.int (by rw[hx])|(refine J0a.fn ?_)|(refine⟨rfl,rfl,rfl,rfl,rfl,?_⟩)|exact True.intro|exact⟨rfl,rfl,rfl⟩|(refine⟨⟨_,rfl,?_⟩,?_⟩)|exact J0a.kf rfl|exact J0a.loc rfl|exact J0a.nil rfl rfl|(refine⟨⟨_,_,rfl⟩,?_⟩)|(refine And.intro ?_ ?_))
   rintro m b ⟨hm,hb⟩;have hul:=Q2F e b;have hsl:=J8V e b;by_cases hu:upS e b=0
   . repeat' ((conv=>whnf);first|(refine Br.bne ?_ ?_<;>intro _<;>try omega)|(refine Len.mk (by omega) ?_))
     all_goals (conv=>whnf)
     have hx:J5H e 32=J5H e b:=J6x hb (fun j hj _=>Q1y he hu j hj);show VLe _ (V.tup [lst (J5H e 32),V.int IntKind.i64 0]);rw[hx];exact VLe.tup ⟨Q6N _,VLe.rfl,True.intro⟩
   . obtain⟨v1,v2,v3,v4,v5⟩:=J8N he hu;have htz:=X2B _ hu hul;have hr:J4a .and .u32 ((upS e b:Nat):Int) ((upS e b:Nat)-1:Int)=((upS e (ctz (upS e b)+1):Nat):Int):=by
      rw[<- v5,show((upS e b:Nat):Int)-1=((upS e b-1:Nat):Int) by omega,J2h hul (by omega)]
     generalize ctz (upS e b)=v at *;have hsg:J5H e (v+1)=J5H e b++[2 ^ v]:=by rw[Q5K v3,J6x v2 v4]
     repeat' ((conv=>whnf);first|(refine Br.tt ?_)|(refine Br.bne ?_ ?_<;>intro _<;>try omega)|(refine Br.nbeq ?_ ?_<;>intro _<;>try omega)|(refine Ar.u32 (by omega) (by omega) ?_)|(refine Ar.sh1 (by omega) ?_)|(refine Sv.mk _ rfl ?_)|(refine Nn.mk (by omega) ?_)|(refine Len.mk (by omega) ?_)|(refine htz.gog ?_)|(refine J1B J0b rfl rfl ?_))
     all_goals (conv=>whnf)
     all_goals
      refine⟨32-(v+1),v+1,by omega,⟨rfl,by omega⟩,?_⟩;simp only[hsg];refine J0f (fun env own=>[(0,some 0),(1,some 1),(2,some 2),(3,Q2f own 0 0),(999,some 999)]) ?_ ?_ rfl
      . repeat' (first|exact J0a.yld rfl|exact True.intro|(refine⟨⟨_,rfl,?_⟩,?_⟩)|exact J0a.loc rfl)
      . repeat' (first|exact J0a.int hr|exact J0a.vec rfl rfl (by rw[List.length_append];rfl)|(refine⟨by rw[List.length_append];exact Nat.le_refl _,rfl,fun i j hi hj=>?_⟩)|exact Q2B _ _ _ rfl _ _ hi hj|(refine J0a.fn ?_)|(refine⟨rfl,rfl,rfl,rfl,rfl,?_⟩)|exact True.intro|exact⟨rfl,rfl,rfl⟩|(refine⟨⟨_,rfl,?_⟩,?_⟩)|exact J0a.kf rfl|exact J0a.loc rfl|(refine And.intro ?_ ?_))
 rw[if_neg k1];by_cases k4:k=4
 . rw[if_pos k4]
   repeat' ((conv=>whnf);first|(refine Br.dec ?_ ?_<;>intro _<;>try omega)|(refine Len.mk (by omega) ?_))
   all_goals (conv=>whnf)
   all_goals
    refine VLe.tup ⟨VLe.fz rfl (fun h=>h) (fun i j hi hj=>?_),VLe.rfl,True.intro⟩;obtain rfl:i=0:=by omega
    obtain rfl:j=0:=by omega
    exact VLe.rfl
 rw[if_neg k4];have hcl:=J7k e 32;by_cases hc:cnt e 32 > 10
 . rw[if_pos hc]
   repeat' ((conv=>whnf);first|(refine Br.dec ?_ ?_<;>intro _<;>try omega)|(refine hoc.go ?_))
   all_goals (conv=>whnf)
   all_goals exact VLe.tup ⟨VLe.nilfz rfl,VLe.rfl,True.intro⟩
 rw[if_neg hc]
 repeat' ((conv=>whnf);first|(refine Ar.neg32 he ?_)|(refine Sv.mk _ hneg.symm ?_)|(refine Br.dec ?_ ?_<;>intro _<;>try omega)|(refine hoc.go ?_))
 all_goals (conv=>whnf)
 refine J02 J0b [0,1,2,8] [1] [2,3,4,5,6,7,8,9,10,11,12,13,14,15,16,17,18,19,20,21,22,23,24,25,26,27,28,29] [1,0,999] (fun p:Nat×List Nat=>[(10,.int .u32 p.1)]) (fun own p=>(1,.vec p.2.length 1 (vU p.2))::J1I own 0 (.cells [.vec 1 1 0 p.2.length])) (fun m p=>m=(if p.1=0 then 0 else 4294967297-p.1)/\J19 p.1 e/\p.2++(Q1g e p.1).filter (okC g k e)=(Q1g e (J4p e)).filter (okC g k e)/\p.2.length<=4294967296/\(p.1≠0->p.2.length<p.1)) _ (J4p e,[]) ⟨rfl,J1P he,rfl,by simp,fun h=>by simp only[List.length_nil];omega⟩ rfl (fun _=>rfl) ?_ ?_
 . exact J0k (fun _ _=>[(0,some 0),(1,none),(999,some 999)])
 rintro m ⟨s,acc⟩ ⟨hm,hps,htot,hl1,hl2⟩;simp only at hm hps htot hl1 hl2;have hse:=hps.le;by_cases hs0:s=0
 . repeat' ((conv=>whnf);first|(refine Br.bne ?_ ?_<;>intro _<;>try omega)|(refine Len.mk (by omega) ?_))
   all_goals (conv=>whnf)
   subst hs0;rw[J16,List.filter_nil,List.append_nil] at htot;show VLe _ (V.tup [lst ((Q1g e (J4p e)).filter (okC g k e)),V.int IntKind.i64 0]);rw[<- htot];exact VLe.tup ⟨Q6N _,VLe.rfl,True.intro⟩
 . have hpm:=Q1P g hg k e s he (by omega) hp;have hin:Q0A g k e s=okC g k e s:=by
    rw[Q0A,decide_eq_true ⟨hs0,(J1M (by omega)).2 hps⟩,Bool.true_and]
   rw[hin] at hpm;have hsub:=J3E he hps hs0;have hnx:J4a .and .u32 (((4294967296+s-e) % 4294967296:Nat):Int) (e:Int)=(nxt e s:Nat):=by
    rw[J2h (Nat.mod_lt _ (by omega)) he];rfl
   have hgt:nxt e s=0\/s<nxt e s:=by
    by_cases h:s=e
    . subst h;exact .inl (J3Z he)
    . exact .inr (J6P he hps h)
   have hnp:=J14 e s;have hnl:=Q6q (s:=s) he;have hl3:=hl2 hs0;cases hok:okC g k e s with
   | true =>
     rw[hok] at hpm;rw[hsub,List.filter_cons_of_pos (by rw[hok])] at htot
     repeat' ((conv=>whnf);first|(refine Ar.sub32 (by omega) he ?_)|(refine Sv.mk _ hnx.symm ?_)|(refine Br.tt ?_)|(refine Br.bne ?_ ?_<;>intro _<;>try omega)|(refine Br.nbeq ?_ ?_<;>intro _<;>try omega)|(refine Len.mk (by omega) ?_)|(refine Len.mk (by simp only[List.length_cons,List.length_nil];omega) ?_)|(refine hpm.gog ?_))
     all_goals (conv=>whnf)
     all_goals
      refine⟨_,(nxt e s,acc++[s]),?_,⟨rfl,hnp,by rw[<- htot];simp,by simp;omega,fun h=>by simp at h ⊢;omega⟩,?_⟩
      . simp only;rw[hm,if_neg hs0];split<;>omega
      . refine J0f (fun env own=>[(0,some 0),(1,Q2f own 0 0),(999,some 999)]) ?_ ?_ rfl
        . repeat' (first|exact True.intro|(refine⟨⟨_,rfl,?_⟩,?_⟩)|exact J0a.kf rfl|exact J0a.loc rfl)
        . repeat' (first|exact J0a.vec rfl rfl (by rw[List.length_append];rfl)|(refine⟨by rw[List.length_append];exact Nat.le_refl _,rfl,fun i j hi hj=>?_⟩)|exact Q2B _ _ _ rfl _ _ hi hj|exact True.intro|exact⟨rfl,rfl,rfl⟩|(refine⟨⟨_,rfl,?_⟩,?_⟩)|(refine And.intro ?_ ?_))
   | false =>
     rw[hok] at hpm;rw[hsub,List.filter_cons_of_neg (by rw[hok];simp)] at htot
     repeat' ((conv=>whnf);first|(refine Ar.sub32 (by omega) he ?_)|(refine Sv.mk _ hnx.symm ?_)|(refine Br.ff ?_)|(refine Br.bne ?_ ?_<;>intro _<;>try omega)|(refine hpm.gog ?_))
     all_goals (conv=>whnf)
     all_goals
      refine⟨_,(nxt e s,acc),?_,⟨rfl,hnp,htot,hl1,fun h=>by simp only at h ⊢;omega⟩,?_⟩
      . simp only;rw[hm,if_neg hs0];split<;>omega
      . exact J0k (fun env own=>[(0,some 0),(1,Q2f own 0 0),(999,some 999)])
end Go.Proofs.YtlpfphlbghdokaaGreatDoor
namespace Go.Proofs.YtlpfphlbghdokaaGreatDoor
open Go.Eng
set_option maxRecDepth 100000
set_option linter.unusedVariables false
theorem Q2R {E:Nat} (hE:E<4294967296):∀f s,J19 s E->E-s<=f->(Q1g E s).length<=f+1
 | f,s,hp,hf=>by
   by_cases h0:s=0
   . subst h0;rw[J16];simp
   . rw[J3E hE hp h0,List.length_cons];by_cases hs:s=E
     . subst hs;rw[J3Z hE,J16];simp
     . have h1:=J6P hE hp hs;have h2:=hp.le;cases f with
       | zero=>omega
       | succ f=>have:=Q2R hE f _ (J14 E s) (by have:=(J14 E s).le;omega);omega
end Go.Proofs.YtlpfphlbghdokaaGreatDoor
namespace Go.Proofs.YtlpfphlbghdokaaGreatDoor
open Go.Eng
set_option maxRecDepth 100000
set_option linter.unusedVariables false
theorem Q4h {c:Nat} (h0:c≠0) (hc:c<4294967296) (h:c &&& (c-1)=0):c=2 ^ ctz c:=by
 obtain⟨k1,k2,k3⟩:=J1R h0 hc;apply Nat.eq_of_testBit_eq;intro j;have:=Q3f k2 k3 j;rw[h,Nat.zero_testBit] at this;rw[Nat.testBit_two_pow];by_cases e:ctz c=j
 . subst e;rw[k2];simp
 . rw[decide_eq_false e];have hd:decide (j≠ctz c)=true:=by rw[decide_eq_true_eq];exact fun x=>e x.symm
   rw[hd,Bool.and_true] at this;exact this.symm
theorem Q1J {k j:Nat} (h:(2 ^ k:Nat).testBit j=true):k=j:=by rw[Nat.testBit_two_pow,decide_eq_true_eq] at h;exact h
theorem J53 {e c:Nat}:∀{b:Nat},c∈J5H e b↔∃v,v<b/\e.testBit v=true/\c=2 ^ v
 | 0=>by simp[J5H]
 | b+1=>by
   have ih:=J53 (e:=e) (c:=c) (b:=b);rw[J5H];constructor
   . intro h;split at h
     . rename_i hb;rcases List.mem_append.1 h with h|h
       . obtain⟨v,a,b',c'⟩:=ih.1 h;exact⟨v,by omega,b',c'⟩
       . exact⟨b,by omega,hb,by simpa using h⟩
     . obtain⟨v,a,b',c'⟩:=ih.1 h;exact⟨v,by omega,b',c'⟩
   . rintro⟨v,h1,h2,rfl⟩;by_cases e1:v=b
     . subst e1;rw[if_pos h2];simp
     . have:=ih.2 ⟨v,by omega,h2,rfl⟩;split
       . exact List.mem_append_left _ this
       . exact this
theorem J4k {e:Nat}:∀b,(J5H e b).Pairwise (·<·)
 | 0=>.nil
 | b+1=>by
   rw[J5H];split
   . refine List.pairwise_append.2 ⟨J4k b,by simp,fun x hx y hy=>?_⟩;obtain⟨v,h1,_,rfl⟩:=J53.1 hx;simp only[List.mem_singleton] at hy;subst hy;exact Nat.pow_lt_pow_right (by omega) h1
   . exact J4k b
theorem Q6k {j:Nat} (h:j≠0):(1:Nat).testBit j=false:=by
 have:=Nat.testBit_two_pow (n:=0) (m:=j);rw[Nat.pow_zero] at this;rw[this,decide_eq_false (by omega)]
theorem Q6r {E s t:Nat} (hE:E<4294967296) (hp:J19 s E) (hpt:J19 t E) (hst:s<t):nxt E s<=t:=by
 have hsE:=hp.le;have htE:=hpt.le;have hs:s<4294967296:=by omega
 have hne:s≠E:=by omega
 have hd0:J1w E s≠0:=by
  intro h;have:=((J1M hE).1 h).le;omega
 have hdlt:J1w E s<4294967296:=Nat.lt_of_le_of_lt Nat.and_le_left hE;obtain⟨k1,k2,k3⟩:=J1R hd0 hdlt;have hdis:s &&& J1w E s=0:=by
  apply Nat.eq_of_testBit_eq;intro i;rw[Nat.zero_testBit,Nat.testBit_and];by_cases hi:i<32
  . rw[J1b hi];cases s.testBit i<;>simp
  . rw[J07 hs (by omega)];rfl
 have hsum:s+J1w E s=E:=by
  rw[X2k hs hdlt hdis];apply Nat.eq_of_testBit_eq;intro i;rw[Nat.testBit_or];by_cases hi:i<32
  . rw[J1b hi];cases e:s.testBit i with
    | false=>simp
    | true=>rw[hp i e];rfl
  . rw[J07 hs (by omega),J07 hdlt (by omega),J07 hE (by omega)];rfl
 have hneg:(4294967296+s-E) % 4294967296=4294967296-J1w E s:=by omega
 generalize hk:ctz (J1w E s)=k at *;have hbit:∀i,i<32->(nxt E s).testBit i=((!(if i<k+1 then decide (i<k) else (J1w E s).testBit i))&&E.testBit i):=by
  intro i hi;have e:(4294967296:Nat)-J1w E s=2 ^ 32-((J1w E s-1)+1):=by omega
  rw[nxt,hneg,Nat.testBit_and,e,Nat.testBit_two_pow_sub_succ (by omega),J57 k2 k3];simp[hi]
 have hk2:=k2;rw[J1b k1,Bool.and_eq_true] at hk2;have hsk:s.testBit k=false:=by simpa using hk2.2
 -- below k the part is all of it
 have hlow:∀i,i<k->s.testBit i=E.testBit i:=fun i hi=>by
  have:=k3 i hi;rw[J1b (by omega)] at this;cases e:s.testBit i with
  | true=>rw[hp i e]
  | false=>rw[e] at this;simpa using this.symm
 -- the next one is t's high part at most
 have hlt:s / 2 ^ k<t / 2 ^ k:=by
  rcases Nat.lt_or_ge (s / 2 ^ k) (t / 2 ^ k) with h|h
  . exact h
  . exfalso;have h1:t / 2 ^ k=s / 2 ^ k:=Nat.le_antisymm h (Nat.div_le_div_right (Nat.le_of_lt hst));have h2:t % 2 ^ k<=s % 2 ^ k:=by
     apply J19.le;intro i hi;rw[Nat.testBit_mod_two_pow,Bool.and_eq_true,decide_eq_true_eq] at hi ⊢;exact⟨hi.1,by rw[hlow i hi.1];exact hpt i hi.2⟩
    have a1:=Nat.div_add_mod s (2 ^ k);have a2:=Nat.div_add_mod t (2 ^ k);rw[h1] at a2;omega
 have hn:nxt E s=2 ^ k*(s / 2 ^ k+1):=by
  have heven:s / 2 ^ k+1=s / 2 ^ k ||| 1:=by
   have h1:(s / 2 ^ k) % 2=0:=by
    rw[Nat.testBit_eq_decide_div_mod_eq,decide_eq_false_iff_not] at hsk;omega
   apply Nat.eq_of_testBit_eq;intro i;rw[Nat.testBit_or];cases i with
   | zero=>simp[Nat.testBit_zero];omega
   | succ i =>
     rw[Nat.testBit_succ,Nat.testBit_succ,Nat.testBit_succ,show(s / 2 ^ k+1) / 2=s / 2 ^ k / 2 by omega];simp
  apply Nat.eq_of_testBit_eq;intro i;rw[heven,Nat.testBit_two_pow_mul];by_cases hi:i<32
  . rw[hbit i hi];by_cases h1:i<k
    . rw[if_pos (by omega),decide_eq_true h1,decide_eq_false (by omega)];rfl
    . by_cases h2:i=k
      . subst h2;rw[if_pos (by omega),decide_eq_false (by omega),hk2.1];simp
      . rw[if_neg (by omega),J1b hi,decide_eq_true (by omega),Nat.testBit_or,Nat.testBit_div_two_pow,show i-k+k=i by omega,Q6k (show i-k≠0 by omega)];cases e:s.testBit i with
        | true=>rw[hp i e];rfl
        | false=>cases E.testBit i<;>rfl
  . have h3:(s / 2 ^ k ||| 1).testBit (i-k)=false:=by
     rw[Nat.testBit_or,Nat.testBit_div_two_pow,show i-k+k=i by omega,J07 hs (by omega)];rw[Q6k (by omega)];rfl
    rw[h3,J07 (Q6q hE) (by omega),Bool.and_false]
 rw[hn];exact Nat.le_trans (Nat.mul_le_mul_left _ hlt) (Nat.mul_div_le t (2 ^ k))
theorem Q2Q {E t:Nat} (hE:E<4294967296) (ht:J19 t E) (h0:t≠0):∀f s,J19 s E->s≠0->s<=t->t-s<=f->t∈Q1g E s
 | f,s,hp,hs0,hst,hf=>by
   rw[J3E hE hp hs0];by_cases e:t=s
   . subst e;simp
   . have htE:=ht.le;have hlt:s<t:=by omega
     have h1:=J6P hE hp (by omega);have h2:=Q6r hE hp ht hlt;cases f with
     | zero=>omega
     | succ f=>exact List.mem_cons_of_mem _ (Q2Q hE ht h0 f _ (J14 E s) (by omega) h2 (by omega))
theorem J6v {E:Nat} (hE:E<4294967296):∀f s,J19 s E->E-s<=f->(Q1g E s).Pairwise (·<·)
 | f,s,hp,hf=>by
   by_cases h0:s=0
   . subst h0;rw[J16];exact .nil
   . rw[J3E hE hp h0];by_cases hs:s=E
     . subst hs;rw[J3Z hE,J16];simp
     . have h1:=J6P hE hp hs;have h2:=hp.le;have h3:=(J14 E s).le;refine List.Pairwise.cons (fun t ht=>?_) ?_
       . have:=(J4J hE (E-nxt E s) _ (J14 E s) (Nat.le_refl _) t ht).2.2;omega
       . cases f with
         | zero=>omega
         | succ f=>exact J6v hE f _ (J14 E s) (by omega)
theorem Q4s {E t:Nat} (hE:E<4294967296) (ht:J19 t E) (h0:t≠0):J4p E<=t:=by
 have htE:=ht.le;have ht32:t<4294967296:=by omega
 obtain⟨k1,k2,k3⟩:=J1R h0 ht32;obtain⟨j1,j2,j3⟩:=J1R (s:=E) (by omega) hE;have h1:ctz E<=ctz t:=by
  rcases Nat.lt_or_ge (ctz t) (ctz E) with h|h
  . have:=j3 _ h;rw[ht _ k2] at this;cases this
  . exact h
 have h2:2 ^ ctz t<=t:=by
  have:=(J1P ht32).le;rw[J4p,if_neg h0] at this;exact this
 rw[J4p,if_neg (by omega)];exact Nat.le_trans (Nat.pow_le_pow_right (n:=2) (by omega) h1) h2
theorem Q8d {g:G} {k:Int} {e:Nat} (hk:dk k=true) (h:(chs g k e).2≠0):(chs g k e).2=3/\(chs g k e).1=[]/\cnt e 32 > 10/\(k=2\/k=3):=by
 rw[Q7N] at hk;unfold chs at h ⊢;split at h
 . exact absurd rfl h
 . split at h
   . exact absurd rfl h
   . split at h
     . exact absurd rfl h
     . split at h
       . rename_i h0 k1 k4 hc;rw[if_neg h0,if_neg k1,if_neg k4,if_pos hc];exact⟨rfl,rfl,hc,by omega⟩
       . exact absurd rfl h
theorem J7q {g:G} {k:Int} {e c:Nat} (hk:dk k=true) (he:e<4294967296) (hc:c<4294967296) (h:(chs g k e).2=0):c∈(chs g k e).1↔Q0A g k e c=true:=by
 rw[Q7N] at hk;rw[J2D,J1M hc];unfold chs at h ⊢;split
 . rename_i h0;subst h0;constructor
   . intro x;cases x
   . rintro⟨a,b,_⟩;exact absurd (Nat.le_zero.1 b.le) a
 . rename_i h0;rw[if_neg h0] at h;split
   . rename_i k1;subst k1;rw[okC1];show c∈J5H e 32↔_;rw[J53];constructor
     . rintro⟨v,h1,h2,rfl⟩;exact⟨Nat.ne_of_gt (Nat.two_pow_pos _),fun i hi=>by rw[<- Q1J hi];exact h2,J76 v⟩
     . rintro⟨h1,h2,h3⟩;obtain⟨j1,j2,j3⟩:=J1R h1 hc;exact⟨ctz c,j1,h2 _ j2,Q4h h1 hc h3⟩
   . rename_i k1;rw[if_neg k1] at h;split
     . rename_i k4;subst k4;rw[okC4];show c∈[e]↔_;rw[List.mem_singleton];exact⟨fun x=>by subst x;exact⟨h0,fun i h=>h,rfl⟩,fun x=>x.2.2⟩
     . rename_i k4;rw[if_neg k4] at h;split
       . rename_i hc';rw[if_pos hc'] at h;cases h
       . show c∈(Q1g e (J4p e)).filter (okC g k e)↔_;rw[List.mem_filter];constructor
         . rintro⟨h1,h2⟩;have:=J4J he (e-J4p e) (J4p e) (J1P he) (Nat.le_refl _) c h1;exact⟨this.2.1,this.1,h2⟩
         . rintro⟨h1,h2,h3⟩;exact⟨Q2Q he h2 h1 _ _ (J1P he) (Q1T h0) (Q4s he h2 h1) (Nat.le_refl _),h3⟩
theorem J8u {g:G} {k:Int} {e:Nat} (he:e<4294967296):(chs g k e).1.Pairwise (·<·):=by
 unfold chs;split
 . exact .nil
 . split
   . exact J4k 32
   . split
     . show[e].Pairwise (·<·);simp
     . split
       . exact .nil
       . exact(J6v he _ _ (J1P he) (Nat.le_refl _)).filter _
theorem J43 {g:G} {k:Int} {e:Nat} (he:e<4294967296):∀c∈(chs g k e).1,c<4294967296:=by
 unfold chs;split
 . intro c hc;cases hc
 . split
   . intro c hc;obtain⟨v,h1,_,rfl⟩:=J53.1 hc;exact J3Y h1
   . split
     . intro c hc;have:c=e:=by simpa using hc
       omega
     . split
       . intro c hc;cases hc
       . intro c hc;have hc':c∈(Q1g e (J4p e)).filter (okC g k e):=hc;have:=(J4J he (e-J4p e) (J4p e) (J1P he) (Nat.le_refl _) c (List.mem_filter.1 hc').1).1.le;omega
theorem X0J {g:G} (hg:g.valid=true) {k:Int} {e:Nat} (hk:dk k=true) (he:e<4294967296) (hp:J19 e (J2x g.ports.length)) (h:(chs g k e).2=0):(chs g k e).1.length > 0↔e≠0:=by
 constructor
 . intro h1 h0;subst h0;rw[chs,if_pos rfl] at h1;simp at h1
 . intro h0;have h1:=Q9B hg hk he hp h0 (w:=0);have h2:rs g k e 0<4294967296:=by
    obtain⟨_,a,_⟩:=J2D.1 h1;by_cases h4:k=4
    . subst h4;rw[rs,if_neg (by decide),if_neg (by decide),if_pos rfl];exact he
    . exact Nat.lt_of_le_of_lt (Q5R he h4).le (Q5d he)
   exact List.length_pos_of_mem ((J7q hk he h2 h).2 h1)
theorem X4l {g:G} {k:Int} {e:Nat} (he:e<4294967296):(chs g k e).1.length<=5000000000:=by
 unfold chs;split
 . show([]:List Nat).length<=_;simp
 . split
   . have:=J8V e 32;show(J5H e 32).length<=_;omega
   . split
     . show[e].length<=_;simp
     . split
       . show([]:List Nat).length<=_;simp
       . show((Q1g e (J4p e)).filter (okC g k e)).length<=_;have h1:=List.length_filter_le (okC g k e) (Q1g e (J4p e));have h2:=Q2R he (e-J4p e) (J4p e) (J1P he) (Nat.le_refl _);omega
end Go.Proofs.YtlpfphlbghdokaaGreatDoor
namespace Go.Proofs.YtlpfphlbghdokaaGreatDoor
open Go.Eng Go.Plain
set_option maxRecDepth 100000
set_option linter.unusedVariables false
def J7P (p:Pr) (g:G) (kd:Int) (k:Nat):List (Nat×Nat):=(chs g kd (enN p g (cfK p g k))).1.map fun s=>(s,rkC p g (J0R p g (cfK p g k) s))
def toK (p:Pr) (g:G) (kd:Int) (k:Nat):List Nat:=(J7P p g kd k).map (·.2)
def J59 (p:Pr) (g:G) (leg:Cf->Bool) (k:Nat):Bool:=leg (cfK p g k)
structure J7B (p:Pr) (g:G) (kd:Int) (c:Cf) (s:Nat):Prop where
 ne:s≠0
 part:J19 s (enN p g c)
 okc:okC g kd (enN p g c) s=true
 lt:s<16777216
inductive Lng (p:Pr) (g:G) (kd:Int) (leg:Cf->Bool):Nat->Cf->Prop
 | nil (c:Cf):Lng p g kd leg 0 c
 | step {t:Nat} {c:Cf} (s:Nat) (h:J7B p g kd c s) (hl:leg (J0R p g c s)=false) (hn:Lng p g kd leg t (J0R p g c s)):Lng p g kd leg (t+1) c
structure Srv (p:Pr) (g:G) (kd:Int) (leg:Cf->Bool) (R M:Int) (Inv:Cf->Cnt->Prop):Prop where
 closed:∀c s,J1s p g c->leg c=true->J7B p g kd c s->leg (J0R p g c s)=true
 en:∀c,J1s p g c->leg c=false->enN p g c≠0
 start:∀c,J1s p g c->leg c=false->Inv c (X41 (enN p g c))
 step:∀c n s,J1s p g c->Inv c n->leg c=false->J7B p g kd c s->leg (J0R p g c s)=false->Inv (J0R p g c s) (n.add s (enN p g (J0R p g c s)))
 rounds:∀c n,J1s p g c->Inv c n->leg c=false->(n.rounds:Int)+1<=R
 moves:0<=M->∀c n s,J1s p g c->Inv c n->leg c=false->J7B p g kd c s->(n.moves:Int)+cnt s 32<=M
 ends:∃T,∀c,J1s p g c->leg c=false->¬ Lng p g kd leg T c
end Go.Proofs.YtlpfphlbghdokaaGreatDoor
namespace Go.Proofs.YtlpfphlbghdokaaGreatDoor
open Go.Eng Go.Plain
set_option maxRecDepth 100000
set_option linter.unusedVariables false
structure X65 (p:Pr) (g:G) (kd:Int) (leg:Cf->Bool) (R:Int) (Inv:Cf->Cnt->Prop):Prop where
 closed:∀c s,J1s p g c->leg c=true->J7B p g kd c s->leg (J0R p g c s)=true
 en:∀c,J1s p g c->leg c=false->enN p g c≠0
 start:∀c,J1s p g c->leg c=false->Inv c (X41 (enN p g c))
 step:∀c n s,J1s p g c->Inv c n->leg c=false->J7B p g kd c s->leg (J0R p g c s)=false->Inv (J0R p g c s) (n.add s (enN p g (J0R p g c s)))
 rounds:∀c n,J1s p g c->Inv c n->leg c=false->(n.rounds:Int)+1<=R
inductive Pth (p:Pr) (g:G) (kd:Int) (leg:Cf->Bool) (k:Nat) (n:Cnt):Nat->Cnt->Prop
 | nil:Pth p g kd leg k n k n
 | step {k1 k2:Nat} {n1:Cnt} (h:Pth p g kd leg k n k1 n1) (s:Nat) (hs:(s,k2)∈J7P p g kd k1) (hl:J59 p g leg k2=false):Pth p g kd leg k n k2 (n1.add s (enN p g (cfK p g k2)))
variable {p:Pr} {g:G} {kd:Int} {leg:Cf->Bool}
theorem Pth.trans {k k1 k2:Nat} {n n1 n2:Cnt} (h:Pth p g kd leg k n k1 n1) (h':Pth p g kd leg k1 n1 k2 n2):Pth p g kd leg k n k2 n2:=by
 induction h' with
 | nil=>exact h
 | step _ s hs hl ih=>exact .step ih s hs hl
theorem Q6b {k t:Nat} (h:Tj.Rch (toK p g kd) (J59 p g leg) k t) (n:Cnt):∃n',Pth p g kd leg k n t n':=by
 induction h with
 | refl=>exact⟨n,.nil⟩
 | step _ ht hl ih =>
   obtain⟨n1,h1⟩:=ih;obtain⟨⟨s,u⟩,hm,e⟩:=List.mem_map.1 ht;simp only at e;subst e;exact⟨_,.step h1 s hm hl⟩
theorem J9A (n:Cnt) (s e:Nat):n.rounds<=(n.add s e).rounds/\((n.add s e).rounds=n.rounds->J19 (n.add s e).pend n.pend/\∀v,s.testBit v=true->v<32->(n.add s e).pend.testBit v=false)/\J19 (n.add s e).pend e:=by
 rw[Cnt.add];split
 . refine⟨by simp only;omega,fun h=>by simp only at h;omega,fun _ h=>h⟩
 . refine⟨Nat.le_refl _,fun _=>⟨fun i h=>?_,fun v hv hv2=>?_⟩,fun i h=>?_⟩
   . simp only[lft,J1w,Nat.testBit_and,Bool.and_eq_true] at h;exact h.1.1
   . simp only[lft,Nat.testBit_and,J1b hv2,hv];simp
   . simp only[lft,Nat.testBit_and,Bool.and_eq_true] at h;exact h.2
theorem Pth.mono {k t:Nat} {n n':Cnt} (h:Pth p g kd leg k n t n'):n.rounds<=n'.rounds/\(n'.rounds=n.rounds->J19 n'.pend n.pend):=by
 induction h with
 | nil=>exact⟨Nat.le_refl _,fun _ _ h=>h⟩
 | step _ s hs hl ih =>
   rename_i k1 k2 n1 _;obtain⟨h1,h2⟩:=ih;obtain⟨a1,a2,_⟩:=J9A n1 s (enN p g (cfK p g k2));refine⟨by omega,fun e i hi=>?_⟩;exact h2 (by omega) i ((a2 (by omega)).1 i hi)
structure X67 (p:Pr) (g:G) (k:Nat) (n:Cnt):Prop where
 part:J19 n.pend (enN p g (cfK p g k))
 ne:n.pend≠0
theorem Pth.pd {k t:Nat} {n n':Cnt} (h:Pth p g kd leg k n t n') (hen:∀k,J59 p g leg k=false->enN p g (cfK p g k)≠0) (h0:X67 p g k n):X67 p g t n':=by
 induction h with
 | nil=>exact h0
 | step _ s hs hl ih =>
   rename_i k1 k2 n1 _;refine⟨(J9A n1 s _).2.2,?_⟩;rw[Cnt.add];split
   . exact hen _ hl
   . rename_i q;exact q
theorem Pth.inv (hp:J2I p) (hg:g.valid=true) {R:Int} {Inv:Cf->Cnt->Prop} (hS:X65 p g kd leg R Inv) (hch:∀k,k<J1e p g->∀s,s∈(chs g kd (enN p g (cfK p g k))).1->J7B p g kd (cfK p g k) s) {k t:Nat} {n n':Cnt}
 (h:Pth p g kd leg k n t n') (hk:k<J1e p g) (hl:J59 p g leg k=false) (hi:Inv (cfK p g k) n):t<J1e p g/\J59 p g leg t=false/\Inv (cfK p g t) n':=by
 induction h with
 | nil=>exact⟨hk,hl,hi⟩
 | step _ s hs hl' ih =>
   rename_i k1 k2 n1 _;obtain⟨h1,h2,h3⟩:=ih;obtain⟨s',hm,e⟩:=List.mem_map.1 hs;cases e;have hst:=hch k1 h1 s hm;have hc':=J17 hp hg (J1T hp hg k1) hst.part;have e:=X12 hp hg hc';refine⟨Q5Z hp hg hc',hl',?_⟩;rw[e];rw[J59,e] at hl';exact hS.step _ _ _ (J1T hp hg k1) h3 h2 hst hl'
structure Y03 (p:Pr) (g:G) (kd:Int) (leg:Cf->Bool) (M:Nat->Prop):Prop where
 in_:∀k,M k->k<J1e p g/\J59 p g leg k=false
 scc:∀k t,M k->M t->Tj.Rch (toK p g kd) (J59 p g leg) k t
 served:∀v,v<24->∃k,M k/\((enN p g (cfK p g k)).testBit v=false\/∃s t,(s,t)∈J7P p g kd k/\M t/\s.testBit v=true)
 some:∃k,M k
theorem Q4C {M:Nat->Prop} (hM:Y03 p g kd leg M) (hen:∀k,J59 p g leg k=false->enN p g (cfK p g k)≠0) {k0:Nat} (hk:M k0) {v:Nat} (hv:v<24) {n:Cnt} (h0:X67 p g k0 n) :
 ∃n',Pth p g kd leg k0 n k0 n'/\(n'.rounds=n.rounds->n'.pend.testBit v=false):=by
 obtain⟨j,hj,q⟩:=hM.served v hv;obtain⟨n1,p1⟩:=Q6b (hM.scc k0 j hk hj) n;rcases q with q | ⟨s,t,hs,ht,hb⟩
 . obtain⟨n2,p2⟩:=Q6b (hM.scc j k0 hj hk) n1;refine⟨n2,p1.trans p2,fun e=>?_⟩;have m1:=p1.mono;have m2:=p2.mono;have h1:=(p1.pd hen h0).part;cases x:n2.pend.testBit v with
   | false=>rfl
   | true =>
     have:=h1 v (m2.2 (by omega) v x);rw[q] at this;cases this
 . have p2:Pth p g kd leg k0 n t _:=.step p1 s hs (hM.in_ t ht).2;obtain⟨n3,p3⟩:=Q6b (hM.scc t k0 ht hk) (n1.add s (enN p g (cfK p g t)));refine⟨n3,p2.trans p3,fun e=>?_⟩;have m1:=p1.mono;have m3:=p3.mono;obtain⟨a1,a2,_⟩:=J9A n1 s (enN p g (cfK p g t));cases x:n3.pend.testBit v with
   | false=>rfl
   | true =>
     have:=m3.2 (by omega) v x;rw[(a2 (by omega)).2 v hb (by omega)] at this;cases this
theorem Q4D {M:Nat->Prop} (hM:Y03 p g kd leg M) (hg:g.valid=true) (hen:∀k,J59 p g leg k=false->enN p g (cfK p g k)≠0) {k0:Nat} (hk:M k0) {n:Cnt} (h0:X67 p g k0 n) :
 ∃n',Pth p g kd leg k0 n k0 n'/\n.rounds<n'.rounds:=by
 have key:∀m,m<=24->∃n',Pth p g kd leg k0 n k0 n'/\(n'.rounds=n.rounds->∀v,v<m->n'.pend.testBit v=false):=by
  intro m
  induction m with
  | zero=>intro _;exact⟨n,.nil,fun _ v hv=>by omega⟩
  | succ m ih =>
    intro hm;obtain⟨n1,p1,h1⟩:=ih (by omega);obtain⟨n2,p2,h2⟩:=Q4C hM hen hk (v:=m) (by omega) (p1.pd hen h0);have m1:=p1.mono;have m2:=p2.mono;refine⟨n2,p1.trans p2,fun e v hv=>?_⟩;by_cases q:v=m
    . subst q;exact h2 (by omega)
    . cases x:n2.pend.testBit v with
      | false=>rfl
      | true =>
        have:=m2.2 (by omega) v x;rw[h1 (by omega) v (by omega)] at this;cases this
 obtain⟨n',p',h'⟩:=key 24 (Nat.le_refl _);refine⟨n',p',?_⟩;apply Classical.byContradiction;intro hn;have m':=p'.mono;have hpd:=p'.pd hen h0;refine hpd.ne (Nat.eq_of_testBit_eq fun v=>?_);rw[Nat.zero_testBit];by_cases hv:v<24
 . exact h' (by omega) v hv
 . cases x:n'.pend.testBit v with
   | false=>rfl
   | true =>
     have h1:=hpd.part v x;have h2:=X0q p hg (cfK p g k0);have:(enN p g (cfK p g k0)).testBit v=false:=Nat.testBit_lt_two_pow (Nat.lt_of_lt_of_le (show _<2 ^ 24 from h2) (Nat.pow_le_pow_right (by omega) (by omega)));rw[this] at h1;cases h1
theorem Q66 (hp:J2I p) (hg:g.valid=true) {R:Int} {Inv:Cf->Cnt->Prop} (hS:X65 p g kd leg R Inv) (hch:∀k,k<J1e p g->∀s,s∈(chs g kd (enN p g (cfK p g k))).1->J7B p g kd (cfK p g k) s)
 {M:Nat->Prop}:¬ Y03 p g kd leg M:=fun hM=>by
 have hen:∀k,J59 p g leg k=false->enN p g (cfK p g k)≠0:=fun k hl=>hS.en _ (J1T hp hg k) hl;obtain⟨k0,hk⟩:=hM.some;obtain⟨hlt,hl⟩:=hM.in_ k0 hk;have hst:=hS.start _ (J1T hp hg k0) hl;have h0:X67 p g k0 (X41 (enN p g (cfK p g k0))):=⟨fun _ h=>h,hen k0 hl⟩;have key:∀m,∃n',Pth p g kd leg k0 (X41 (enN p g (cfK p g k0))) k0 n'/\m<=n'.rounds:=by
  intro m
  induction m with
  | zero=>exact⟨_,.nil,Nat.zero_le _⟩
  | succ m ih =>
    obtain⟨n1,p1,h1⟩:=ih;obtain⟨n2,p2,h2⟩:=Q4D hM hg hen hk (p1.pd hen h0);exact⟨n2,p1.trans p2,by omega⟩
 obtain⟨n',p',h'⟩:=key R.toNat;obtain⟨_,_,hi⟩:=p'.inv hp hg hS hch hlt hl hst;have:=hS.rounds _ n' (J1T hp hg k0) hi hl;omega
end Go.Proofs.YtlpfphlbghdokaaGreatDoor
namespace Go.Proofs.YtlpfphlbghdokaaGreatDoor
open Go.Eng Go.Plain
set_option maxRecDepth 100000
set_option linter.unusedVariables false
set_option maxHeartbeats 16000000 in
theorem X0i (s:Tsy) (hs:s.Ok) (lg:Nat->Bool) (hne:∀k,k<s.n->lg k=false->s.ar k≠[]) (hno:∀c,Q36 s lg c->∀u:Nat,¬ (X7v s c u/\∀v,v<24->SvW s c u v)) :
 Ret Tryz.prog 12 [s.v,blV s.n lg] (.tup [blV s.n fun _=>false,.int .i64 0]):=by
 have n1:=hs.n1;have n2:=hs.n2;have hch:=Q02 s hs lg;have hcm:=J9o s hs lg;refine J0g rfl ?_;refine J0d J0b Tryz.func12 rfl hc12 hr12 rfl ?_
 repeat' ((conv=>whnf);first|(refine Br.ff ?_)|(refine Bd.nat (by omega) ?_)|(refine Len.mk (by omega) ?_)|(refine MkS.vec ?_)|(refine hch.go ?_)|(refine hcm.go ?_;rintro _ ⟨c,hC,rfl⟩;have hkp:=X3w s hs c (fun k hk=>by cases e:lg k with|true=>have:=hC.leg k hk e;omega|false=>have:=hC.out k hk e;omega) (hno c hC))|(refine hkp.go ?_))
 all_goals (conv=>whnf)
 refine J02 J0b [1,2,7,8,9,10,11,36,37] [] [3,4,5,6,7,8,9,10,11,12,13,14,15,16,17,18,19,20,21,22,23,24,25,26,27,28,29] [2,1,0] (fun x:Nat×(Nat->List Nat)=>[(38,.int .i64 x.1)]) (fun own x=>J1I own 1 (.fam s.n 1 (Q4u x.2) (X24 x.2) [])) (fun m x=>m=s.n-x.1/\x.1<=s.n/\∀t,(x.2 t).length<=s.tot x.1) s.n (0,fun _=>[]) ⟨rfl,Nat.zero_le _,fun t=>Nat.zero_le _⟩ rfl (fun _=>rfl) ?_ ?_
 . refine J0f (fun _ _=>[(2,some 2),(1,some 1),(0,some 0)]) ?_ ?_ rfl
   . repeat' (first|exact True.intro|(refine⟨⟨_,rfl,?_⟩,?_⟩)|exact J0a.kf rfl|exact J0a.loc rfl|exact J0a.vec rfl rfl rfl)
   . repeat' (first|exact⟨rfl,rfl,rfl,fun i hi=>⟨rfl,rfl⟩⟩|exact True.intro|(refine⟨⟨_,rfl,?_⟩,?_⟩)|exact J0a.kf rfl|(refine⟨Nat.le_refl _,rfl,fun i j hi hj=>?_⟩)|exact VLe.rfl|(refine And.intro ?_ ?_))
 rintro m x ⟨hm,hx,hF⟩;have htm:=J24 (fun k=>(s.ar k).length) hx;have htt:=hs.tot;by_cases hxn:x.1<s.n
 . have hrow:=hs.row hxn;have harc:=hs.arc x.1 hxn;cases hlg:lg x.1 with
   | true =>
     repeat' ((conv=>whnf);first|(refine Br.mk (fun _=>?_) (fun e=>Bool.noConfusion (e.symm.trans hlg)))|(refine Br.dec ?_ ?_<;>intro _<;>try omega)|(refine Ar.i64 (by omega) (by omega) ?_)|(refine Ix.nat (by omega) ?_))
     all_goals (conv=>whnf)
     refine⟨s.n-(x.1+1),(x.1+1,x.2),by omega,⟨rfl,hxn,fun t=>Nat.le_trans (hF t) (J24 _ (Nat.le_succ _))⟩,?_⟩;refine J0f (fun _ _=>[(2,some 2),(1,some 1),(0,some 0)]) ?_ ?_ rfl
     . repeat' (first|exact True.intro|(refine⟨⟨_,rfl,?_⟩,?_⟩)|exact J0a.kf rfl|exact J0a.loc rfl|exact J0a.vec rfl rfl rfl)
     . repeat' (first|exact⟨rfl,rfl,True.intro,fun i hi=>rfl,fun i j t hi hn hj ht=>VLe.rfl⟩|exact True.intro|(refine⟨⟨_,rfl,?_⟩,?_⟩)|exact J0a.kf rfl|(refine⟨Nat.le_refl _,rfl,fun i j hi hj=>?_⟩)|exact VLe.rfl|(refine And.intro ?_ ?_))
   | false =>
     have hl0:(s.ar x.1).length≠0:=fun e=>hne x.1 hxn hlg (List.length_eq_zero_iff.1 e);have hc:=hC.out x.1 hxn hlg;obtain⟨u,hu⟩:∃u:Nat,c x.1=u:=⟨(c x.1).toNat,by omega⟩;have hun:u<mxC c s.n:=by have:=Q6A c hxn;omega
     repeat' ((conv=>whnf);first|(refine Br.mk (fun e=>Bool.noConfusion (e.symm.trans hlg)) (fun _=>?_))|(refine Ix.mk u (by rw[hu]) hun ?_)|(refine Br.ff ?_)|(refine Br.dec ?_ ?_<;>intro _<;>try omega)|(refine Ix.nat (by omega) ?_))
     all_goals (conv=>whnf)
     refine J02 J0b [1,2,7,8,9,10,11,12,36,37,38,72,73] [3] [4,5,6,7,8,9,10,11,12,13,14,15,16,17,18,19,20,21,22,23,24,25,26,27,28,29] [3,2,1,0] (fun y:Nat×(Nat->List Nat)=>[(74,.int .i64 y.1)]) (fun own y=>(3,.vec (if y.1<(s.ar x.1).length then Q4u y.2 (gA (s.ar x.1) y.1).2 else 0) 1 (X24 y.2 (gA (s.ar x.1) y.1).2))::J1I (J1I own 1 (.fam s.n 1 (Q4u y.2) (X24 y.2) [])) 1 (.fam s.n 1 (Q4u y.2) (X24 y.2) (X7d (decide (y.1<(s.ar x.1).length)) (gA (s.ar x.1) y.1).2 3))) (fun m y=>m=(s.ar x.1).length-y.1/\y.1<=(s.ar x.1).length/\∀t,(y.2 t).length<=s.tot x.1+y.1) (s.ar x.1).length (0,x.2) ⟨rfl,Nat.zero_le _,hF⟩ rfl (fun _=>rfl) ?_ ?_
     . have h1:0<(s.ar x.1).length:=by omega
       obtain⟨b1,b2,b3⟩:=harc _ (J4Y h1);simp only[decide_eq_true h1,X7d,if_true,if_pos h1];refine J3t.trans ?_ (J09 (ks:=[3,4,5,6,7,8,9,10,11,12,13,14,15,16,17,18,19,20,21,22,23,24,25,26,27,28,29]) rfl rfl rfl b3 rfl) (ksC rfl);refine J0f (fun _ _=>[(2,some 2),(1,some 1),(0,some 0)]) ?_ ?_ rfl
       . repeat' (first|exact True.intro|(refine⟨⟨_,rfl,?_⟩,?_⟩)|exact J0a.kf rfl|exact J0a.loc rfl|exact J0a.vec rfl rfl rfl)
       . repeat' (first|exact⟨rfl,rfl,True.intro,fun i hi=>rfl,fun i j t hi hn hj ht=>VLe.rfl⟩|exact True.intro|(refine⟨⟨_,rfl,?_⟩,?_⟩)|exact J0a.kf rfl|(refine⟨Nat.le_refl _,rfl,fun i j hi hj=>?_⟩)|exact VLe.rfl|(refine And.intro ?_ ?_))
     rintro m2 y ⟨hm2,hy,hG⟩;have htx:s.tot (x.1+1)=s.tot x.1+(s.ar x.1).length:=rfl;have htl:s.tot (x.1+1)<=s.tot s.n:=J24 _ hxn;by_cases hyn:y.1<(s.ar x.1).length
     . obtain⟨a1,a2,a3⟩:=harc _ (J4Y hyn);have hlen:Q4u y.2 (gA (s.ar x.1) y.1).2<=262144:=by have:=hG (gA (s.ar x.1) y.1).2;rw[Q4u];omega
       simp only[decide_eq_true hyn,X7d,if_true,if_pos hyn]
       repeat' ((conv=>whnf);first|(refine Br.dec ?_ ?_<;>intro _<;>try omega)|(refine Br.nbeq ?_ ?_<;>intro _<;>try omega)|(refine Ar.i64 (by omega) (by omega) ?_)|(refine Ix.nat (by omega) ?_)|(refine Len.mk (by omega) ?_)|(refine Ltn.mk (by omega) ?_)|(refine Opn.hd (by omega) ?_)|(refine J1W.hd (by omega) ?_)|(refine And.intro rfl ?_))
       all_goals (conv=>whnf)
       refine⟨(s.ar x.1).length-(y.1+1),(y.1+1,X42 y.2 (gA (s.ar x.1) y.1).2 x.1),by omega,⟨rfl,hyn,fun t=>?_⟩,?_⟩
       . have h1:=hG t;have h2:=Q3h y.2 (gA (s.ar x.1) y.1).2 x.1 t;have h3:=hG (gA (s.ar x.1) y.1).2;rw[Q4u] at h2;show(X42 y.2 (gA (s.ar x.1) y.1).2 x.1 t).length<=s.tot x.1+(y.1+1);rw[h2];split
         . omega
         . rw[Q4u];omega
       refine J3t.trans (J15 (J1i (q:=6) (k:=1) (i:=(gA (s.ar x.1) y.1).2) [] rfl rfl a3 (J0n rfl) (Nat.le_of_eq (if_pos rfl)) rfl (fun j hj=>(J0j (fun e=>hj e.symm)).symm))) ?_ (ksS rfl);by_cases h1:y.1+1<(s.ar x.1).length
       . obtain⟨b1,b2,b3⟩:=harc _ (J4Y h1);simp only[decide_eq_true h1,if_true,if_pos h1];refine J3t.trans ?_ (J09 (ks:=[3,4,5,6,7,8,9,10,11,12,13,14,15,16,17,18,19,20,21,22,23,24,25,26,27,28,29]) rfl rfl rfl b3 rfl) (ksC rfl);refine J0f (fun _ _=>[(2,some 2),(1,some 1),(0,some 0)]) ?_ ?_ rfl
         . repeat' (first|exact True.intro|(refine⟨⟨_,rfl,?_⟩,?_⟩)|exact J0a.kf rfl|exact J0a.loc rfl|exact J0a.vec rfl rfl rfl)
         . repeat' (first|exact Q3y rfl (fun j u hj hu=>J8I _ _ _ x.1 rfl rfl _ _ _ rfl hj hu) _|exact True.intro|(refine⟨⟨_,rfl,?_⟩,?_⟩)|exact J0a.kf rfl|(refine⟨Nat.le_refl _,rfl,fun i j hi hj=>?_⟩)|exact VLe.rfl|(refine And.intro ?_ ?_))
       . simp only[decide_eq_false h1,Bool.false_eq_true,if_false,if_neg h1];refine J0f (fun _ _=>[(3,none),(2,some 2),(1,some 1),(0,some 0)]) ?_ ?_ rfl
         . repeat' (first|exact True.intro|(refine⟨⟨_,rfl,?_⟩,?_⟩)|exact J0a.kf rfl|exact J0a.loc rfl|exact J0a.vec rfl rfl rfl)
         . repeat' (first|exact Q3y rfl (fun j u hj hu=>J8I _ _ _ x.1 rfl rfl _ _ _ rfl hj hu) _|exact True.intro|(refine⟨⟨_,rfl,?_⟩,?_⟩)|exact J0a.kf rfl|(refine⟨Nat.le_refl _,rfl,fun i j hi hj=>?_⟩)|exact VLe.rfl|(refine⟨⟨_,_,rfl⟩,?_⟩)|(refine And.intro ?_ ?_))
     . simp only[decide_eq_false hyn,X7d,Bool.false_eq_true,if_false,if_neg hyn]
       repeat' ((conv=>whnf);first|(refine Br.dec ?_ ?_<;>intro _<;>try omega)|(refine Ar.i64 (by omega) (by omega) ?_))
       all_goals (conv=>whnf)
       refine⟨s.n-(x.1+1),(x.1+1,y.2),by omega,⟨rfl,hxn,fun t=>Nat.le_trans (hG t) (show s.tot x.1+y.1<=s.tot x.1+(s.ar x.1).length by omega)⟩,?_⟩;refine J0f (fun _ _=>[(2,some 2),(1,some 1),(0,some 0)]) ?_ ?_ rfl
       . repeat' (first|exact True.intro|(refine⟨⟨_,rfl,?_⟩,?_⟩)|exact J0a.kf rfl|exact J0a.loc rfl|exact J0a.vec rfl rfl rfl)
       . repeat' (first|exact⟨rfl,rfl,True.intro,fun i hi=>rfl,fun i j t hi hn hj ht=>VLe.rfl⟩|exact True.intro|(refine⟨⟨_,rfl,?_⟩,?_⟩)|exact J0a.kf rfl|(refine⟨Nat.le_refl _,rfl,fun i j hi hj=>?_⟩)|exact VLe.rfl|(refine And.intro ?_ ?_))
 . have ex:x.1=s.n:=by omega
   repeat' ((conv=>whnf);first|(refine Br.dec ?_ ?_<;>intro _<;>try omega))
   all_goals (conv=>whnf)
   refine J0N J0b [9,10,11] (fun _:Unit=>[(15,.int .i64 0)]) (fun _ _=>True) 0 () True.intro ?_ ?_
   . refine J0f (fun _ _=>[(2,some 2),(1,some 1),(0,some 0)]) ?_ ?_ rfl
     . repeat' (first|exact True.intro|(refine⟨⟨_,rfl,?_⟩,?_⟩)|exact J0a.kf rfl|exact J0a.vec rfl rfl rfl)
     . repeat' (first|exact⟨rfl,rfl,True.intro,fun i hi=>rfl,fun i j t hi hn hj ht=>VLe.rfl⟩|exact True.intro|(refine⟨⟨_,rfl,?_⟩,?_⟩)|exact J0a.kf rfl|(refine⟨Nat.le_refl _,rfl,fun i j hi hj=>?_⟩)|exact VLe.rfl|(refine And.intro ?_ ?_))
   rintro m2 y _
   repeat' ((conv=>whnf);first|(refine Br.ff ?_)|(refine Len.mk (by omega) ?_))
   all_goals (conv=>whnf)
   exact VLe.tup ⟨VLe.fz rfl (fun h=>h) (fun i j hi hj=>by
    obtain rfl:j=0:=by omega
    exact VLe.of_eq (by rw[J0E];rfl)),VLe.rfl,True.intro⟩
end Go.Proofs.YtlpfphlbghdokaaGreatDoor
namespace Go.Proofs.YtlpfphlbghdokaaGreatDoor
open Go.Eng Go.Plain
set_option maxRecDepth 100000
set_option linter.unusedVariables false
def J5D (p:Pr) (g:G) (kd:Int):Tsy:=⟨J1e p g,fun k=>enN p g (cfK p g k),J7P p g kd⟩
def J9G (f:Nat->Int):Nat->Int
 | 0=>0
 | n+1=>J9G f n+f n
theorem Q1A (f:Nat->Int):∀n,((List.range n).map f).sum=J9G f n
 | 0=>rfl
 | n+1=>by rw[List.range_succ,List.map_append,List.sum_append,Q1A f n];simp[J9G]
theorem J8R {f h:Nat->Int}:∀{n:Nat},(∀i,i<n->f i=h i)->J9G f n=J9G h n
 | 0,_=>rfl
 | n+1,e=>by rw[J9G,J9G,J8R (fun i hi=>e i (by omega)),e n (by omega)]
theorem J9W:∀n,J9G (fun _=>0) n=0
 | 0=>rfl
 | n+1=>by rw[J9G,J9W n];rfl
theorem J8S {f:Nat->Int} {B:Int}:∀{n:Nat},(∀i,i<n->-B<=f i/\f i<=B)->-((n:Int)*B)<=J9G f n/\J9G f n<=(n:Int)*B
 | 0,_=>by simp[J9G]
 | n+1,h=>by
   have h1:=J8S (n:=n) (fun i hi=>h i (by omega));have h2:=h n (by omega);have e:((n+1:Nat):Int)*B=(n:Int)*B+B:=by rw[Int.natCast_add,Int.add_mul];simp
   rw[J9G,e];omega
def gwX (p:Pr) (g:G) (c:Cf) (v x:Nat):Int:=(gI (J27 p g c v (J0U p g c v).toNat) x-gI (gC c v) x)*(plP p g v x:Nat)
def gwS (p:Pr) (g:G) (c:Cf) (v:Nat):Nat->Int:=J9G (gwX p g c v)
def gwK (p:Pr) (g:G) (c:Cf) (v:Nat):Int:=if 0<=J0U p g c v then gwS p g c v p.vars.length else 0
def toS (p:Pr) (g:G) (c:Cf) (k s b:Nat):Int:=(k:Int)+J9G (fun v=>if s.testBit v then gwK p g c v else 0) b
theorem X5z {sz:Nat->Nat} (h:∀i,0<sz i) (a l l':Nat) (hl:l<=l'):Mx.pr sz a l<=Mx.pr sz a l':=by
 induction l' with
 | zero =>
   obtain rfl:l=0:=by omega
   exact Nat.le_refl _
 | succ l' ih =>
   by_cases e:l=l'+1
   . subst e;exact Nat.le_refl _
   . have:=ih (by omega);rw[Mx.pr_snoc];exact Nat.le_trans this (Nat.le_mul_of_pos_right _ (h _))
theorem J82 {sz:Nat->Nat} (a l:Nat):∀m,Mx.pr sz a (l+m)=Mx.pr sz a l*Mx.pr sz (a+l) m
 | 0=>by simp[Mx.pr]
 | m+1=>by rw[<- Nat.add_assoc,Mx.pr_snoc,J82 a l m,Mx.pr_snoc,Nat.mul_assoc,Nat.add_assoc]
theorem Q6d (p:Pr) (g:G) {i:Nat} (hi:i<nP p g):Mx.pr (szP p g) i (nP p g-i)=szP p g i*Mx.pr (szP p g) (i+1) (nP p g-(i+1)):=by
 have e:nP p g-i=(nP p g-(i+1))+1:=by omega
 rw[e,Mx.pr]
theorem X3a (p:Pr) (g:G) {i:Nat} (hi:i<=nP p g):Mx.pr (szP p g) i (nP p g-i)<=J1e p g:=by
 have e:nP p g=i+(nP p g-i):=by omega
 rw[J1e]
 conv=>rhs;rw[e,J82]
 rw[Nat.zero_add];exact Nat.le_mul_of_pos_left _ (Mx.pr_pos (J2V p g) _ _)
theorem X2Q (p:Pr) (g:G) {v x:Nat} (hv:v<g.ids.length) (hx:x<p.vars.length):szX p g v x*plP p g v x<=J1e p g:=by
 have h1:=J7L hv hx;have h2:=Q6d p g h1;rw[J3D p g hx] at h2;rw[plP,<- h2];exact X3a p g (Nat.le_of_lt h1)
theorem Q7j {p:Pr} (hp:J2I p) {g:G} (hg:g.valid=true) {c:Cf} (hc:J1s p g c) {v x:Nat} (hv:v<g.ids.length) (hx:x<p.vars.length) (hr:0<=J0U p g c v) (hn:J1e p g<=32768) :
 -32768<=gwX p g c v x/\gwX p g c v x<=32768:=by
 obtain⟨f1,f2,f3,f4,f5,f6,f7⟩:=J0e hg;have hcl:=hc.len
 -- the step of this node alone
 have hs:J19 (2 ^ v) (enN p g c):=fun i hi=>by
  have e:=Q1J hi;rw[J4g,Bool.and_eq_true,decide_eq_true_eq,decide_eq_true_eq,<- e];exact⟨hv,hr⟩
 have hd:=J17 hp hg hc hs;have hrow:=J2z p g c (2 ^ v) (v:=v) (by omega);rw[Nat.testBit_two_pow_self,if_pos rfl] at hrow;have h1:=hc.val v (by omega) x hx;have h2:=hd.val v (by rw[J25];omega) x hx;rw[hrow] at h2;have h3:=X2Q p g hv hx;have h4:=J4j hp g hg v hx;change loP p g v x<=_/\_<=hiP p g v x at h1 h2;rw[gwX];generalize gI (J27 p g c v (J0U p g c v).toNat) x=a at *;generalize gI (gC c v) x=b at *;have h5:((szX p g v x*plP p g v x:Nat):Int)<=32768:=by omega
 rw[Int.natCast_mul] at h5;have hle:(0:Int)<=(plP p g v x:Nat):=Int.natCast_nonneg _;generalize ((plP p g v x:Nat):Int)=q at *;generalize ((szX p g v x:Nat):Int)=z at *;have a1:(a-b)*q<=z*q:=Int.mul_le_mul_of_nonneg_right (by omega) hle;have a2:(b-a)*q<=z*q:=Int.mul_le_mul_of_nonneg_right (by omega) hle;have a3:(b-a)*q=-((a-b)*q):=by rw[<- Int.neg_mul];congr 1;omega
 omega
theorem Q1W {p:Pr} (hp:J2I p) {g:G} (hg:g.valid=true) {c:Cf} (hc:J1s p g c) {v:Nat} (hv:v<g.ids.length) (hr:0<=J0U p g c v) (hn:J1e p g<=32768) {x:Nat} (hx:x<=p.vars.length) :
 -32768000<=gwS p g c v x/\gwS p g c v x<=32768000:=by
 have h1:=J8S (n:=x) (f:=gwX p g c v) (B:=32768) (fun i hi=>Q7j hp hg hc hv (by omega) hr hn);have h2:=hp.vlen;rw[gwS];omega
theorem X3K {p:Pr} (hp:J2I p) {g:G} (hg:g.valid=true) {c:Cf} (hc:J1s p g c) {v:Nat} (hv:v<g.ids.length) (hn:J1e p g<=32768) :
 -32768000<=gwK p g c v/\gwK p g c v<=32768000:=by
 rw[gwK];split
 . rename_i h;exact Q1W hp hg hc hv h hn (Nat.le_refl _)
 . omega
theorem Q5A {p:Pr} (hp:J2I p) {g:G} (hg:g.valid=true) {c:Cf} (hc:J1s p g c) (hn:J1e p g<=32768) {k s b:Nat} (hk:k<32768) (hb:b<=g.ids.length) :
 -1000000000<=toS p g c k s b/\toS p g c k s b<=1000000000:=by
 obtain⟨f1,f2,f3,f4,f5,f6,f7⟩:=J0e hg;have h1:=J8S (n:=b) (f:=fun v=>if s.testBit v then gwK p g c v else 0) (B:=32768000) (fun i hi=>by
  show _<=(if s.testBit i then gwK p g c i else 0)/\(if s.testBit i then gwK p g c i else 0)<=_;split
  . exact X3K hp hg hc (by omega) hn
  . omega)
 rw[toS];omega
theorem X2N {p:Pr} (hp:J2I p) {g:G} (hg:g.valid=true) {c:Cf} (hc:J1s p g c) {s:Nat} (hs:J19 s (enN p g c)):toS p g c (rkC p g c) s g.ids.length=(rkC p g (J0R p g c s):Nat):=by
 have hcl:=hc.len;rw[X25 hc (J17 hp hg hc hs),toS,Q1A];congr 1;refine J8R fun v hv=>?_;rw[grX,Q1A,J2z p g c s (by omega)];cases e:s.testBit v with
 | false =>
   simp only[Bool.false_eq_true,if_false];symm;rw[<- J9W p.vars.length];exact J8R fun x _=>by rw[Int.sub_self,Int.zero_mul]
 | true =>
   have:=hs v e;rw[J4g,Bool.and_eq_true,decide_eq_true_eq,decide_eq_true_eq] at this;simp only[if_true];rw[gwK,if_pos this.2,gwS];rfl
theorem Q2J {p:Pr} {g:G} {c:Cf} {k s a b:Nat} (hab:a<=b) (h:∀i,a<=i->i<b->s.testBit i=false):toS p g c k s b=toS p g c k s a:=by
 induction b with
 | zero =>
   obtain rfl:a=0:=by omega
   rfl
 | succ b ih =>
   by_cases e:a=b+1
   . subst e;rfl
   . rw[<- ih (by omega) (fun i h1 h2=>h i h1 (by omega)),toS,toS,J9G,h b (by omega) (by omega)];simp
theorem Q9p {p:Pr} {g:G} {c:Cf} {k s b:Nat} (h:s.testBit b=true):toS p g c k s (b+1)=toS p g c k s b+gwK p g c b:=by
 rw[toS,toS,J9G,h];simp;omega
theorem X5n {p:Pr} (hp:J2I p) {g:G} (hg:g.valid=true) {kd:Int} (hk:dk kd=true) (hn:J1e p g<=32768) (he:∀c,(chs g kd (enN p g c)).2=0) (ht:(J5D p g kd).tot (J1e p g)<=262144):(J5D p g kd).Ok:=by
 obtain⟨f1,f2,f3,f4,f5,f6,f7⟩:=J0e hg;have hmem:∀c s,s∈(chs g kd (enN p g c)).1->s≠0/\J19 s (enN p g c):=fun c s hs=>by
  have h32:=Q4K p hg c;have h1:=(J7q hk h32 (J43 h32 s hs) (he c)).1 hs;obtain⟨a,b,_⟩:=J2D.1 h1;exact⟨a,(J1M (J43 h32 s hs)).1 b⟩
 refine⟨Q3I p g,hn,fun k _=>X0q p hg _,fun k hk'=>?_,fun k hk'=>?_,fun k hk' a ha=>?_,ht⟩
 . have h1:=X0J hg hk (Q4K p hg (cfK p g k)) (Q7G p hg _) (he _);show enN p g (cfK p g k)≠0↔J7P p g kd k≠[];rw[<- h1,J7P];simp[List.length_pos_iff]
 . show(J7P p g kd k).Pairwise _;rw[J7P,List.pairwise_map];exact J8u (Q4K p hg _)
 . have ha:a∈J7P p g kd k:=ha;rw[J7P] at ha;obtain⟨s,hs,rfl⟩:=List.mem_map.1 ha;obtain⟨h1,h2⟩:=hmem _ s hs;exact⟨h1,h2,Q5Z hp hg (J17 hp hg (J1T hp hg k) h2)⟩
end Go.Proofs.YtlpfphlbghdokaaGreatDoor
namespace Go.Proofs.YtlpfphlbghdokaaGreatDoor
open Go.Eng Go.Plain
set_option maxRecDepth 100000
set_option linter.unusedVariables false
theorem X3U {p:Pr} (hp:J2I p) {g:G} (hg:g.valid=true) {kd:Int} {leg:Cf->Bool} {R:Int} {Inv:Cf->Cnt->Prop} (hS:X65 p g kd leg R Inv) (hok:(J5D p g kd).Ok)
 (hch:∀k,k<J1e p g->∀s,s∈(chs g kd (enN p g (cfK p g k))).1->J7B p g kd (cfK p g k) s) (c:Nat->Int) (hC:Q36 (J5D p g kd) (J59 p g leg) c) (u:Nat) :
 ¬ (X7v (J5D p g kd) c u/\∀v,v<24->SvW (J5D p g kd) c u v):=fun⟨hi,hv⟩=>by
 have hlg:∀k,k<J1e p g->c k=u->J59 p g leg k=false:=fun k hk e=>by
  cases q:J59 p g leg k with
  | false=>rfl
  | true=>have:=hC.leg k hk q;omega
 refine Q66 hp hg hS hch (M:=fun k=>k<J1e p g/\c k=u) ⟨fun k hk=>⟨hk.1,hlg k hk.1 hk.2⟩,fun k t hk ht=>hC.scc k t hk.1 ht.1 (hlg k hk.1 hk.2) (hlg t ht.1 ht.2) (by rw[hk.2,ht.2]),fun v hv2=>?_,?_⟩
 . obtain⟨k,hk,e,q⟩:=hv v hv2;refine⟨k,⟨hk,e⟩,?_⟩;rcases q with q | ⟨a,ha,e2,q⟩
   . exact .inl q
   . exact .inr ⟨a.1,a.2,ha,⟨(hok.arc k hk a ha).2.2,e2⟩,q⟩
 . obtain⟨k,hk,e⟩:=hi;exact⟨k,hk,e⟩
end Go.Proofs.YtlpfphlbghdokaaGreatDoor
namespace Go.Proofs.YtlpfphlbghdokaaGreatDoor
open Go.Eng Go.Plain
set_option maxRecDepth 100000
set_option linter.unusedVariables false
def vBl (b:Nat->Bool):Nat->Nat->V:=fun i _=>.bool (b i)
theorem Q4Q (s:Tsy) (hs:s.Ok) (lg:Nat->Bool) (hcl:∀k,k<s.n->lg k=true->∀a∈s.ar k,lg a.2=true):Ret Tryz.prog 13 [s.v,blV s.n lg] (.tup [.bool true,.int .i64 0]):=by
 have n1:=hs.n1;have n2:=hs.n2;have hch:=Q02 s hs lg;refine J0g rfl ?_;refine J0d J0b Tryz.func13 rfl hc13 hr13 rfl ?_
 repeat' ((conv=>whnf);first|(refine Br.ff ?_)|(refine hch.go ?_))
 all_goals (conv=>whnf)
 refine J0N J0b [1,18,19] (fun k:Nat=>[(20,.int .i64 k)]) (fun m k=>m=s.n-k/\k<=s.n) s.n 0 ⟨rfl,Nat.zero_le _⟩ ?_ ?_
 . exact J0k (fun _ _=>[(0,some 0)])
 rintro m k ⟨hm,hk⟩;by_cases hkn:k<s.n
 . cases hlg:lg k with
   | false =>
     repeat' ((conv=>whnf);first|(refine Br.mk (fun e=>Bool.noConfusion (e.symm.trans hlg)) (fun _=>?_))|(refine Br.dec ?_ ?_<;>intro _<;>try omega)|(refine Ar.i64 (by omega) (by omega) ?_)|(refine Ix.nat (by omega) ?_))
     all_goals (conv=>whnf)
     refine⟨s.n-(k+1),k+1,by omega,⟨rfl,by omega⟩,?_⟩;exact J0k (fun _ _=>[(0,some 0)])
   | true =>
     have hrow:=hs.row hkn
     repeat' ((conv=>whnf);first|(refine Br.mk (fun _=>?_) (fun e=>Bool.noConfusion (e.symm.trans hlg)))|(refine Br.dec ?_ ?_<;>intro _<;>try omega)|(refine Ix.nat (by omega) ?_))
     all_goals (conv=>whnf)
     refine J0N J0b [1,18,19,20,30,31] (fun i:Nat=>[(32,.int .i64 i)]) (fun m i=>m=(s.ar k).length-i/\i<=(s.ar k).length) (s.ar k).length 0 ⟨rfl,Nat.zero_le _⟩ ?_ ?_
     . exact J0k (fun _ _=>[(0,some 0)])
     rintro m2 i ⟨hm2,hi⟩;by_cases hil:i<(s.ar k).length
     . have hlt:=hcl k hkn hlg _ (J4Y hil);obtain⟨a1,a2,a3⟩:=hs.arc k hkn _ (J4Y hil)
       repeat' ((conv=>whnf);first|(refine Br.mk (fun _=>?_) (fun e=>Bool.noConfusion (e.symm.trans hlt)))|(refine Br.dec ?_ ?_<;>intro _<;>try omega)|(refine Ar.i64 (by omega) (by omega) ?_)|(refine Ix.nat (by omega) ?_))
       all_goals (conv=>whnf)
       refine⟨(s.ar k).length-(i+1),i+1,by omega,⟨rfl,by omega⟩,?_⟩;exact J0k (fun _ _=>[(0,some 0)])
     . repeat' ((conv=>whnf);first|(refine Br.dec ?_ ?_<;>intro _<;>try omega)|(refine Ar.i64 (by omega) (by omega) ?_))
       all_goals (conv=>whnf)
       refine⟨s.n-(k+1),k+1,by omega,⟨rfl,by omega⟩,?_⟩;exact J0k (fun _ _=>[(0,some 0)])
 . repeat' ((conv=>whnf);first|(refine Br.dec ?_ ?_<;>intro _<;>try omega))
   all_goals (conv=>whnf)
   repeat' (first|exact VLe.rfl)
end Go.Proofs.YtlpfphlbghdokaaGreatDoor
namespace Go.Proofs.YtlpfphlbghdokaaGreatDoor
open Go.Eng Go.Plain
set_option maxRecDepth 100000
set_option linter.unusedVariables false
end Go.Proofs.YtlpfphlbghdokaaGreatDoor
namespace Go.Proofs.YtlpfphlbghdokaaGreatDoor
open Go.Eng Go.Plain
set_option maxRecDepth 100000
set_option linter.unusedVariables false
end Go.Proofs.YtlpfphlbghdokaaGreatDoor
namespace Go.Eng
end Go.Eng
namespace Go.Proofs.YtlpfphlbghdokaaGreatDoor
open Go.Eng Go.Plain
set_option maxRecDepth 100000
set_option linter.unusedVariables false
structure RdI (s:Tsy) (lg:Nat->Bool) (Q:Nat->Nat->Nat->Prop) (i:Nat) (r:Nat->Nat):Prop where
 leg:∀k,k<s.n->lg k=true->r k=0
 out:∀k,k<s.n->k<i->lg k=false->Q k (s.en k) (r k)
theorem RdI.skip {s:Tsy} {lg:Nat->Bool} {Q:Nat->Nat->Nat->Prop} {i:Nat} {r:Nat->Nat} (h:RdI s lg Q i r) (hl:lg i=true):RdI s lg Q (i+1) r :=
 ⟨h.leg,fun k hk hki hlk=>h.out k hk (by
   rcases Nat.lt_or_ge k i with q|q
   . exact q
   . have:k=i:=by omega
     subst this;rw[hl] at hlk;cases hlk) hlk⟩
end Go.Proofs.YtlpfphlbghdokaaGreatDoor
namespace Go.Proofs.YtlpfphlbghdokaaGreatDoor
open Go.Eng Go.Plain
set_option maxRecDepth 100000
set_option linter.unusedVariables false
def J4z (p:Pr) (g:G) (k j v x:Nat):Int:=loP p g v x+((if v*p.vars.length+x<j then dgP p g k v x else 0:Nat):Int)
def J9D (p:Pr) (g:G) (k i:Nat):Prop:=∀j,i<=j->j<nP p g->Mx.dg (szP p g) (nP p g) k j+1=szP p g j
theorem Q8G {p:Pr} {g:G} {k v x:Nat} (hv:v<g.ids.length) (hx:x<p.vars.length):J4z p g k (nP p g) v x=gI (gC (cfK p g k) v) x:=by
 rw[J4z,if_pos (J7L hv hx),J3N p g k hv hx]
theorem Q33 {p:Pr} {g:G} {k i v x:Nat} (hne:v*p.vars.length+x≠i):J4z p g k i v x=J4z p g k (i+1) v x:=by
 rw[J4z,J4z];by_cases h:v*p.vars.length+x<i
 . rw[if_pos h,if_pos (by omega)]
 . rw[if_neg h,if_neg (by omega)]
theorem X1b {p:Pr} {g:G} {k v x:Nat}:J4z p g k (v*p.vars.length+x) v x=loP p g v x:=by
 rw[J4z,if_neg (by omega)];simp
theorem Q8F {p:Pr} {g:G} {k v x:Nat}:J4z p g k (v*p.vars.length+x+1) v x=loP p g v x+dgP p g k v x:=by
 rw[J4z,if_pos (by omega)]
theorem Q7s {p:Pr} {g:G} {k v x:Nat} (hx:x<p.vars.length) (h:J9D p g k (v*p.vars.length+x+1)) (h1:dgP p g k v x+1=szX p g v x):J9D p g k (v*p.vars.length+x):=fun j hj hjn=>by
 by_cases e:j=v*p.vars.length+x
 . subst e;rw[J3D p g hx];exact h1
 . exact h j (by omega) hjn
theorem Q8H {p:Pr} {g:G} {k v x:Nat} (hk:k<J1e p g) (hv:v<g.ids.length) (hx:x<p.vars.length) (h:J9D p g k (v*p.vars.length+x+1)) (h1:dgP p g k v x+1<szX p g v x) {v' x':Nat} (hv':v'<g.ids.length) (hx':x'<p.vars.length) :
 gI (gC (cfK p g (k+1)) v') x'=J4z p g k (v*p.vars.length+x+1) v' x'+(if v'=v/\x'=x then 1 else 0):=by
 have hi:=J7L hv hx;have hi':=J7L hv' hx';have hd:=Mx.dg_next (J2V p g) hk hi (by rw[J3D p g hx];exact h1) (fun j hj hjn=>h j (by omega) hjn) hi';rw[J3N p g _ hv' hx',dgP,hd,Mx.nx,J4z];by_cases e:v'=v/\x'=x
 . obtain⟨rfl,rfl⟩:=e;rw[if_neg (by omega),if_pos rfl,if_pos (by omega),if_pos ⟨rfl,rfl⟩,dgP];omega
 . have hne:v'*p.vars.length+x'≠v*p.vars.length+x:=fun q=>e (by
    have a1:=congrArg (· / p.vars.length) q;have a2:=congrArg (· % p.vars.length) q;simp only[J4U hx,J4U hx',Q0z hx,Q0z hx'] at a1 a2;exact⟨a1,a2⟩)
   rw[if_neg e];by_cases q:v'*p.vars.length+x'<v*p.vars.length+x
   . rw[if_pos q,if_pos (by omega),dgP];omega
   . rw[if_neg q,if_neg hne,if_neg (by omega)];omega
theorem X6v (p:Pr) (g:G) {i:Nat} (hi:i<nP p g):Mx.dg (szP p g) (nP p g) (J1e p g) i=0:=by
 have e:nP p g=i+((nP p g-(i+1))+1):=by omega
 have h1:J1e p g=Mx.pr (szP p g) 0 i*szP p g i*Mx.pr (szP p g) (i+1) (nP p g-(i+1)):=by
  have h2:∀a l m,Mx.pr (szP p g) a (l+m)=Mx.pr (szP p g) a l*Mx.pr (szP p g) (a+l) m:=by
   intro a l m
   induction m with
   | zero=>simp[Mx.pr]
   | succ m ih=>rw[<- Nat.add_assoc,Mx.pr_snoc,ih,Mx.pr_snoc,Nat.mul_assoc,Nat.add_assoc]
  rw[J1e]
  conv=>lhs;rw[e,h2,Nat.zero_add,Mx.pr]
  rw[Nat.mul_assoc]
 rw[Mx.dg,h1,Nat.mul_div_cancel _ (Mx.pr_pos (J2V p g) _ _),Nat.mul_mod_left]
theorem X4K {p:Pr} {g:G} {k:Nat} (hk:k<J1e p g) (h:J9D p g k 0) {v x:Nat} (hv:v<g.ids.length) (hx:x<p.vars.length):J4z p g k 0 v x=gI (gC (cfK p g (k+1)) v) x:=by
 have h1:=Mx.dg_last (J2V p g) hk (fun j hj=>h j (Nat.zero_le _) hj);have h2:k+1=J1e p g:=h1;rw[J3N p g _ hv hx,J4z,if_neg (by omega),dgP,h2,X6v p g (J7L hv hx)]
def J5X (p:Pr) (g:G) (k j v x:Nat):Int:=loP p g v x+((if v*p.vars.length+x<j then 0 else dgP p g k v x:Nat):Int)
def J9P (p:Pr) (g:G) (k j:Nat):Nat:=k / Mx.pr (szP p g) j (nP p g-j)
theorem Q5p (p:Pr) (g:G) (k:Nat):J9P p g k (nP p g)=k:=by rw[J9P,Nat.sub_self,Mx.pr,Nat.div_one]
theorem Q9i {p:Pr} {g:G} {k v x:Nat} (hv:v<g.ids.length) (hx:x<p.vars.length):J9P p g k (v*p.vars.length+x+1) / szX p g v x=J9P p g k (v*p.vars.length+x):=by
 rw[J9P,<- J3D p g hx];exact Mx.rest_step _ _ _ (J7L hv hx)
theorem X2A {p:Pr} {g:G} {k v x:Nat} (hx:x<p.vars.length):J9P p g k (v*p.vars.length+x+1) % szX p g v x=dgP p g k v x:=by
 rw[J9P,<- J3D p g hx];rfl
theorem Q4c {p:Pr} {g:G} {k v x:Nat} (hv:v<g.ids.length) (hx:x<p.vars.length):J5X p g k (nP p g) v x=loP p g v x:=by
 rw[J5X,if_pos (J7L hv hx)];simp
theorem J9Q {p:Pr} {g:G} {k i v x:Nat} (hne:v*p.vars.length+x≠i):J5X p g k i v x=J5X p g k (i+1) v x:=by
 rw[J5X,J5X];by_cases h:v*p.vars.length+x<i
 . rw[if_pos h,if_pos (by omega)]
 . rw[if_neg h,if_neg (by omega)]
theorem Q5q {p:Pr} {g:G} {k v x:Nat}:J5X p g k (v*p.vars.length+x) v x=J5X p g k (v*p.vars.length+x+1) v x+dgP p g k v x:=by
 rw[J5X,J5X,if_neg (by omega),if_pos (by omega)];simp
theorem Q9j {p:Pr} {g:G} {k v x:Nat} (hv:v<g.ids.length) (hx:x<p.vars.length):J5X p g k 0 v x=gI (gC (cfK p g k) v) x:=by
 rw[J5X,if_neg (by omega),J3N p g k hv hx]
end Go.Proofs.YtlpfphlbghdokaaGreatDoor
namespace Go.Proofs.YtlpfphlbghdokaaGreatDoor
open Go.Eng Go.Plain
set_option maxRecDepth 100000
set_option linter.unusedVariables false
theorem Q0p (p:Pr) (hp:J2I p) (g:G) (hg:g.valid=true) (hn:J1e p g<=32768):Ret Tryz.prog 34 [Q8R p g] (.tup [.int .i64 (J1e p g),.int .i64 0]):=by
 obtain⟨f1,f2,f3,f4,f5,f6,f7⟩:=J0e hg;have hvl:=hp.vlen;refine J0g rfl ?_;refine J0d J0b Tryz.func34 rfl hc34 hr34 rfl ?_
 repeat' ((conv=>whnf);first|fail)
 all_goals (conv=>whnf)
 refine J0N J0b [9,10] (fun v:Nat=>[(4,.int .i64 (Mx.pr (szP p g) 0 (v*p.vars.length))),(11,.int .i64 v)]) (fun m v=>m=g.ids.length-v/\v<=g.ids.length) g.ids.length 0 ⟨rfl,Nat.zero_le _⟩ ?_ ?_
 . refine J0f (fun _ _=>[]) ?_ ?_ rfl
   . repeat' (first|exact J0a.int (by rw[Nat.zero_mul];rfl)|exact True.intro|(refine⟨⟨_,rfl,?_⟩,?_⟩)|exact J0a.kf rfl)
   . repeat' (first|exact True.intro)
 rintro m v ⟨hm,hv⟩;by_cases hvn:v<g.ids.length
 . repeat' ((conv=>whnf);first|(refine Br.dec ?_ ?_<;>intro _<;>try omega)|(refine Ix.nat (by omega) ?_))
   all_goals (conv=>whnf)
   refine J0N J0b [9,10,11,15,16] (fun x:Nat=>[(4,.int .i64 (Mx.pr (szP p g) 0 (v*p.vars.length+x))),(17,.int .i64 x)]) (fun m x=>m=p.vars.length-x/\x<=p.vars.length) p.vars.length 0 ⟨rfl,Nat.zero_le _⟩ ?_ ?_
   . exact J0k (fun _ _=>[])
   rintro m2 x ⟨hm2,hx⟩;by_cases hxn:x<p.vars.length
   . have hb:=J5U hg (hp.var x hxn) (v:=v) (by omega);have hsz:=J4j hp g hg v hxn;have hix:=J7L hvn hxn;have hpr:Mx.pr (szP p g) 0 (v*p.vars.length+x+1)=Mx.pr (szP p g) 0 (v*p.vars.length+x)*szX p g v x:=by
      rw[Mx.pr_snoc,Nat.zero_add,J3D p g hxn]
     have hmul:(Mx.pr (szP p g) 0 (v*p.vars.length+x):Int)*((bnd g (gV p.vars x) v).2-(bnd g (gV p.vars x) v).1+1)=(Mx.pr (szP p g) 0 (v*p.vars.length+x+1):Nat):=by
      rw[hpr,Int.natCast_mul,hsz];rfl
     have hle:=X5z (J2V p g) 0 (v*p.vars.length+x+1) (nP p g) hix;change _<=J1e p g at hle
     repeat' ((conv=>whnf);first|(refine Ar.i64 (by rw[hmul];omega) (by rw[hmul];omega) ?_;rw[hmul])|(refine Br.dec ?_ ?_<;>intro _<;>try omega)|(refine Ar.i64 (by omega) (by omega) ?_)|(refine Ix.nat (by omega) ?_)|(refine Ix.mk 0 rfl (by omega) ?_)|(refine Ix.mk 1 rfl (by omega) ?_))
     all_goals (conv=>whnf)
     refine⟨p.vars.length-(x+1),x+1,by omega,⟨rfl,by omega⟩,?_⟩;exact J0k (fun _ _=>[])
   . have ex:x=p.vars.length:=by omega
     subst ex
     repeat' ((conv=>whnf);first|(refine Br.dec ?_ ?_<;>intro _<;>try omega)|(refine Ar.i64 (by omega) (by omega) ?_))
     all_goals (conv=>whnf)
     refine⟨g.ids.length-(v+1),v+1,by omega,⟨rfl,by omega⟩,?_⟩;refine J0f (fun _ _=>[]) ?_ ?_ rfl
     . repeat' (first|exact J0a.int (by rw[Nat.add_mul,Nat.one_mul])|exact True.intro|(refine⟨⟨_,rfl,?_⟩,?_⟩)|exact J0a.kf rfl)
     . repeat' (first|exact True.intro)
 . have ev:v=g.ids.length:=by omega
   subst ev
   repeat' ((conv=>whnf);first|(refine Br.dec ?_ ?_<;>intro _<;>try omega))
   all_goals (conv=>whnf)
   exact VLe.rfl
theorem Q6K (p:Pr) (hp:J2I p) (g:G) (hs:g.Small) (hg:g.valid=true) (hn:J1e p g<=32768):Ret Tryz.prog 26 [p.v,g.v] (.tup [.int .i64 (J1e p g),.int .i64 0]):=by
 have h1:=J9i p hp g hs hg;have h2:=J3T p hp g hg;have h3:=Q0p p hp g hg hn;refine J0g rfl ?_;refine J0d J0b Tryz.func26 rfl hc26 hr26 rfl ?_
 repeat' ((conv=>whnf);first|(refine Br.ff ?_)|(refine h1.go ?_)|(refine h2.go ?_)|(refine h3.go ?_))
 all_goals (conv=>whnf)
 exact VLe.rfl
def Q4v (p:Pr):Nat->Nat:=fun _=>p.vars.length
def J3j (f:Nat->Nat->Int):Nat->Nat->Nat->V:=fun v x _=>.int .i64 (f v x)
def J8m (p:Pr) (g:G) (f:Nat->Nat->Int) (op:List (Nat×Nat)):Blk:=.fam g.ids.length 1 (Q4v p) (J3j f) op
def X1q (p:Pr) (g:G) (v x:Nat):Nat->Nat->V:=fun i _=>if i<x then .int .i64 (loP p g v i) else .int .i64 0
theorem Q5W (p:Pr) (g:G) (v x x' i j:Nat) (hx:x'=x) (hj:j<1):VLe (J0L (X1q p g v x) x' 0 [.int .i64 (loP p g v x)] i j) (X1q p g v (x+1) i j):=by
 obtain rfl:j=0:=by omega
 subst hx;apply VLe.of_eq;by_cases h:i=x'
 . subst h;simp[J0L,X1q]
 . have h1:(i<x'+1)=(i<x'):=by simp;omega
   simp[J0L,X1q,h,h1]
theorem J92 (p:Pr) (g:G) (v i j t:Nat) (hj:j<J2N (Q3g p.vars.length v) v p.vars.length i) (ht:t<1):VLe (J3n (J3j (loP p g)) v (X1q p g v p.vars.length) i j t) (J3j (loP p g) i j t):=by
 apply VLe.of_eq;simp only[J3n];split
 . rename_i e;subst e;rw[J2N,if_pos rfl] at hj;rw[X1q,if_pos hj];rfl
 . rfl
def Y02 (p:Pr) (g:G) (F:FuncId):Prop:=J06 Tryz.prog F=true/\∀v x,v<g.ids.length->x<p.vars.length->Ret Tryz.prog F [.int .i64 v,.int .i64 x,.fe 1 1 (tab [[Q8R p g]]) 0 0] (.int .i64 (loP p g v x))
set_option maxHeartbeats 8000000 in
theorem Q0q (p:Pr) (hp:J2I p) (g:G) (hg:g.valid=true) (F:FuncId) (hF:Y02 p g F) :
 J0J Tryz.prog 35 [Q8R p g,.fn (.func F) false [.loc 0 0]] [(0,.cells [Q8R p g])] KS2.tail fun v own' _=>v=.vec 1 1 0 g.ids.length/\own'=[(1,J8m p g (loP p g) []),(0,.cells [Q8R p g])]:=by
 obtain⟨f1,f2,f3,f4,f5,f6,f7⟩:=J0e hg;have hvl:=hp.vlen;refine J1q ?_;refine J0d J0b Tryz.func35 rfl hc35 hr35 rfl ?_
 repeat' ((conv=>whnf);first|(refine Bd.nat (by omega) ?_)|(refine Len.mk (by omega) ?_)|(refine MkS.vec ?_))
 all_goals (conv=>whnf)
 refine J02 J0b [0,1,5,12] [2] [3,4,5,6,7,8,9,10,11,12,13,14,15,16,17,18,19,20,21,22,23,24,25,26,27,28,29] [2,1,0] (fun v:Nat=>[(13,.int .i64 v)])
  (fun own v=>(2,.vec (Q3g p.vars.length v v) 1 (J3j (loP p g) v))::J1I (J1I own 1 (.fam g.ids.length 1 (Q3g p.vars.length v) (J3j (loP p g)) [])) 1 (.fam g.ids.length 1 (Q3g p.vars.length v) (J3j (loP p g)) (opn v g.ids.length 2))) (fun k v=>k=g.ids.length-v/\v<=g.ids.length) g.ids.length 0 ⟨rfl,Nat.zero_le _⟩ rfl (fun _=>rfl) ?_ ?_
 . have e:opn 0 g.ids.length 2=[(0,2)]:=if_pos (by omega);simp only[e];refine J3t.trans ?_ (J09 (ks:=[2,3,4,5,6,7,8,9,10,11,12,13,14,15,16,17,18,19,20,21,22,23,24,25,26,27,28,29]) rfl rfl rfl (by omega) rfl) (J2C rfl);refine J0f (fun _ _=>[(0,some 0),(1,some 1)]) ?_ ?_ rfl
   . repeat' (first|exact True.intro|(refine J0a.fn ?_)|(refine⟨⟨_,rfl,?_⟩,?_⟩)|exact J0a.kf rfl|exact J0a.loc rfl|exact J0a.vec rfl rfl rfl|(refine And.intro ?_ ?_))
   . repeat' (first|exact⟨rfl,rfl,rfl,fun i hi=>⟨rfl,if_neg (by omega)⟩⟩|exact True.intro|(refine⟨⟨_,rfl,?_⟩,?_⟩)|exact J0a.kf rfl|(refine And.intro ?_ ?_))
 rintro k v ⟨hk,hv⟩;by_cases hvn:v<g.ids.length
 . have e:opn v g.ids.length 2=[(v,2)]:=if_pos hvn;simp only[e]
   repeat' ((conv=>whnf);first|(refine Br.dec ?_ ?_<;>intro _<;>try omega)|(refine Ix.nat (by omega) ?_)|(refine Bd.nat (by omega) ?_)|(refine Len.mk (by omega) ?_)|(refine Ltn.mk (by omega) ?_)|(refine MkS.vec ?_)|(refine J1W.hd (by omega) ?_))
   all_goals (conv=>whnf)
   refine J02 J0b [0,1,5,6,12,13,29] [] [4,5,6,7,8,9,10,11,12,13,14,15,16,17,18,19,20,21,22,23,24,25,26,27,28,29] [3,2,1,0] (fun x:Nat=>[(30,.int .i64 x)])
    (fun own x=>J1I own 3 (.vec p.vars.length 1 (X1q p g v x))) (fun k x=>k=p.vars.length-x/\x<=p.vars.length) p.vars.length 0 ⟨rfl,Nat.zero_le _⟩ rfl (fun _=>rfl) ?_ ?_
   . refine J0f (fun _ _=>[(0,some 0),(1,some 1),(2,some 2),(3,some 3)]) ?_ ?_ rfl
     . repeat' (first|exact True.intro|(refine J0a.fn ?_)|(refine⟨⟨_,rfl,?_⟩,?_⟩)|exact J0a.kf rfl|exact J0a.loc rfl|exact J0a.vec rfl rfl rfl|(refine And.intro ?_ ?_))
     . repeat' (first|exact⟨rfl,rfl,⟨rfl,rfl,True.intro⟩,fun i hi=>rfl,fun i j t hi hn hj ht=>VLe.rfl⟩|(refine⟨Nat.le_refl _,rfl,fun i j hi hj=>VLe.of_eq ?_⟩;rw[X1q,if_neg (by omega)];(obtain rfl:j=0:=(by omega));rfl)|exact True.intro|(refine⟨⟨_,rfl,?_⟩,?_⟩)|exact J0a.kf rfl|(refine⟨Nat.le_refl _,rfl,fun i j hi hj=>?_⟩)|exact VLe.rfl|(refine And.intro ?_ ?_))
   rintro k x ⟨hk2,hx⟩;by_cases hxn:x<p.vars.length
   . have hfx:=hF.2 v x hvn hxn
     repeat' ((conv=>whnf);first|(refine Br.dec ?_ ?_<;>intro _<;>try omega)|(refine Ar.i64 (by omega) (by omega) ?_)|(refine Ix.nat (by omega) ?_)|(refine Ltn.mk (by omega) ?_)|(refine Opn.hdl (by omega) (show J2N _ _ _ _=p.vars.length from if_pos rfl) ?_)|(refine Chk.mk hF.1 ?_)|(refine J0F hfx rfl ⟨VLe.rfl,VLe.rfl,VLe.rfl,True.intro⟩ ?_)|(refine And.intro (Ltn.mk (by omega) (Opn.hdl (by omega) (show J2N _ _ _ _=p.vars.length from if_pos rfl) rfl)) ?_))
     all_goals (conv=>whnf)
     refine⟨p.vars.length-(x+1),x+1,by omega,⟨rfl,by omega⟩,?_⟩;refine J0f (fun _ _=>[(0,some 0),(1,some 1),(2,some 2),(3,some 3)]) ?_ ?_ rfl
     . repeat' (first|exact True.intro|(refine J0a.fn ?_)|(refine⟨⟨_,rfl,?_⟩,?_⟩)|exact J0a.kf rfl|exact J0a.loc rfl|exact J0a.vec rfl rfl rfl|(refine And.intro ?_ ?_))
     . repeat' (first|exact⟨rfl,rfl,⟨rfl,rfl,True.intro⟩,fun i hi=>rfl,fun i j t hi hn hj ht=>VLe.rfl⟩|exact Q5W _ _ _ _ _ _ _ (Nat.zero_add _) hj|exact True.intro|(refine⟨⟨_,rfl,?_⟩,?_⟩)|exact J0a.kf rfl|(refine⟨Nat.le_refl _,rfl,fun i j hi hj=>?_⟩)|exact VLe.rfl|(refine And.intro ?_ ?_))
   . have ex:x=p.vars.length:=by omega
     subst ex
     repeat' ((conv=>whnf);first|(refine Br.dec ?_ ?_<;>intro _<;>try omega)|(refine Ar.i64 (by omega) (by omega) ?_))
     all_goals (conv=>whnf)
     refine⟨g.ids.length-(v+1),v+1,by omega,⟨rfl,by omega⟩,?_⟩;refine J3t.trans (J15 (J1i (q:=3) (k:=1) (i:=v) [] rfl rfl hvn (J0n rfl) (Nat.le_of_eq (if_pos rfl)) rfl (fun j hj=>(J0j (fun e=>hj e.symm)).symm))) ?_ (J6V rfl);by_cases h1:v+1<g.ids.length
     . have e1:opn (v+1) g.ids.length 2=[(v+1,2)]:=if_pos h1;simp only[e1];refine J3t.trans ?_ (J09 (ks:=[2,3,4,5,6,7,8,9,10,11,12,13,14,15,16,17,18,19,20,21,22,23,24,25,26,27,28,29]) rfl rfl rfl h1 rfl) (J2C rfl);refine J0f (fun _ _=>[(0,some 0),(1,some 1)]) ?_ ?_ rfl
       . repeat' (first|exact True.intro|(refine J0a.fn ?_)|(refine⟨⟨_,rfl,?_⟩,?_⟩)|exact J0a.kf rfl|exact J0a.loc rfl|exact J0a.vec rfl rfl rfl|(refine And.intro ?_ ?_))
       . repeat' (first|exact⟨rfl,rfl,True.intro,fun i hi=>(J58 _ _ _).symm,fun i j t hi hn hj ht=>J92 p g v i j t hj ht⟩|exact True.intro|(refine⟨⟨_,rfl,?_⟩,?_⟩)|exact J0a.kf rfl|(refine And.intro ?_ ?_))
     . have e1:opn (v+1) g.ids.length 2=[]:=if_neg h1;simp only[e1];refine J0f (fun _ _=>[(0,some 0),(1,some 1),(2,none)]) ?_ ?_ rfl
       . repeat' (first|exact True.intro|(refine J0a.fn ?_)|(refine⟨⟨_,rfl,?_⟩,?_⟩)|exact J0a.kf rfl|exact J0a.loc rfl|exact J0a.vec rfl rfl rfl|(refine And.intro ?_ ?_))
       . repeat' (first|exact⟨rfl,rfl,True.intro,fun i hi=>(J58 _ _ _).symm,fun i j t hi hn hj ht=>J92 p g v i j t hj ht⟩|exact⟨1,J3j (loP p g) (v+1),by rw[Q0s]⟩|exact True.intro|(refine⟨⟨_,rfl,?_⟩,?_⟩)|exact J0a.kf rfl|(refine And.intro ?_ ?_))
 . have e:opn v g.ids.length 2=[]:=if_neg hvn;have ev:v=g.ids.length:=by omega
   simp only[e]
   repeat' ((conv=>whnf);first|(refine Br.dec ?_ ?_<;>intro _<;>try omega))
   all_goals (conv=>whnf)
   exact J1m (fun _=>[(0,some 0),(1,some 1)]) _ _ ⟨rfl,rfl⟩ (J0a.vec rfl rfl rfl) (by repeat' (first|(refine⟨rfl,rfl,True.intro,fun i hi=>(if_pos (by omega)).symm,fun i j t hi hn hj ht=>VLe.rfl⟩)|exact True.intro|(refine⟨⟨_,rfl,?_⟩,?_⟩)|exact J0a.kf rfl|(refine And.intro ?_ ?_))) rfl
theorem X3q (p:Pr) (hp:J2I p) (g:G) (hg:g.valid=true):Y02 p g 64:=by
 obtain⟨f1,f2,f3,f4,f5,f6,f7⟩:=J0e hg;refine⟨by kernel_rfl,fun v x hv hx=>?_⟩;refine J0g rfl ?_;refine J0d J0b Tryz.func64 rfl hc64 hr64 rfl ?_
 repeat' ((conv=>whnf);first|(refine Ix.nat (by omega) ?_)|(refine Ix.mk 0 rfl (by omega) ?_))
 all_goals (conv=>whnf)
 exact VLe.rfl
theorem X3p (p:Pr) (hp:J2I p) (g:G) (hg:g.valid=true):Y02 p g 36:=by
 obtain⟨f1,f2,f3,f4,f5,f6,f7⟩:=J0e hg;refine⟨by kernel_rfl,fun v x hv hx=>?_⟩;refine J0g rfl ?_;refine J0d J0b Tryz.func36 rfl hc36 hr36 rfl ?_
 repeat' ((conv=>whnf);first|(refine Ix.nat (by omega) ?_)|(refine Ix.mk 0 rfl (by omega) ?_))
 all_goals (conv=>whnf)
 exact VLe.rfl
theorem Q6D (p:Pr) (hp:J2I p) (g:G) (hs:g.Small) (hg:g.valid=true):J0J Tryz.prog 29 [p.v,g.v] [] KS2 fun v own' _=>v=.tup [.vec 0 1 0 g.ids.length,.int .i64 0]/\own'=[(0,J8m p g (loP p g) [])]:=by
 have h1:=J9i p hp g hs hg;have h2:=J3T p hp g hg;have h3:=Q0q p hp g hg _ (X3q p hp g hg);refine J1q ?_;refine J0d J0b Tryz.func29 rfl hc29 hr29 rfl ?_
 repeat' ((conv=>whnf);first|(refine Br.ff ?_)|(refine h1.go ?_)|(refine h2.go ?_)|(refine J10 [(0,some 2)] [1] (h3.mono ?_) ⟨J0a.kf rfl,J0a.fn ⟨J0a.loc rfl,True.intro⟩,True.intro⟩ (by repeat' (first|exact True.intro|(refine⟨⟨_,rfl,?_⟩,?_⟩)|exact J0a.kf rfl|(refine And.intro ?_ ?_))) rfl;rintro _ _ _ ⟨rfl,rfl⟩)|(refine Chk.mk rfl ?_))
 all_goals (conv=>whnf)
 exact J1m (fun _=>[(0,some 3)]) _ _ ⟨rfl,rfl⟩ (J0a.tup ⟨J0a.vec rfl rfl rfl,J0a.kf rfl,True.intro⟩) (by repeat' (first|(refine⟨rfl,rfl,True.intro,fun i hi=>rfl,fun i j t hi hn hj ht=>VLe.rfl⟩)|exact True.intro|(refine⟨⟨_,rfl,?_⟩,?_⟩))) rfl
end Go.Proofs.YtlpfphlbghdokaaGreatDoor
