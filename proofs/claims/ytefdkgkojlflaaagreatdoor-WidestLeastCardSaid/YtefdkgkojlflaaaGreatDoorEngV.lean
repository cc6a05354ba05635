import Derived.Test.YtefdkgkojlflaaaGreatDoorEngT
namespace Go.Eng
theorem Q86 {n:Int} (h1:0<=n) (h2:n<=18446744073709551615):IntKind.u64.wrap n=n:=by
 simp only[IntKind.wrap,IntKind.bits,IntKind.signed,Bool.false_and]
 first|(split<;>omega)|(simp;omega)
theorem Ar.u64 {n:Int} {K:Int->Prop} (h1:0<=n) (h2:n<=18446744073709551615) (hK:K n):Ar .u64 n K:=⟨n,(Q86 h1 h2).symm,hK⟩
theorem J8D (a:Nat):BitVec.ofInt 32 (a:Int)=BitVec.ofNat 32 a:=by
 apply BitVec.eq_of_toNat_eq;simp
theorem Q39 {a b:Nat} (ha:a<4294967296) (hb:b<4294967296):J3m .or .u32 a b=((a ||| b:Nat):Int):=by
 show IntKind.u32.wrap ((BitVec.ofInt 32 (a:Int) ||| BitVec.ofInt 32 (b:Int)).toNat:Int)=_;rw[J8D,J8D,BitVec.toNat_or,BitVec.toNat_ofNat,BitVec.toNat_ofNat,Nat.mod_eq_of_lt ha,Nat.mod_eq_of_lt hb];have:a ||| b<2 ^ 32:=Nat.or_lt_two_pow ha hb;exact J51 (by omega) (by omega)
theorem J1t {a b:Nat} (ha:a<4294967296) (hb:b<4294967296):J3m .and .u32 a b=((a &&& b:Nat):Int):=by
 show IntKind.u32.wrap ((BitVec.ofInt 32 (a:Int) &&& BitVec.ofInt 32 (b:Int)).toNat:Int)=_;rw[J8D,J8D,BitVec.toNat_and,BitVec.toNat_ofNat,BitVec.toNat_ofNat,Nat.mod_eq_of_lt ha,Nat.mod_eq_of_lt hb];have:a &&& b<2 ^ 32:=Nat.and_lt_two_pow _ hb;exact J51 (by omega) (by omega)
def J3c (a b:Nat):Nat:=a &&& (4294967295 ^^^ b)
theorem J5B {a b:Nat} (ha:a<4294967296) (hb:b<4294967296):J3m .andNot .u32 a b=((J3c a b:Nat):Int):=by
 show IntKind.u32.wrap ((BitVec.ofInt 32 (a:Int) &&& ~~~ (BitVec.ofInt 32 (b:Int))).toNat:Int)=_;have hx:4294967295-b=4294967295 ^^^ b:=by
  have h1:(~~~ (BitVec.ofNat 32 b)).toNat=2 ^ 32-1-b:=by rw[BitVec.toNat_not,BitVec.toNat_ofNat,Nat.mod_eq_of_lt hb]
  have h2:(~~~ (BitVec.ofNat 32 b)).toNat=4294967295 ^^^ b:=by
   rw[BitVec.not_def,BitVec.toNat_xor,BitVec.toNat_allOnes,BitVec.toNat_ofNat,Nat.mod_eq_of_lt hb]
  rw[<- h2,h1]
 rw[J8D,J8D,BitVec.toNat_and,BitVec.toNat_not,BitVec.toNat_ofNat,BitVec.toNat_ofNat,Nat.mod_eq_of_lt ha,Nat.mod_eq_of_lt hb];have e:(2 ^ 32-1-b:Nat)=4294967295 ^^^ b:=hx;rw[e];have:J3c a b<2 ^ 32:=Nat.lt_of_le_of_lt Nat.and_le_left ha;exact J51 (by omega) (by unfold J3c at this;omega)
theorem J3u {k:Nat} (h:k<32):2 ^ k<4294967296:=Nat.pow_lt_pow_right (by omega) h
theorem Ar.sh1 {k:Nat} {K:Int->Prop} (h:k<32) (hK:K ((2 ^ k:Nat):Int)):Ar .u32 (1*2 ^ (min (k:Int).toNat 32)) K:=by
 have e:(1*2 ^ (min (k:Int).toNat 32):Int)=((2 ^ k:Nat):Int):=by
  rw[Int.one_mul,Int.toNat_natCast,Nat.min_eq_left (by omega)];simp
 rw[e];have:=J3u h;revert this hK;generalize 2 ^ k=q;intro hK this;exact Ar.u32 (by omega) (by omega) hK
def nb (p:Nat->Bool):Nat->Nat
 | 0=>0
 | k+1=>if p k then nb p k ||| 2 ^ k else nb p k
theorem Q6O (p:Nat->Bool):∀k,nb p k<2 ^ k
 | 0=>by show 0<1;omega
 | k+1=>by
   have h:=Q6O p k;have h2:2 ^ k<2 ^ (k+1):=Nat.pow_lt_pow_right (by omega) (by omega);rw[nb];split
   . exact Nat.or_lt_two_pow (by omega) h2
   . omega
theorem X0h (p:Nat->Bool) {k:Nat} (h:k<=32):nb p k<4294967296 :=
 Nat.lt_of_lt_of_le (Q6O p k) (Nat.pow_le_pow_right (n:=2) (by omega) h)
theorem J8l (p:Nat->Bool) (i:Nat):∀k,(nb p k).testBit i=(decide (i<k)&&p i)
 | 0=>by simp[nb]
 | k+1=>by
   have ih:=J8l p i k;by_cases hik:i=k
   . subst hik;rw[nb];split
     . rename_i h;simp[Nat.testBit_or,h]
     . rename_i h;rw[ih];simp[h]
   . have e:decide (i<k+1)=decide (i<k):=by rw[decide_eq_decide];omega
     rw[nb,e];split
     . rw[Nat.testBit_or,ih,Nat.testBit_two_pow];have:decide (k=i)=false:=by rw[decide_eq_false_iff_not];omega
       rw[this,Bool.or_false]
     . exact ih
theorem X6z {p:Nat->Bool} {k:Nat} (h:p k=true):nb p (k+1)=nb p k ||| 2 ^ k:=by rw[nb,if_pos h]
theorem X9Y {p:Nat->Bool} {k:Nat} (h:p k=false):nb p (k+1)=nb p k:=by rw[nb,if_neg (by simp[h])]
theorem X9X {p:Nat->Bool} {k:Nat} (hk:k<32) (h:p k=true):J3m .or .u32 (nb p k:Nat) ((2 ^ k:Nat):Int)=(nb p (k+1):Nat):=by
 rw[Q39 (X0h p (by omega)) (J3u hk),X6z h]
section
open Go.ChangeShapes Go.WideShapes Go.ChangeAt Go.RowKit
variable {H:Type} {enc:TypeId×Value->H} {P:Program} {w:World} {sp:Nat->Bool} {hd:Bool}
end
end Go.Eng
namespace Go.Eng
theorem X0i {s:Nat} {p:Nat->Bool} {n:Nat} (h:∀i,s.testBit i=(decide (i<n)&&p i)):s=nb p n :=
 Nat.eq_of_testBit_eq fun i=>by rw[h,J8l]
theorem J3N {a b i:Nat} (hi:i<32):(J3c a b).testBit i=(a.testBit i&&!b.testBit i):=by
 rw[J3c,Nat.testBit_and,Nat.testBit_xor];have:(4294967295:Nat).testBit i=true:=by
  have:=Nat.testBit_two_pow_sub_one 32 i;simpa[hi] using this
 rw[this];cases b.testBit i<;>simp
theorem X6A (n:Nat):nb (fun _=>true) n+1=2 ^ n:=by
 have:nb (fun _=>true) n=2 ^ n-1:=(X0i fun i=>by rw[Nat.testBit_two_pow_sub_one];simp).symm;rw[this];have:=Nat.two_pow_pos n;omega
theorem X3x {s k:Nat} (hs:s<4294967296):J3m .and .u32 ((s:Int).fdiv (2 ^ k)) 1=if s.testBit k then 1 else 0:=by
 have e:(s:Int).fdiv (2 ^ k)=((s >>> k:Nat):Int):=by
  rw[Int.fdiv_eq_ediv_of_nonneg _ (Int.pow_nonneg (by omega)),Nat.shiftRight_eq_div_pow];simp
 have hlt:s >>> k<4294967296:=Nat.lt_of_le_of_lt (Nat.shiftRight_le s k) hs;rw[e];have:=J1t (a:=s >>> k) (b:=1) hlt (by decide);have e2:(((1:Nat):Int))=1:=rfl;rw[e2] at this;rw[this];have h3:s >>> k &&& 1=(s.testBit k).toNat:=by
  rw[Nat.and_one_is_mod,Nat.shiftRight_eq_div_pow,Nat.testBit_eq_decide_div_mod_eq];rcases Nat.mod_two_eq_zero_or_one (s / 2 ^ k) with h|h<;>simp[h]
 rw[h3];cases s.testBit k<;>rfl
theorem X3w {s k:Nat} (hs:s<4294967296) (hk:k<32):(J3m .and .u32 ((s:Int).fdiv (2 ^ (min (k:Int).toNat 32))) 1=1)↔s.testBit k=true:=by
 rw[Int.toNat_natCast,Nat.min_eq_left (by omega),X3x hs];cases s.testBit k<;>simp
def KS2:List Nat:=[0,1,2,3,4,5,6,7,8,9,10,11,12,13,14,15,16,17,18,19,20,21,22,23,24,25,26,27,28,29,30,31,32,33,34,35,36,37,38,39,40,41,42,43,44,45,46,47,48,49,50,51,52,53,54,55,56,57,58,59,60,61,62,63,64,65,66,67,68,69,70,71,72,73,74,75,76,77,78,79,80,81,82,83,84,85,86,87,88,89,90,91,92,93,94,95,96,97,98,99,100,101,102,103,104,105,106,107,108,109,110,111,112,113,114,115,116,117,118,119]
theorem Q1n:KS2.Nodup:=by decide
theorem Q9X {P:Program} {f:FuncId} {args:List V} {X:V} (hk:J24 V.kf args=true) (h:J0K P f args [] KS2 fun v own' _=>Q5m own' v fun v'=>VLe v' X):Ret P f args X:=by
 intro own ks;constructor;intro M w σ us hlen hd hh;refine(h.out M w Sg.none us hlen (fun i v u hv hu=>(hd i v u hv hu).kf (J0w hk v (List.mem_of_getElem? hv)) Sg.none) (J2Q KS2 Q1n)).mono ?_;rintro e w' ⟨M',σ',v,own',ks',u,rfl,hv,hh',tr,_,hfr⟩;obtain⟨v',hK,hv'⟩:=J4b hfr;have hM:∀b,b<w.heap.size->(J4j M' w' σ' own' b↔M b):=by
  intro b hb;have hno:¬ J0y w' σ' own' b:=fun ho=>by
   rcases tr.new b ho with h1|h1
   . exact J0T h1
   . omega
  constructor
  . intro h1;exact(tr.adv.muts b hb J0T).1 h1.1
  . intro h1;exact⟨(tr.adv.muts b hb J0T).2 h1,hno⟩
 have hfr:=J3f (M'':=J4j M' w' σ' own') hh tr hM;exact⟨_,σ,X,own,ks,u,rfl,(hK.out _ _ _ (hv' M' w' σ' u hh'.own hv)).mono (Ext.mk (fun _ _ h=>⟨h,rfl⟩) (Nat.le_refl _)) (Sg.none_le σ),hfr.1,hfr.2,Kd.refl _ _ _,rfl,rfl,rfl⟩
theorem J1n {P:Program} {f:FuncId} {args args0:List V} {X:V} {own:Own} {ks:List Nat} {K:V->Own->List Nat->Prop} (h:Ret P f args0 X) (hx:X.flat=true)
 (hb:X1z own args fun args'=>LLe args' args0) (hK:K X own ks):J0K P f args own ks K:=by
 obtain⟨args',hle,hl,hs⟩:=J3k hb;constructor;intro M w σ us hlen hd hh;obtain⟨d1,d2⟩:=hle.dens (M:=J4j M w σ own) (w:=w) (us:=us) (by omega) (fun i v' u hv' hu=>by
  have hi:i<args.length:=by rw[<- hl];exact(List.getElem?_eq_some_iff.1 hv').1
  exact hs M w σ hh.own i args[i] v' u (by simp[hi]) hv' (hd i args[i] u (by simp[hi]) hu))
 refine((h [] KS).out (J4j M w σ own) w Sg.none us d1 d2 (J2Q KS J6q)).mono ?_;rintro e w' ⟨M',σ',v,own',ks',u,rfl,hv,hh',tr,_,rfl,rfl,rfl⟩;have hfr:=J3f (M'':=fun b=>(b<w.heap.size/\M b)\/(w.heap.size<=b/\M' b)) hh tr
  (fun b hb=>by constructor<;>intro h;(rcases h with h|h;exact h.2;omega);exact .inl ⟨hb,h⟩)
 exact⟨_,σ,_,own,ks,u,rfl,hv.flat hx,hfr.1,hfr.2,Kd.refl _ _ _,hK⟩
end Go.Eng
