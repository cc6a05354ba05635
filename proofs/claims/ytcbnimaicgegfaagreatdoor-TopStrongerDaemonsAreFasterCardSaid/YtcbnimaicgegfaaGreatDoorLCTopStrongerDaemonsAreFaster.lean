/-
 TopStrongerDaemonsAreFaster: for every input the call returns true, and every argument reads as it did. Its one condition: math/bits' table reads as the program's text lays it, to which the card ties it.
-/
import Derived.Test.YtcbnimaicgegfaaGreatDoorTL1
import Derived.Test.YtcbnimaicgegfaaGreatDoorCards
import Derived.Test.YtcbnimaicgegfaaGreatDoorTie
set_option linter.all false
namespace Go.Proofs.YtcbnimaicgegfaaGreatDoor
open Go.Eng Go.ChangeShapes Go.WideShapes Go.ChangeAt Go.WideMaps Go.WideElems Go.RowKit
set_option maxRecDepth 100000
theorem J10 (os:Os) (d:os.Started) (H:Type) (enc:TypeId×Value->H) :
 ReturnsInHanded {} Tryz.checked os 3 .any (fun w args=>(Rows.topStrongerDaemonsAreFasterSpec.pre enc Tryz.prog Tryz.f3 [] false w args/\laidMetH Tryz.prog Q9w w)/\sizedMet enc Tryz.prog Tryz.f3 (OpenSpec.ofChange Rows.topStrongerDaemonsAreFasterSpec) false w args)
  (Rows.topStrongerDaemonsAreFasterSpec.post enc Tryz.prog Tryz.f3 false true false false):=by
 refine returnsInHanded_of_change_and (C:=Tryz.checked) (X:=fun w _=>laidMetH Tryz.prog Q9w w) (fun _ _ _ T h=>h.of_heap T) ownk d (by kernel_rfl) Tryz.func3
  (ChangeSpec.witness_shaped (enc:=enc) (C:=Tryz.checked) (os:=os) (X:=fun w _=>laidMetH Tryz.prog Q9w w) false (World.doorLaid Tryz.prog 400 os) #[.agg #[.string (ByteArray.mk #[]),.slice none 0 0,.slice none 0 0],.agg #[.slice none 0 0,.slice none 0 0],.int .i64 0,.int .i64 0,.slice none 0 0] 8 rfl (World.shaped_of_RefB (by kernel_rfl) (by kernel_rfl)) (by kernel_rfl) (by kernel_rfl) (by kernel_rfl) (X3a os _)) ?_
 intro W base args ds gs n m A _ _ Z _;have a:∀(j:Nat) t v,Tryz.f3.params[j]?=some t->args[j]?=some v->Value.okWide Tryz.prog W .any base t v:=m;have x:=A;obtain⟨p,q,y,Y,rfl,U,S⟩:=A;have B:DataW.TrodAll enc Tryz.prog W 0 (fun _=>true) true Tryz.f3.params.toList args.toList ds p:=y;rw[Tryz.params3] at B a;obtain⟨v0,M,d0,a4,p0,q0,s,rfl,rfl,h0,Q⟩:=trodAll_cons B;obtain⟨v1,L,d1,a3,p1,q1,l,rfl,rfl,h1,r1⟩:=trodAll_cons Q;obtain⟨r,K,d2,a2,p2,q2,k,rfl,rfl,h2,P⟩:=trodAll_cons r1;obtain⟨o,J,d3,a1,p3,q3,g,rfl,rfl,h3,O⟩:=trodAll_cons P;obtain⟨v4,I,d4,a0,p4,q4,f,rfl,rfl,h4,N⟩:=trodAll_cons O;obtain⟨rfl,rfl,rfl⟩:=trodAll_nil N;subst f;subst g;subst k;subst l;obtain rfl:args=#[v0,v1,r,o,v4]:=by cases args;simp_all
 obtain⟨rfl,rfl⟩:=trodVars_none Y;obtain⟨x0,b0,e0⟩:=X3f (Q6X (a 0 25 v0 rfl rfl)) h0;obtain⟨G,b1,e1⟩:=X0i (Q6Y (a 1 29 v1 rfl rfl)) h1;obtain⟨F,b2,e2⟩:=X0h (a 2 3 r rfl rfl) h2;obtain⟨E,b3,e3⟩:=X0h (a 3 3 o rfl rfl) h3;obtain⟨R,D,b4,e4⟩:=X0j (Q1s (a 4 30 v4 rfl rfl)) h4;refine(Q6j (args:=#[v0,v1,r,o,v4]) (W:=W) (Q3E x0 b0 G b1 F b2 E b3 R b4 D) rfl (X6P Z) ?_).mono ?_
 . intro i v u b c
   match i,b,c with
   | 0,b,c=>simp at b c;subst b c;exact e0
   | 1,b,c=>simp at b c;subst b c;exact e1
   | 2,b,c=>simp at b c;subst b c;exact e2
   | 3,b,c=>simp at b c;subst b c;exact e3
   | 4,b,c=>simp at b c;subst b c;exact e4
   | i+5,b,c=>simp at b
 . rintro e W' ⟨rfl,V⟩;refine⟨_,rfl,X2c (tb:=4) Y4h rfl x ?_ (by kernel_rfl) Tryz.underlying4 rfl rfl rfl V⟩;rw[Tryz.params3];intro t z;simp at z;rcases z with rfl|rfl|rfl|rfl|rfl
   all_goals first|exact⟨X9p,X9i⟩|exact⟨X9o,X9h⟩|exact⟨Y38,Y2f⟩|exact⟨X9n,X9g⟩
theorem J2k:Rows.TopStrongerDaemonsAreFasterSaid :=
 OpenClaim.holds_of_wide 3 Tryz.f3 rfl rfl rfl rfl rfl rfl rfl ⟨rfl,rfl,rfl,rfl,rfl⟩ rfl rfl rfl rfl rfl (by kernel_rfl) Tryz.func3 (by kernel_rfl)
  (Xe (by kernel_rfl)) (by unfold Func.isWrapper;first|(rw[Qe (by decide +kernel)];kernel_rfl)|(rw[Qb (by decide +kernel)];exact⟨rfl,rfl⟩))
  (fun os a H enc _=>J10 os a H enc)
theorem topStrongerDaemonsAreFaster_holds:Rows.TopStrongerDaemonsAreFasterCardSaid :=
 Claim7.holds_tied_plain_at .later [] [.data] true (true, "b7375f9d902942d84d21144571783ecac80514025985c8d87eadd0135ea4977a") true
  J2k (fun _ h=>by cases h) (by kernel_rfl) (fun _ h=>by cases h) topStrongerDaemonsAreFaster_row_tie rfl ⟨rfl,rfl⟩ (by kernel_rfl) rfl
  (fun f fn d b=>by
    obtain rfl:f=3:=Yl ((show Tryz.prog.funcNamed "selfstab/selfstabtop.TopStrongerDaemonsAreFaster"=some 3 by kernel_rfl).symm.trans d) |>.symm
    obtain rfl:fn=Tryz.f3:=(Yl (Tryz.func3.symm.trans b)).symm;refine⟨by kernel_rfl,fun j t c=>?_⟩;rw[Tryz.params3] at c;have a:=Qw (by simpa using c);simp at a;rcases a with rfl|rfl|rfl|rfl|rfl
    all_goals first|exact X5x|exact X5w|exact X9d|exact X5v)
  (by kernel_rfl)
end Go.Proofs.YtcbnimaicgegfaaGreatDoor
