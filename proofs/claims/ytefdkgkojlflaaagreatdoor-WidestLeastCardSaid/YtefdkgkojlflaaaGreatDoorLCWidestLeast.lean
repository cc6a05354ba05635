/-
 WidestLeast: for every input the call returns true, and every argument reads as it did. Its one condition: math/bits' table reads as the program's text lays it, to which the card ties it.
-/
import Derived.Test.YtefdkgkojlflaaaGreatDoorWY2
import Derived.Test.YtefdkgkojlflaaaGreatDoorCards
import Derived.Test.YtefdkgkojlflaaaGreatDoorTie
namespace Go.Proofs.YtefdkgkojlflaaaGreatDoor
open Go.Eng Go.ChangeShapes Go.WideShapes Go.ChangeAt Go.WideMaps Go.WideElems Go.RowKit
set_option maxRecDepth 100000
set_option linter.unusedVariables false
theorem J4K (os:Os) (started:os.Started) (H:Type) (enc:TypeId×Value->H) :
 ReturnsInHanded {} Tryz.checked os 3 .any (fun w args=>(Rows.widestLeastSpec.pre enc Tryz.prog Tryz.f3 [] false w args/\laidMetH Tryz.prog Q7e w)/\sizedMet enc Tryz.prog Tryz.f3 (OpenSpec.ofChange Rows.widestLeastSpec) false w args)
  (Rows.widestLeastSpec.post enc Tryz.prog Tryz.f3 false true false false):=by
 refine returnsInHanded_of_change_and (C:=Tryz.checked) (X:=fun w _=>laidMetH Tryz.prog Q7e w) (fun _ _ _ hh h=>h.of_heap hh) ownk started (by kernel_rfl) Tryz.func3
  (ChangeSpec.witness_shaped (enc:=enc) (C:=Tryz.checked) (os:=os) (X:=fun w _=>laidMetH Tryz.prog Q7e w) false (World.doorLaid Tryz.prog 400 os) #[.agg #[.int .i64 0,.slice none 0 0,.slice none 0 0,.slice none 0 0,.bool false,.bool false]] 8 rfl (World.shaped_of_RefB (by kernel_rfl) (by kernel_rfl)) (by kernel_rfl) (by kernel_rfl) (by kernel_rfl) (X09 os _)) ?_
 intro W base args ds gs before hval0 hW _ _ hL _;have hval:∀(j:Nat) t v,Tryz.f3.params[j]?=some t->args[j]?=some v->Value.okWide Tryz.prog W .any base t v:=hval0;have hW':=hW;obtain⟨p,q,hA0,hV,rfl,hfz,hnd⟩:=hW;have hA:DataW.TrodAll enc Tryz.prog W 0 (fun _=>true) true Tryz.f3.params.toList args.toList ds p:=hA0;rw[Tryz.params3] at hA hval;obtain⟨v0,vs0,d0,ds0,p0,q0,hargs,rfl,rfl,h0,r0⟩:=trodAll_cons hA;obtain⟨rfl,rfl,rfl⟩:=trodAll_nil r0;obtain rfl:args=#[v0]:=by cases args;simp_all
 obtain⟨rfl,rfl⟩:=trodVars_none hV;obtain⟨x0,b0,e0⟩:=X4S (Q5d (hval 0 24 v0 rfl rfl)) h0;refine(Q4D (args:=#[v0]) (W:=W) (Q7c x0 b0) rfl (X3W hL) ?_).mono ?_
 . intro i v u hv hu
   match i,hv,hu with
   | 0,hv,hu=>simp at hv hu;subst hv hu;exact e0
   | i+1,hv,hu=>simp at hv
 . rintro e W' ⟨rfl,hb⟩;refine⟨_,rfl,Q95 (tb:=4) X94 rfl hW' ?_ (by kernel_rfl) Tryz.underlying4 rfl rfl rfl hb⟩;rw[Tryz.params3];intro t ht;simp at ht;rcases ht with rfl
   all_goals first|exact⟨X56,X51⟩
theorem J6s:Rows.WidestLeastSaid :=
 OpenClaim.holds_of_wide 3 Tryz.f3 rfl rfl rfl rfl rfl rfl rfl ⟨rfl,rfl,rfl,rfl,rfl⟩ rfl rfl rfl rfl rfl (by kernel_rfl) Tryz.func3 (by kernel_rfl)
  (of_decide_eq_true (by kernel_rfl)) (by unfold Func.isWrapper;first|(rw[if_pos (by decide +kernel)];kernel_rfl)|(rw[if_neg (by decide +kernel)];exact⟨rfl,rfl⟩))
  (fun os started H enc _=>J4K os started H enc)
theorem widestLeast_holds:Rows.WidestLeastCardSaid :=
 Claim7.holds_tied_plain_at .later [] [.data] true (true, "d4b8b7d6aa7fcb74372e1dc8a17f459dd8be1f71811f2ecbe20298d8d84c0742") true
  J6s (fun _ h=>by cases h) (by kernel_rfl) (fun _ h=>by cases h) widestLeast_row_tie rfl ⟨rfl,rfl⟩ (by kernel_rfl) rfl
  (fun f fn hf hfn=>by
    obtain rfl:f=3:=Option.some.inj ((show Tryz.prog.funcNamed "selfstab/selfstablaw25.WidestLeast"=some 3 by kernel_rfl).symm.trans hf) |>.symm
    obtain rfl:fn=Tryz.f3:=(Option.some.inj (Tryz.func3.symm.trans hfn)).symm;refine⟨by kernel_rfl,fun j t ht=>?_⟩;rw[Tryz.params3] at ht;have ht2:=List.mem_of_getElem? (by simpa using ht);simp at ht2;rcases ht2 with rfl
    all_goals first|exact X3u)
  (by kernel_rfl)
end Go.Proofs.YtefdkgkojlflaaaGreatDoor
