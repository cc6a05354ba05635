/-
 WaveWhole: for every input the call returns true, and every argument reads as it did. Its one condition: math/bits' table reads as the program's text lays it, to which the card ties it.
-/
import Derived.Test.YtlpfphlbghdokaaGreatDoorRWV
import Derived.Test.YtlpfphlbghdokaaGreatDoorCards
import Derived.Test.YtlpfphlbghdokaaGreatDoorTie
namespace Go.Proofs.YtlpfphlbghdokaaGreatDoor
open Go.Eng Go.ChangeShapes Go.WideShapes Go.ChangeAt Go.WideMaps Go.WideElems Go.RowKit
set_option maxRecDepth 100000
set_option linter.unusedVariables false
theorem J57 (os:Os) (started:os.Started) (H:Type) (enc:TypeId×Value->H) :
 ReturnsInHanded {} Tryz.checked os 4 .any (fun w args=>(Rows.waveWholeSpec.pre enc Tryz.prog Tryz.f4 [] false w args/\laidMetH Tryz.prog Q7Y w)/\sizedMet enc Tryz.prog Tryz.f4 (OpenSpec.ofChange Rows.waveWholeSpec) false w args)
  (Rows.waveWholeSpec.post enc Tryz.prog Tryz.f4 false true false false):=by
 refine returnsInHanded_of_change_and (C:=Tryz.checked) (X:=fun w _=>laidMetH Tryz.prog Q7Y w) (fun _ _ _ hh h=>h.of_heap hh) ownk started (by kernel_rfl) Tryz.func4
  (ChangeSpec.witness_shaped (enc:=enc) (C:=Tryz.checked) (os:=os) (X:=fun w _=>laidMetH Tryz.prog Q7Y w) false (World.doorLaid Tryz.prog 400 os) #[.agg #[.int .i64 0,.slice none 0 0,.slice none 0 0,.slice none 0 0,.bool false,.bool false]] 8 rfl (World.shaped_of_RefB (by kernel_rfl) (by kernel_rfl)) (by kernel_rfl) (by kernel_rfl) (by kernel_rfl) (X1C os _)) ?_
 intro W base args ds gs before hval0 hW _ _ hL _;have hval:∀(j:Nat) t v,Tryz.f4.params[j]?=some t->args[j]?=some v->Value.okWide Tryz.prog W .any base t v:=hval0;have hW':=hW;obtain⟨p,q,hA0,hV,rfl,hfz,hnd⟩:=hW;have hA:DataW.TrodAll enc Tryz.prog W 0 (fun _=>true) true Tryz.f4.params.toList args.toList ds p:=hA0;rw[Tryz.params4] at hA hval;obtain⟨v0,vs0,d0,ds0,p0,q0,hargs,rfl,rfl,h0,r0⟩:=trodAll_cons hA;obtain⟨rfl,rfl,rfl⟩:=trodAll_nil r0;obtain rfl:args=#[v0]:=by cases args;simp_all
 obtain⟨rfl,rfl⟩:=trodVars_none hV;obtain⟨x0,b0,e0⟩:=X48 (Q5K (hval 0 24 v0 rfl rfl)) h0;refine(Q5d (args:=#[v0]) (W:=W) (Q7W x0 b0) rfl (X4h hL) ?_).mono ?_
 . intro i v u hv hu
   match i,hv,hu with
   | 0,hv,hu=>simp at hv hu;subst hv hu;exact e0
   | i+1,hv,hu=>simp at hv
 . rintro e W' ⟨rfl,hb⟩;refine⟨_,rfl,X0L (tb:=4) Y0Y rfl hW' ?_ (by kernel_rfl) Tryz.underlying4 rfl rfl rfl hb⟩;rw[Tryz.params4];intro t ht;simp at ht;rcases ht with rfl
   all_goals first|exact⟨X6z,X6u⟩
theorem J81:Rows.WaveWholeSaid :=
 OpenClaim.holds_of_wide 4 Tryz.f4 rfl rfl rfl rfl rfl rfl rfl ⟨rfl,rfl,rfl,rfl,rfl⟩ rfl rfl rfl rfl rfl (by kernel_rfl) Tryz.func4 (by kernel_rfl)
  (of_decide_eq_true (by kernel_rfl)) (by unfold Func.isWrapper;first|(rw[if_pos (by decide +kernel)];kernel_rfl)|(rw[if_neg (by decide +kernel)];exact⟨rfl,rfl⟩))
  (fun os started H enc _=>J57 os started H enc)
theorem waveWhole_holds:Rows.WaveWholeCardSaid :=
 Claim7.holds_tied_plain_at .later [] [.data] true (true, "ab0b9fa1099141f90fb1aeeb7c9d119a567edf59ec7f82d5757bf73db50f2c52") true
  J81 (fun _ h=>by cases h) (by kernel_rfl) (fun _ h=>by cases h) waveWhole_row_tie rfl ⟨rfl,rfl⟩ (by kernel_rfl) rfl
  (fun f fn hf hfn=>by
    obtain rfl:f=4:=Option.some.inj ((show Tryz.prog.funcNamed "selfstab/selfstablaw35.WaveWhole"=some 4 by kernel_rfl).symm.trans hf) |>.symm
    obtain rfl:fn=Tryz.f4:=(Option.some.inj (Tryz.func4.symm.trans hfn)).symm;refine⟨by kernel_rfl,fun j t ht=>?_⟩;rw[Tryz.params4] at ht;have ht2:=List.mem_of_getElem? (by simpa using ht);simp at ht2;rcases ht2 with rfl
    all_goals first|exact X3V)
  (by kernel_rfl)
end Go.Proofs.YtlpfphlbghdokaaGreatDoor
