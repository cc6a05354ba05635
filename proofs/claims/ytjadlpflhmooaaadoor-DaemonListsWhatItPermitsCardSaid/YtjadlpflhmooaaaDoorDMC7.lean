/-
  DaemonListsWhatItPermits: for every input the call returns true, and every argument reads as it did. Its one condition: math/bits' table reads as the program's text lays it, to which the card ties it.
-/
import Derived.Test.YtjadlpflhmooaaaDoorDM14
import Derived.Test.YtjadlpflhmooaaaDoorCards
import Derived.Test.YtjadlpflhmooaaaDoorTie
import Derived.SevenTiedAt
namespace Go.Proofs.YtjadlpflhmooaaaDoor
open Go.Eng Go.ChangeShapes Go.WideShapes Go.ChangeAt Go.WideMaps Go.WideElems Go.RowKit
set_option maxRecDepth 100000
set_option linter.unusedVariables false

theorem daemonListsWhatItPermits_lifted (os : Os) (started : os.Started) (H : Type) (enc : TypeId × Value → H) :
    ReturnsInHanded {} Tryd.checked os 5 .any (fun w args => (Rows.daemonListsWhatItPermitsSpec.pre enc Tryd.prog Tryd.f5 [] false w args ∧ laidMetH Tryd.prog laidL w) ∧ sizedMet enc Tryd.prog Tryd.f5 (OpenSpec.ofChange Rows.daemonListsWhatItPermitsSpec) false w args)
      (Rows.daemonListsWhatItPermitsSpec.post enc Tryd.prog Tryd.f5 false true false false) := by
  refine returnsInHanded_of_change_and (C := Tryd.checked) (X := fun w _ => laidMetH Tryd.prog laidL w) (fun _ _ _ hh h => h.of_heap hh) ownk started (by kernel_rfl) Tryd.func5
    (ChangeSpec.witness_shaped (enc := enc) (C := Tryd.checked) (os := os) (X := fun w _ => laidMetH Tryd.prog laidL w) false (World.doorLaid Tryd.prog 400 os) #[.agg #[.slice none 0 0, .slice none 0 0], .int .i64 0, .int .u32 0, .int .u32 0] 8 rfl (World.shaped_of_RefB (by kernel_rfl) (by kernel_rfl)) (by kernel_rfl) (by kernel_rfl) (by kernel_rfl) (door_met os _)) ?_
  intro W base args ds gs before hval0 hW _ _ hL _
  have hval : ∀ (j : Nat) t v, Tryd.f5.params[j]? = some t → args[j]? = some v → Value.okWide Tryd.prog W .any base t v := hval0
  have hW' := hW
  obtain ⟨p, q, hA0, hV, rfl, hfz, hnd⟩ := hW
  have hA : DataW.TrodAll enc Tryd.prog W 0 (fun _ => true) true Tryd.f5.params.toList args.toList ds p := hA0
  rw [Tryd.params5] at hA hval
  obtain ⟨v0, vs0, d0, ds0, p0, q0, hargs, rfl, rfl, h0, r0⟩ := trodAll_cons hA
  obtain ⟨v1, vs1, d1, ds1, p1, q1, hargs1, rfl, rfl, h1, r1⟩ := trodAll_cons r0
  obtain ⟨v2, vs2, d2, ds2, p2, q2, hargs2, rfl, rfl, h2, r2⟩ := trodAll_cons r1
  obtain ⟨v3, vs3, d3, ds3, p3, q3, hargs3, rfl, rfl, h3, r3⟩ := trodAll_cons r2
  obtain ⟨rfl, rfl, rfl⟩ := trodAll_nil r3
  subst hargs3
  subst hargs2
  subst hargs1
  obtain rfl : args = #[v0, v1, v2, v3] := by cases args; simp_all
  obtain ⟨rfl, rfl⟩ := trodVars_none hV
  obtain ⟨g, hs, e0⟩ := den_graph (agg_of_ok (hval 0 25 v0 rfl rfl)) h0
  obtain ⟨n1, e1⟩ := den_i64 (hval 1 3 v1 rfl rfl) h1
  obtain ⟨n2, b2, e2⟩ := den_u32 (hval 2 26 v2 rfl rfl) h2
  obtain ⟨n3, b3, e3⟩ := den_u32 (hval 3 26 v3 rfl rfl) h3
  refine (retG_calls (args := #[v0, v1, v2, v3]) (W := W) (lawLists g hs n1 n2 n3 b2 b3) rfl (of_laid hL) ?_).mono ?_
  · intro i v u hv hu
    match i, hv, hu with
    | 0, hv, hu => simp at hv hu; subst hv hu; exact e0
    | 1, hv, hu => simp at hv hu; subst hv hu; exact e1
    | 2, hv, hu => simp at hv hu; subst hv hu; exact e2
    | 3, hv, hu => simp at hv hu; subst hv hu; exact e3
    | i + 4, hv, hu => simp at hv
  · rintro e W' ⟨rfl, hb⟩
    refine ⟨_, rfl, post_law (tb := 4) laidB rfl hW' ?_ (by kernel_rfl) Tryd.underlying4 rfl rfl rfl hb⟩
    rw [Tryd.params5]
    intro t ht
    simp at ht
    rcases ht with rfl | rfl | rfl | rfl
    all_goals first | exact ⟨read25, size25⟩ | exact ⟨read3, size3⟩ | exact ⟨read26, size26⟩ | exact ⟨read4, size4⟩

theorem daemonListsWhatItPermits_row : Rows.DaemonListsWhatItPermitsSaid :=
  OpenClaim.holds_of_wide 5 Tryd.f5 rfl rfl rfl rfl rfl rfl rfl ⟨rfl, rfl, rfl, rfl, rfl⟩ rfl rfl rfl rfl rfl (by kernel_rfl) Tryd.func5 (by kernel_rfl)
    (of_decide_eq_true (by kernel_rfl)) (by unfold Func.isWrapper; first | (rw [if_pos (by decide +kernel)]; kernel_rfl) | (rw [if_neg (by decide +kernel)]; exact ⟨rfl, rfl⟩))
    (fun os started H enc _ => daemonListsWhatItPermits_lifted os started H enc)

theorem daemonListsWhatItPermits_holds : Rows.DaemonListsWhatItPermitsCardSaid :=
  Claim7.holds_tied_plain_at .later [] [.data] true (true, "17f6cde2f1828f6ab95789f91c312b5dcde5fa99be9cc1c4426dd76269762235") false
    daemonListsWhatItPermits_row (fun _ h => by cases h) (by kernel_rfl) (fun _ h => by cases h) daemonListsWhatItPermits_row_tie rfl ⟨rfl, rfl⟩ (by kernel_rfl) rfl
    (fun f fn hf hfn => by
      obtain rfl : f = 5 := Option.some.inj ((show Tryd.prog.funcNamed "selfstab/selfstablaw15.DaemonListsWhatItPermits" = some 5 by kernel_rfl).symm.trans hf) |>.symm
      obtain rfl : fn = Tryd.f5 := (Option.some.inj (Tryd.func5.symm.trans hfn)).symm
      refine ⟨by kernel_rfl, fun j t ht => ?_⟩
      rw [Tryd.params5] at ht
      have ht2 := List.mem_of_getElem? (by simpa using ht)
      simp at ht2
      rcases ht2 with rfl | rfl | rfl | rfl
      all_goals first | exact stand25 | exact stand3 | exact stand26 | exact stand4)
    (by kernel_rfl)
end Go.Proofs.YtjadlpflhmooaaaDoor
