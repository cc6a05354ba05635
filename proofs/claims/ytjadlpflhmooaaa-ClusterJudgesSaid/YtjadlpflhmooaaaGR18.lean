/-
  ClusterJudges: for every input the call returns true, and every argument reads as it did. No condition.
-/
import Derived.Test.YtjadlpflhmooaaaGR8
import Derived.Test.YtjadlpflhmooaaaGR17
namespace Go.Proofs.Ytjadlpflhmooaaa
open Go.Eng Go.ChangeShapes Go.WideShapes Go.ChangeAt Go.RowKit
set_option maxRecDepth 100000
set_option linter.unusedVariables false

theorem cluster_lifted (os : Os) (started : os.Started) (H : Type) (enc : TypeId × Value → H) :
    ReturnsInHanded {} Try.checked os 6 .any (Rows.clusterJudgesSpec.pre6 enc Try.prog Try.f6 Rows.clusterJudgesRow.domain false) (Rows.clusterJudgesSpec.post enc Try.prog Try.f6 false true false false) := by
  refine returnsInHanded_of_change (C := Try.checked) own started (by kernel_rfl) Try.func6
    (ChangeSpec.witness6 (enc := enc) (C := Try.checked) false ⟨#[], #[.agg #[.slice none 0 0, .slice none 0 0], .slice none 0 0], []⟩ 8 (by kernel_rfl) (by kernel_rfl) (by kernel_rfl) (by kernel_rfl)) ?_
  intro W base args ds gs before hval0 hW hcnd _
  have hval : ∀ (j : Nat) t v, Try.f6.params[j]? = some t → args[j]? = some v → Value.okWide Try.prog W .any base t v := hval0
  have hW' := hW
  obtain ⟨p, q, hA0, hV, rfl, hfz, hnd⟩ := hW
  have hA : DataW.TrodAll enc Try.prog W 0 (fun _ => true) true Try.f6.params.toList args.toList ds p := hA0
  rw [Try.params6] at hA hval
  obtain ⟨v0, vs0, d0, ds0, p0, q0, hargs, rfl, rfl, h0, r0⟩ := trodAll_cons hA
  obtain ⟨v1, vs1, d1, ds1, p1, q1, hargs1, rfl, rfl, h1, r1⟩ := trodAll_cons r0
  obtain ⟨rfl, rfl, rfl⟩ := trodAll_nil r1
  subst hargs1
  obtain rfl : args = #[v0, v1] := by cases args; simp_all
  obtain ⟨rfl, rfl⟩ := trodVars_none hV
  obtain ⟨g, hs, hr⟩ := den_graph (agg_of_ok (hval 0 27 v0 rfl rfl)) h0
  obtain ⟨c, hc, hl⟩ := den_cf (slice_of_ok (hval 1 29 v1 rfl rfl)) h1
  refine (ret_calls (args := #[v0, v1]) (W := W) (law34 g hs c hc) rfl ?_).mono ?_
  · intro i v u hv hu
    match i, hv, hu with
    | 0, hv, hu => simp at hv hu; subst hv hu; exact hr
    | 1, hv, hu => simp at hv hu; subst hv hu; exact hl
    | i + 2, hv, hu => simp at hv
  · rintro e W' ⟨rfl, hb⟩
    refine ⟨_, rfl, post_law (tb := 4) laid rfl hW' ?_ (by kernel_rfl) Try.underlying4 rfl rfl rfl hb⟩
    rw [Try.params6]
    intro t ht
    simp at ht
    rcases ht with rfl | rfl
    · exact ⟨read27, size27⟩
    · exact ⟨read29, size29⟩

theorem clusterJudges_holds : Rows.ClusterJudgesSaid :=
  OpenClaim.holds_of_wide 6 Try.f6 rfl rfl rfl rfl rfl rfl rfl ⟨rfl, rfl, rfl, rfl, rfl⟩ rfl rfl rfl rfl rfl (by kernel_rfl) Try.func6 (by kernel_rfl)
    (of_decide_eq_true (by kernel_rfl)) (by unfold Func.isWrapper; first | (rw [if_pos (by decide +kernel)]; kernel_rfl) | (rw [if_neg (by decide +kernel)]; exact ⟨rfl, rfl⟩))
    (fun os started H enc _ => cluster_lifted os started H enc)
end Go.Proofs.Ytjadlpflhmooaaa
