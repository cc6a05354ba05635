/-
  ClockText: for every input the call returns true, and every argument reads as it did. No condition.
-/
import Derived.Test.YtcnpplcfabdoaaaGreatTK2
import Derived.Test.YtcnpplcfabdoaaaGreatEngS
import Derived.Test.YtcnpplcfabdoaaaGreatRows
namespace Go.Proofs.YtcnpplcfabdoaaaGreat
open Go.Eng Go.ChangeShapes Go.WideShapes Go.ChangeAt Go.RowKit
set_option maxRecDepth 100000
set_option linter.unusedVariables false

theorem own : ownKnob Tryz.prog.godebug = none := by kernel_rfl
theorem laid : laidOutB Tryz.prog = true := by kernel_rfl
theorem read3 : Tryz.prog.readableRec 3 = true := by kernel_rfl
theorem size3 : 3 < Tryz.prog.types.size := of_decide_eq_true (by kernel_rfl)

theorem int_of_ok {W : World} {base : Nat} {v : Value} (h : Value.okWide Tryz.prog W .any base 3 v) : v.cells = #[v] := by
  unfold Value.okWide at h
  rw [Tryz.underlying3] at h
  unfold Cell.okWide at h
  rw [Tryz.underlying3] at h
  cases v <;> first | rfl | (simp [Cell.ok, Tryz.underlying3] at h)

theorem int_of_trod {H : Type} {enc : TypeId × Value → H} {W : World} {sp : Nat → Bool} {hd : Bool} {v : Value} {d : DataW H} {ps : List MemPlace} (hv : v.cells = #[v]) (h : DataW.Trod enc Tryz.prog W 0 sp hd 3 v d ps) : ∃ n : Int, v = .int .i64 n := by
  obtain ⟨fuel, h⟩ := h
  rw [hv] at h
  obtain ⟨n, e, _⟩ := trod_int_inv Tryz.underlying3 h
  simp at e
  exact ⟨n, e⟩

theorem text_lifted (os : Os) (started : os.Started) (H : Type) (enc : TypeId × Value → H) :
    ReturnsInHanded {} Tryz.checked os 6 .any (Rows.clockTextSpec.pre6 enc Tryz.prog Tryz.f6 Rows.clockTextRow.domain false) (Rows.clockTextSpec.post enc Tryz.prog Tryz.f6 false true false false) := by
  refine returnsInHanded_of_change (C := Tryz.checked) own started (by kernel_rfl) Tryz.func6
    (ChangeSpec.witness6 (enc := enc) (C := Tryz.checked) false ⟨#[], #[.int .i64 0], []⟩ 8 (by kernel_rfl) (by kernel_rfl) (by kernel_rfl) (by kernel_rfl)) ?_
  intro W base args ds gs before hval0 hW hcnd _
  have hval : ∀ (j : Nat) t v, Tryz.f6.params[j]? = some t → args[j]? = some v → Value.okWide Tryz.prog W .any base t v := hval0
  have hW' := hW
  obtain ⟨p, q, hA0, hV, rfl, hfz, hnd⟩ := hW
  have hA : DataW.TrodAll enc Tryz.prog W 0 (fun _ => true) true Tryz.f6.params.toList args.toList ds p := hA0
  rw [Tryz.params6] at hA hval
  obtain ⟨v0, vs0, d0, ds0, p0, q0, hargs, rfl, rfl, h0, r0⟩ := trodAll_cons hA
  obtain ⟨rfl, rfl, rfl⟩ := trodAll_nil r0
  obtain rfl : args = #[v0] := by cases args; simp_all
  obtain ⟨rfl, rfl⟩ := trodVars_none hV
  obtain ⟨n, rfl⟩ := int_of_trod (int_of_ok (hval 0 3 v0 rfl rfl)) h0
  refine (ret_calls (args := #[.int .i64 n]) (W := W) (law n) rfl ?_).mono ?_
  · intro i v u hv hu
    match i, hv, hu with
    | 0, hv, hu => simp at hv hu; subst hv hu; exact .int _ _ _
    | i + 1, hv, hu => simp at hv
  · rintro e W' ⟨rfl, hb⟩
    refine ⟨_, rfl, post_law (tb := 4) laid rfl hW' ?_ (by kernel_rfl) Tryz.underlying4 rfl rfl rfl hb⟩
    rw [Tryz.params6]
    intro t ht
    simp at ht
    subst ht
    exact ⟨read3, size3⟩

theorem clockText_holds : Rows.ClockTextSaid :=
  OpenClaim.holds_of_wide 6 Tryz.f6 rfl rfl rfl rfl rfl rfl rfl ⟨rfl, rfl, rfl, rfl, rfl⟩ rfl rfl rfl rfl rfl (by kernel_rfl) Tryz.func6 (by kernel_rfl)
    (of_decide_eq_true (by kernel_rfl)) (by unfold Func.isWrapper; first | (rw [if_pos (by decide +kernel)]; kernel_rfl) | (rw [if_neg (by decide +kernel)]; exact ⟨rfl, rfl⟩))
    (fun os started H enc _ => text_lifted os started H enc)
end Go.Proofs.YtcnpplcfabdoaaaGreat
