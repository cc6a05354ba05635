/-
  RingTokens: for every input the call returns true, and every argument reads as it did. No condition.
-/
import Derived.Test.YtcnpplcfabdoaaaGreatRG3
import Derived.Test.YtcnpplcfabdoaaaGreatEngS
import Derived.Test.YtcnpplcfabdoaaaGreatRows
namespace Go.Proofs.YtcnpplcfabdoaaaGreat
open Go.Eng Go.ChangeShapes Go.WideShapes Go.ChangeAt Go.RowKit
set_option maxRecDepth 100000
set_option linter.unusedVariables false

theorem own : ownKnob Tryz.prog.godebug = none := by kernel_rfl
theorem laid : laidOutB Tryz.prog = true := by kernel_rfl
theorem max_le {n : Nat} (h : n ≤ maxLen) : n ≤ 9223372036854775807 := h
theorem cells3 : Tryz.prog.cellsOf 3 = 1 := by kernel_rfl
theorem cells36 : Tryz.prog.cellsOf 36 = 1 := by kernel_rfl
theorem cells4 : Tryz.prog.cellsOf 4 = 1 := by kernel_rfl
theorem cells49 : Tryz.prog.cellsOf 49 = 6 := by kernel_rfl
theorem read49 : Tryz.prog.readableRec 49 = true := by kernel_rfl
theorem read36 : Tryz.prog.readableRec 36 = true := by kernel_rfl
theorem size49   : 49 < Tryz.prog.types.size := of_decide_eq_true (by kernel_rfl)
theorem size36 : 36 < Tryz.prog.types.size := of_decide_eq_true (by kernel_rfl)

section
variable {H : Type} {enc : TypeId × Value → H} {W : World} {sp : Nat → Bool} {hd : Bool}
/-- a net that came in -/
theorem den_net {v : Value} {d : DataW H} {ps : List MemPlace} (hv : ∃ cs, v = .agg cs) (h : DataW.Trod enc Tryz.prog W 0 sp hd 49 v d ps) : ∃ x : Net, x.Small ∧ Den (fun _ => False) W Sg.none x.v v := by
  obtain ⟨arr, rfl⟩ := hv
  obtain ⟨fuel, h⟩ := h
  obtain ⟨hl, n, hf⟩ := trod_struct_inv Tryz.underlying49 h
  simp only [Value.cells] at hl hf
  generalize hcs : arr.toList = cs at hl hf
  rw [cells49] at hl
  obtain ⟨x0, y0⟩ := hf 0 _ rfl
  obtain ⟨x1, y1⟩ := hf 1 _ rfl
  obtain ⟨x2, y2⟩ := hf 2 _ rfl
  obtain ⟨x3, y3⟩ := hf 3 _ rfl
  obtain ⟨x4, y4⟩ := hf 4 _ rfl
  obtain ⟨x5, y5⟩ := hf 5 _ rfl
  simp only [cells3, cells36, cells4] at y0 y1 y2 y3 y4 y5
  obtain ⟨n0, e0, _⟩ := trod_int_inv Tryz.underlying3 y0
  obtain ⟨u1, l1, e1, _, d1, m1, _⟩ := den_ints Sg.none Tryz.underlying36 Tryz.underlying3 cells3 y1
  obtain ⟨u2, l2, e2, _, d2, m2, _⟩ := den_ints Sg.none Tryz.underlying36 Tryz.underlying3 cells3 y2
  obtain ⟨u3, l3, e3, _, d3, m3, _⟩ := den_ints Sg.none Tryz.underlying36 Tryz.underlying3 cells3 y3
  obtain ⟨b4, e4⟩ := trod_bool_inv Tryz.underlying4 y4
  obtain ⟨b5, e5⟩ := trod_bool_inv Tryz.underlying4 y5
  match cs, hl with
  | [c0, c1, c2, c3, c4, c5], _ =>
    simp at e0 e1 e2 e3 e4 e5
    subst e0 e1 e2 e3 e4 e5
    refine ⟨⟨n0, l1, l2, l3, b4, b5⟩, ⟨max_le m1, max_le m2, max_le m3⟩, ?_⟩
    have : arr = [.int .i64 n0, c1, c2, c3, .bool b4, .bool b5].toArray := by rw [← hcs]
    rw [this]
    refine .agg _ _ _ rfl ?_
    intro i v u hv hu
    match i, hv, hu with
    | 0, hv, hu => simp at hv hu; subst hv hu; exact .int _ _ _
    | 1, hv, hu => simp at hv hu; subst hv hu; exact d1
    | 2, hv, hu => simp at hv hu; subst hv hu; exact d2
    | 3, hv, hu => simp at hv hu; subst hv hu; exact d3
    | 4, hv, hu => simp at hv hu; subst hv hu; exact .bool _ _
    | 5, hv, hu => simp at hv hu; subst hv hu; exact .bool _ _
    | i + 6, hv, hu => simp at hv
theorem den_raw {v : Value} {d : DataW H} {ps : List MemPlace} (hv : v.cells = #[v]) (h : DataW.Trod enc Tryz.prog W 0 sp hd 36 v d ps) : ∃ l : List Int, l.length ≤ 9223372036854775807 ∧ Den (fun _ => False) W Sg.none (.fz l.length 1 false (vI l)) v := by
  obtain ⟨fuel, h⟩ := h
  rw [hv] at h
  obtain ⟨u1, l1, e1, _, d1, m1, _⟩ := den_ints Sg.none Tryz.underlying36 Tryz.underlying3 cells3 h
  simp at e1
  subst e1
  exact ⟨l1, max_le m1, d1⟩
end
theorem agg49_of_ok {W : World} {base : Nat} {v : Value} (h : Value.okWide Tryz.prog W .any base 49 v) : ∃ cs, v = .agg cs := by
  unfold Value.okWide at h
  rw [Tryz.underlying49] at h
  obtain ⟨cs, h, _⟩ := h
  exact ⟨cs, h⟩
theorem slice36_of_ok {W : World} {base : Nat} {v : Value} (h : Value.okWide Tryz.prog W .any base 36 v) : v.cells = #[v] := by
  unfold Value.okWide at h
  rw [Tryz.underlying36] at h
  unfold Cell.okWide at h
  rw [Tryz.underlying36] at h
  cases v <;> first | rfl | (simp [Cell.ok, Tryz.underlying36] at h)

theorem tokens_lifted (os : Os) (started : os.Started) (H : Type) (enc : TypeId × Value → H) :
    ReturnsInHanded {} Tryz.checked os 8 .any (Rows.ringTokensSpec.pre6 enc Tryz.prog Tryz.f8 Rows.ringTokensRow.domain false) (Rows.ringTokensSpec.post enc Tryz.prog Tryz.f8 false true false false) := by
  refine returnsInHanded_of_change (C := Tryz.checked) own started (by kernel_rfl) Tryz.func8
    (ChangeSpec.witness6 (enc := enc) (C := Tryz.checked) false ⟨#[], #[.agg #[.int .i64 0, .slice none 0 0, .slice none 0 0, .slice none 0 0, .bool false, .bool false], .slice none 0 0], []⟩ 8 (by kernel_rfl) (by kernel_rfl) (by kernel_rfl) (by kernel_rfl)) ?_
  intro W base args ds gs before hval0 hW hcnd _
  have hval : ∀ (j : Nat) t v, Tryz.f8.params[j]? = some t → args[j]? = some v → Value.okWide Tryz.prog W .any base t v := hval0
  have hW' := hW
  obtain ⟨p, q, hA0, hV, rfl, hfz, hnd⟩ := hW
  have hA : DataW.TrodAll enc Tryz.prog W 0 (fun _ => true) true Tryz.f8.params.toList args.toList ds p := hA0
  rw [Tryz.params8] at hA hval
  obtain ⟨v0, vs0, d0, ds0, p0, q0, hargs, rfl, rfl, h0, r0⟩ := trodAll_cons hA
  obtain ⟨v1, vs1, d1, ds1, p1, q1, hargs1, rfl, rfl, h1, r1⟩ := trodAll_cons r0
  obtain ⟨rfl, rfl, rfl⟩ := trodAll_nil r1
  subst hargs1
  obtain rfl : args = #[v0, v1] := by cases args; simp_all
  obtain ⟨rfl, rfl⟩ := trodVars_none hV
  obtain ⟨x, hs, hr⟩ := den_net (agg49_of_ok (hval 0 49 v0 rfl rfl)) h0
  obtain ⟨c, hc, hl⟩ := den_raw (slice36_of_ok (hval 1 36 v1 rfl rfl)) h1
  refine (ret_calls (args := #[v0, v1]) (W := W) (lawTokens x hs c hc) rfl ?_).mono ?_
  · intro i v u hv hu
    match i, hv, hu with
    | 0, hv, hu => simp at hv hu; subst hv hu; exact hr
    | 1, hv, hu => simp at hv hu; subst hv hu; exact hl
    | i + 2, hv, hu => simp at hv
  · rintro e W' ⟨rfl, hb⟩
    refine ⟨_, rfl, post_law (tb := 4) laid rfl hW' ?_ (by kernel_rfl) Tryz.underlying4 rfl rfl rfl hb⟩
    rw [Tryz.params8]
    intro t ht
    simp at ht
    rcases ht with rfl | rfl
    · exact ⟨read49, size49⟩
    · exact ⟨read36, size36⟩

theorem ringTokens_holds : Rows.RingTokensSaid :=
  OpenClaim.holds_of_wide 8 Tryz.f8 rfl rfl rfl rfl rfl rfl rfl ⟨rfl, rfl, rfl, rfl, rfl⟩ rfl rfl rfl rfl rfl (by kernel_rfl) Tryz.func8 (by kernel_rfl)
    (of_decide_eq_true (by kernel_rfl)) (by unfold Func.isWrapper; first | (rw [if_pos (by decide +kernel)]; kernel_rfl) | (rw [if_neg (by decide +kernel)]; exact ⟨rfl, rfl⟩))
    (fun os started H enc _ => tokens_lifted os started H enc)
end Go.Proofs.YtcnpplcfabdoaaaGreat
