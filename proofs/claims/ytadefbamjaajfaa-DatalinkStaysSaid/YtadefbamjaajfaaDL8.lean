/-
  DatalinkRuns: for every input the call returns true, and every argument reads as it did. No condition.
-/
import Derived.Test.YtadefbamjaajfaaDL7
import Derived.Test.YtadefbamjaajfaaEngS
import Derived.Test.YtadefbamjaajfaaRows
namespace Go.Proofs.Ytadefbamjaajfaa
open Go.Eng Go.ChangeShapes Go.WideShapes Go.ChangeAt Go.RowKit
set_option maxRecDepth 100000
set_option linter.unusedVariables false

theorem own : ownKnob Try.prog.godebug = none := by kernel_rfl
theorem laid : laidOutB Try.prog = true := by kernel_rfl
theorem cells3 : Try.prog.cellsOf 3 = 1 := by kernel_rfl
theorem cells22 : Try.prog.cellsOf 22 = 1 := by kernel_rfl
theorem cells24 : Try.prog.cellsOf 24 = 8 := by kernel_rfl
theorem cells40 : Try.prog.cellsOf 40 = 2 := by kernel_rfl
theorem read24 : Try.prog.readableRec 24 = true := by kernel_rfl
theorem read25 : Try.prog.readableRec 25 = true := by kernel_rfl
theorem read3 : Try.prog.readableRec 3 = true := by kernel_rfl
theorem size24 : 24 < Try.prog.types.size := of_decide_eq_true (by kernel_rfl)
theorem size25 : 25 < Try.prog.types.size := of_decide_eq_true (by kernel_rfl)
theorem size3 : 3 < Try.prog.types.size := of_decide_eq_true (by kernel_rfl)

section
variable {H : Type} {enc : TypeId × Value → H} {W : World} {sp : Nat → Bool} {hd : Bool}

/-- a struct Raw that came in -/
theorem den_raw {v : Value} {d : DataW H} {ps : List MemPlace} (hv : ∃ cs, v = .agg cs) (h : DataW.Trod enc Try.prog W 0 sp hd 24 v d ps) : ∃ r : Raw, Den (fun _ => False) W Sg.none r.v v := by
  obtain ⟨arr, rfl⟩ := hv
  obtain ⟨fuel, h⟩ := h
  obtain ⟨hl, n, hf⟩ := trod_struct_inv Try.underlying24 h
  simp only [Value.cells] at hl hf
  generalize hcs : arr.toList = cs at hl hf
  rw [cells24] at hl
  obtain ⟨x0, y0⟩ := hf 0 _ rfl
  obtain ⟨x1, y1⟩ := hf 1 _ rfl
  obtain ⟨x2, y2⟩ := hf 2 _ rfl
  obtain ⟨x3, y3⟩ := hf 3 _ rfl
  obtain ⟨x4, y4⟩ := hf 4 _ rfl
  obtain ⟨x5, y5⟩ := hf 5 _ rfl
  obtain ⟨x6, y6⟩ := hf 6 _ rfl
  obtain ⟨x7, y7⟩ := hf 7 _ rfl
  simp only [cells3, cells22] at y0 y1 y2 y3 y4 y5 y6 y7
  obtain ⟨n0, e0, _⟩ := trod_int_inv Try.underlying3 y0
  obtain ⟨n1, e1, _⟩ := trod_int_inv Try.underlying3 y1
  obtain ⟨n2, e2, _⟩ := trod_int_inv Try.underlying3 y2
  obtain ⟨n3, e3, _⟩ := trod_int_inv Try.underlying3 y3
  obtain ⟨n4, e4, _⟩ := trod_int_inv Try.underlying3 y4
  obtain ⟨u5, l5, e5, _, d5, _⟩ := den_ints Sg.none Try.underlying22 Try.underlying3 cells3 y5
  obtain ⟨u6, l6, e6, _, d6, _⟩ := den_ints Sg.none Try.underlying22 Try.underlying3 cells3 y6
  obtain ⟨u7, l7, e7, _, d7, _⟩ := den_ints Sg.none Try.underlying22 Try.underlying3 cells3 y7
  match cs, hl with
  | [c0, c1, c2, c3, c4, c5, c6, c7], _ =>
    simp at e0 e1 e2 e3 e4 e5 e6 e7
    subst e0 e1 e2 e3 e4 e5 e6 e7
    refine ⟨⟨n0, n1, n2, n3, n4, l5, l6, l7⟩, ?_⟩
    have : arr = [Value.int .i64 n0, .int .i64 n1, .int .i64 n2, .int .i64 n3, .int .i64 n4, c5, c6, c7].toArray := by rw [← hcs]
    rw [this]
    refine .agg _ _ _ rfl ?_
    intro i v u hv hu
    match i, hv, hu with
    | 0, hv, hu => simp at hv hu; subst hv hu; exact .int _ _ _
    | 1, hv, hu => simp at hv hu; subst hv hu; exact .int _ _ _
    | 2, hv, hu => simp at hv hu; subst hv hu; exact .int _ _ _
    | 3, hv, hu => simp at hv hu; subst hv hu; exact .int _ _ _
    | 4, hv, hu => simp at hv hu; subst hv hu; exact .int _ _ _
    | 5, hv, hu => simp at hv hu; subst hv hu; exact d5
    | 6, hv, hu => simp at hv hu; subst hv hu; exact d6
    | 7, hv, hu => simp at hv hu; subst hv hu; exact d7
    | i + 8, hv, hu => simp at hv

theorem den_evs {v : Value} {d : DataW H} {ps : List MemPlace} (hv : v.cells = #[v]) (h : DataW.Trod enc Try.prog W 0 sp hd 25 v d ps) : ∃ l : List (Int × Int), Den (fun _ => False) W Sg.none (.fz l.length 2 false (vF l)) v := by
  obtain ⟨fuel, h⟩ := h
  rw [hv] at h
  obtain ⟨u, l, e, _, d, _⟩ := den_pairs Sg.none Try.underlying25 Try.underlying40 cells40 rfl rfl Try.underlying3 Try.underlying3 cells3 cells3 h
  simp at e
  subst e
  exact ⟨l, d⟩
end

theorem agg_of_ok {W : World} {base : Nat} {v : Value} (h : Value.okWide Try.prog W .any base 24 v) : ∃ cs, v = .agg cs := by
  unfold Value.okWide at h
  rw [Try.underlying24] at h
  obtain ⟨cs, h, _⟩ := h
  exact ⟨cs, h⟩

theorem slice_of_ok {W : World} {base : Nat} {v : Value} (h : Value.okWide Try.prog W .any base 25 v) : v.cells = #[v] := by
  unfold Value.okWide at h
  rw [Try.underlying25] at h
  unfold Cell.okWide at h
  rw [Try.underlying25] at h
  cases v <;> first | rfl | (simp [Cell.ok, Try.underlying25] at h)

theorem runs_lifted (os : Os) (started : os.Started) (H : Type) (enc : TypeId × Value → H) :
    ReturnsInHanded {} Try.checked os 3 .any (Rows.datalinkRunsSpec.pre6 enc Try.prog Try.f3 Rows.datalinkRunsRow.domain false) (Rows.datalinkRunsSpec.post enc Try.prog Try.f3 false true false false) := by
  refine returnsInHanded_of_change (C := Try.checked) own started (by kernel_rfl) Try.func3
    (ChangeSpec.witness6 (enc := enc) (C := Try.checked) false ⟨#[], #[.agg #[.int .i64 0, .int .i64 0, .int .i64 0, .int .i64 0, .int .i64 0, .slice none 0 0, .slice none 0 0, .slice none 0 0], .slice none 0 0], []⟩ 8 (by kernel_rfl) (by kernel_rfl) (by kernel_rfl) (by kernel_rfl)) ?_
  intro W base args ds gs before hval0 hW hcnd _
  have hval : ∀ (j : Nat) t v, Try.f3.params[j]? = some t → args[j]? = some v → Value.okWide Try.prog W .any base t v := hval0
  have hW' := hW
  obtain ⟨p, q, hA0, hV, rfl, hfz, hnd⟩ := hW
  have hA : DataW.TrodAll enc Try.prog W 0 (fun _ => true) true Try.f3.params.toList args.toList ds p := hA0
  rw [Try.params3] at hA hval
  obtain ⟨v0, vs0, d0, ds0, p0, q0, hargs, rfl, rfl, h0, r0⟩ := trodAll_cons hA
  obtain ⟨v1, vs1, d1, ds1, p1, q1, hargs1, rfl, rfl, h1, r1⟩ := trodAll_cons r0
  obtain ⟨rfl, rfl, rfl⟩ := trodAll_nil r1
  subst hargs1
  obtain rfl : args = #[v0, v1] := by cases args; simp_all
  obtain ⟨rfl, rfl⟩ := trodVars_none hV
  obtain ⟨r, hr⟩ := den_raw (agg_of_ok (hval 0 24 v0 rfl rfl)) h0
  obtain ⟨l, hl⟩ := den_evs (slice_of_ok (hval 1 25 v1 rfl rfl)) h1
  refine (ret_calls (args := #[v0, v1]) (W := W) (law3 r l) rfl ?_).mono ?_
  · intro i v u hv hu
    match i, hv, hu with
    | 0, hv, hu => simp at hv hu; subst hv hu; exact hr
    | 1, hv, hu => simp at hv hu; subst hv hu; exact hl
    | i + 2, hv, hu => simp at hv
  · rintro e W' ⟨rfl, hb⟩
    refine ⟨_, rfl, post_law (tb := 4) laid rfl hW' ?_ (by kernel_rfl) Try.underlying4 rfl rfl rfl hb⟩
    rw [Try.params3]
    intro t ht
    simp at ht
    rcases ht with rfl | rfl
    · exact ⟨read24, size24⟩
    · exact ⟨read25, size25⟩

theorem datalinkRuns_holds : Rows.DatalinkRunsSaid :=
  OpenClaim.holds_of_wide 3 Try.f3 rfl rfl rfl rfl rfl rfl rfl ⟨rfl, rfl, rfl, rfl, rfl⟩ rfl rfl rfl rfl rfl (by kernel_rfl) Try.func3 (by kernel_rfl)
    (of_decide_eq_true (by kernel_rfl)) (by unfold Func.isWrapper; first | (rw [if_pos (by decide +kernel)]; kernel_rfl) | (rw [if_neg (by decide +kernel)]; exact ⟨rfl, rfl⟩))
    (fun os started H enc _ => runs_lifted os started H enc)
end Go.Proofs.Ytadefbamjaajfaa
