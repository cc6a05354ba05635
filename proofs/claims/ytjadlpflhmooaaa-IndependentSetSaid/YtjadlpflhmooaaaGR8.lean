/-
  Graphs and lists of values that came in.
-/
import Derived.Test.YtjadlpflhmooaaaGR7
import Derived.Test.YtjadlpflhmooaaaEngS
import Derived.Test.YtjadlpflhmooaaaRows
namespace Go.Proofs.Ytjadlpflhmooaaa
open Go.Eng Go.ChangeShapes Go.WideShapes Go.ChangeAt Go.RowKit
set_option maxRecDepth 100000
set_option linter.unusedVariables false

theorem own : ownKnob Try.prog.godebug = none := by kernel_rfl
theorem laid : laidOutB Try.prog = true := by kernel_rfl
theorem cells3 : Try.prog.cellsOf 3 = 1 := by kernel_rfl
theorem cells22 : Try.prog.cellsOf 22 = 1 := by kernel_rfl
theorem cells25 : Try.prog.cellsOf 25 = 1 := by kernel_rfl
theorem cells27 : Try.prog.cellsOf 27 = 2 := by kernel_rfl
theorem cells51 : Try.prog.cellsOf 51 = 1 := by kernel_rfl
theorem cells59 : Try.prog.cellsOf 59 = 2 := by kernel_rfl
theorem read27 : Try.prog.readableRec 27 = true := by kernel_rfl
theorem read29 : Try.prog.readableRec 29 = true := by kernel_rfl
theorem size27 : 27 < Try.prog.types.size := of_decide_eq_true (by kernel_rfl)
theorem size29 : 29 < Try.prog.types.size := of_decide_eq_true (by kernel_rfl)

section
variable {H : Type} {enc : TypeId × Value → H} {W : World} {sp : Nat → Bool} {hd : Bool}

theorem max_le {n : Nat} (h : n ≤ maxLen) : n ≤ 9223372036854775807 := h

/-- a graph that came in -/
theorem den_graph {v : Value} {d : DataW H} {ps : List MemPlace} (hv : ∃ cs, v = .agg cs) (h : DataW.Trod enc Try.prog W 0 sp hd 27 v d ps) : ∃ g : G, g.Small ∧ Den (fun _ => False) W Sg.none g.v v := by
  obtain ⟨arr, rfl⟩ := hv
  obtain ⟨fuel, h⟩ := h
  obtain ⟨hl, n, hf⟩ := trod_struct_inv Try.underlying27 h
  simp only [Value.cells] at hl hf
  generalize hcs : arr.toList = cs at hl hf
  rw [cells27] at hl
  obtain ⟨x0, y0⟩ := hf 0 _ rfl
  obtain ⟨x1, y1⟩ := hf 1 _ rfl
  simp only [cells22, cells25] at y0 y1
  obtain ⟨u0, l0, e0, _, d0, m0, _⟩ := den_ints Sg.none Try.underlying22 Try.underlying3 cells3 y0
  obtain ⟨u1, l1, e1, _, d1, m1, q1⟩ := den_list (α := List (Int × Int)) Sg.none [] (fun l => .fz l.length 2 false (vF l)) (fun l => l.length ≤ 9223372036854775807) Try.underlying25 cells51 (fun n cs y hy => by
    obtain ⟨u, l, z1, z2, z3, z4, _⟩ := den_pairs Sg.none Try.underlying51 Try.underlying59 cells59 rfl rfl Try.underlying3 Try.underlying3 cells3 cells3 hy
    refine ⟨u, l, z1, z2, ?_, max_le z4⟩
    have e : (fun i j => match j with | 0 => V.int .i64 (List.getD l i (0, 0)).1 | _ + 1 => V.int .i64 (List.getD l i (0, 0)).2 : Nat → Nat → V) = vF l := by
      funext i j; cases j <;> rfl
    rw [← e]; exact z3) y1
  match cs, hl with
  | [c0, c1], _ =>
    simp at e0 e1
    subst e0 e1
    refine ⟨⟨l0, l1⟩, ⟨max_le m0, max_le m1, q1⟩, ?_⟩
    have : arr = [c0, c1].toArray := by rw [← hcs]
    rw [this]
    refine .agg _ _ _ rfl ?_
    intro i v u hv hu
    match i, hv, hu with
    | 0, hv, hu => simp at hv hu; subst hv hu; exact d0
    | 1, hv, hu => simp at hv hu; subst hv hu; exact d1
    | i + 2, hv, hu => simp at hv

/-- lists of values that came in -/
theorem den_cf {v : Value} {d : DataW H} {ps : List MemPlace} (hv : v.cells = #[v]) (h : DataW.Trod enc Try.prog W 0 sp hd 29 v d ps) : ∃ c : Cf, CSmall c ∧ Den (fun _ => False) W Sg.none (cV c) v := by
  obtain ⟨fuel, h⟩ := h
  rw [hv] at h
  obtain ⟨u1, l1, e1, _, d1, m1, q1⟩ := den_list (α := List Int) Sg.none [] (fun l => .fz l.length 1 false (vI l)) (fun l => l.length ≤ 9223372036854775807) Try.underlying29 cells22 (fun n cs y hy => by
    obtain ⟨u, l, z1, z2, z3, z4, _⟩ := den_ints Sg.none Try.underlying22 Try.underlying3 cells3 hy
    exact ⟨u, l, z1, z2, z3, max_le z4⟩) h
  simp at e1
  subst e1
  exact ⟨l1, ⟨max_le m1, q1⟩, d1⟩
end

theorem agg_of_ok {W : World} {base : Nat} {v : Value} (h : Value.okWide Try.prog W .any base 27 v) : ∃ cs, v = .agg cs := by
  unfold Value.okWide at h
  rw [Try.underlying27] at h
  obtain ⟨cs, h, _⟩ := h
  exact ⟨cs, h⟩

theorem slice_of_ok {W : World} {base : Nat} {v : Value} (h : Value.okWide Try.prog W .any base 29 v) : v.cells = #[v] := by
  unfold Value.okWide at h
  rw [Try.underlying29] at h
  unfold Cell.okWide at h
  rw [Try.underlying29] at h
  cases v <;> first | rfl | (simp [Cell.ok, Try.underlying29] at h)
end Go.Proofs.Ytjadlpflhmooaaa
