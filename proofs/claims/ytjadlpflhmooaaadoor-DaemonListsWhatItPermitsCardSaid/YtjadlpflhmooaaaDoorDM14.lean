/-
  Graphs, numbers and the package's table that came in.
-/
import Derived.Test.YtjadlpflhmooaaaDoorDM13
import Derived.Test.YtjadlpflhmooaaaDoorEngS
import Derived.Test.YtjadlpflhmooaaaDoorRows
import Derived.LaidMore
import Derived.Stop.Joined
import Derived.SevenTiedAt
import GoSem.ClaimSeven
namespace Go.Proofs.YtjadlpflhmooaaaDoor
open Go.Eng Go.ChangeShapes Go.WideShapes Go.ChangeAt Go.WideMaps Go.WideElems Go.RowKit
set_option maxRecDepth 100000
set_option linter.unusedVariables false

theorem ownk : ownKnob Tryd.prog.godebug = none := by kernel_rfl
theorem laidB : laidOutB Tryd.prog = true := by kernel_rfl
theorem cells3 : Tryd.prog.cellsOf 3 = 1 := by kernel_rfl
theorem cells5 : Tryd.prog.cellsOf 5 = 1 := by kernel_rfl
theorem cells75 : Tryd.prog.cellsOf 75 = 32 := by kernel_rfl
theorem cells22 : Tryd.prog.cellsOf 22 = 1 := by kernel_rfl
theorem cells23 : Tryd.prog.cellsOf 23 = 1 := by kernel_rfl
theorem cells25 : Tryd.prog.cellsOf 25 = 2 := by kernel_rfl
theorem cells48 : Tryd.prog.cellsOf 48 = 1 := by kernel_rfl
theorem cells61 : Tryd.prog.cellsOf 61 = 2 := by kernel_rfl
theorem read3 : Tryd.prog.readableRec 3 = true := by kernel_rfl
theorem read4 : Tryd.prog.readableRec 4 = true := by kernel_rfl
theorem read25 : Tryd.prog.readableRec 25 = true := by kernel_rfl
theorem read26 : Tryd.prog.readableRec 26 = true := by kernel_rfl
theorem size3 : 3 < Tryd.prog.types.size := of_decide_eq_true (by kernel_rfl)
theorem size4 : 4 < Tryd.prog.types.size := of_decide_eq_true (by kernel_rfl)
theorem size25 : 25 < Tryd.prog.types.size := of_decide_eq_true (by kernel_rfl)
theorem size26 : 26 < Tryd.prog.types.size := of_decide_eq_true (by kernel_rfl)
theorem stand3 : Tryd.prog.wantsStandIn 3 = false := by kernel_rfl
theorem stand4 : Tryd.prog.wantsStandIn 4 = false := by kernel_rfl
theorem stand25 : Tryd.prog.wantsStandIn 25 = false := by kernel_rfl
theorem stand26 : Tryd.prog.wantsStandIn 26 = false := by kernel_rfl
theorem gTab : Tryd.prog.globalNamed "math/bits.deBruijn32tab" = some 0 := by kernel_rfl
theorem tTab : (Tryd.prog.globals[0]?).map (·.type) = some 75 := by kernel_rfl

abbrev laidL : List (String × DataW Unit) := [("math/bits.deBruijn32tab", Rows.laid_math_bits_deBruijn32tab)]

theorem door_met (os : Os) (args : Array Value) : laidMetH Tryd.prog laidL ((World.doorLaid Tryd.prog 400 os).forCall (fun _ _ => 0) ⟨#[], args, []⟩).memory :=
  laidMetH_of_parts3 (fuel := 8) (laidMet_of_run' 8 (by kernel_rfl) (by kernel_rfl)) (by kernel_rfl) (by kernel_rfl)

theorem of_laid {W : World} (h : laidMetH Tryd.prog laidL W) : Den (fun _ => False) W Sg.none (.fe 32 1 tzF 0 0) (.pointer (some ⟨0, 0, none⟩)) := by
  rw [MakeChecks.laidMetH_plain _ _ _ (by kernel_rfl)] at h
  obtain ⟨ps, ⟨g0, t0, cs0, f0, p0, q0, hg0, ht0, hv0, hd0, _⟩, _, _⟩ := h
  obtain rfl := Option.some.inj (gTab.symm.trans hg0)
  obtain rfl := Option.some.inj (tTab.symm.trans ht0)
  obtain ⟨xs, m1, rfl, hx1, hlen, hn, hel⟩ := DataW.trod_array Tryd.underlying75 hd0
  simp only [Prod.mk.injEq] at hx1
  have hxs : xs.map (·.1) = tzL.map fun n => (DataW.lit (.int .u8 n) : DataW Unit) := by
    have := hx1.1
    rw [Rows.laid_math_bits_deBruijn32tab] at this
    have h2 := DataW.agg.inj this
    exact h2.symm
  have key : ∀ i, i < 32 → W.cell? ⟨0, i, none⟩ = some (.int .u8 (tzL.getD i 0)) := by
    intro i hi
    have h0 := hel i hi
    rw [cells5, Nat.mul_one] at h0
    have hxi : xs[i]?.map (·.1) = some (.lit (.int .u8 (tzL.getD i 0))) := by
      rw [← List.getElem?_map, hxs, List.getElem?_map, List.getElem?_eq_getElem (show i < tzL.length from hi)]
      simp only [Option.map_some, List.getD, List.getElem?_eq_getElem (show i < tzL.length from hi), Option.getD_some]
    cases hx : xs[i]? with
    | none => rw [hx] at hxi; cases hxi
    | some x =>
      rw [hx] at h0 hxi
      obtain ⟨k, e1, e2, _⟩ := DataW.trod_int Tryd.underlying5 h0
      rw [e2] at hxi
      simp only [Option.map_some, Option.some.injEq] at hxi
      have hk : k = tzL.getD i 0 := by
        have := DataW.lit.inj hxi
        exact (Lit.int.inj this).2
      have hc := World.var?_cell hg0 hv0 i
      rw [hc]
      have hl : i < cs0.toList.length := by rw [hlen, cells75]; exact hi
      have h3 : cs0.toList[i]? = some (.int .u8 k) := by
        have := congrArg (·[0]?) e1
        simpa [List.getElem?_take, List.getElem?_drop] using this
      rw [← hk]
      simpa using h3
  have hb : 0 < W.heap.size := by
    have := key 0 (by decide)
    unfold World.cell? at this
    split at this
    · rename_i h; exact lt_of_getElem? h
    · cases this
  exact .fe _ _ _ _ _ _ _ _ (fun i _ => .int .u8 (tzL.getD i 0)) (by decide) (fun h => h) hb
    (fun i j hi hj => by obtain rfl : j = 0 := by omega
                         simpa using key i hi) (fun i j hi hj => rfl) (fun i j hi hj => .int _ _ _)

section
variable {H : Type} {enc : TypeId × Value → H} {W : World} {sp : Nat → Bool} {hd : Bool}

theorem max_le {n : Nat} (h : n ≤ maxLen) : n ≤ 9223372036854775807 := h

/-- a graph that came in -/
theorem den_graph {v : Value} {d : DataW H} {ps : List MemPlace} (hv : ∃ cs, v = .agg cs) (h : DataW.Trod enc Tryd.prog W 0 sp hd 25 v d ps) : ∃ g : G, g.Small ∧ Den (fun _ => False) W Sg.none g.v v := by
  obtain ⟨arr, rfl⟩ := hv
  obtain ⟨fuel, h⟩ := h
  obtain ⟨hl, n, hf⟩ := trod_struct_inv Tryd.underlying25 h
  simp only [Value.cells] at hl hf
  generalize hcs : arr.toList = cs at hl hf
  rw [cells25] at hl
  obtain ⟨x0, y0⟩ := hf 0 _ rfl
  obtain ⟨x1, y1⟩ := hf 1 _ rfl
  simp only [cells22, cells23] at y0 y1
  obtain ⟨u0, l0, e0, _, d0, m0, _⟩ := den_ints Sg.none Tryd.underlying22 Tryd.underlying3 cells3 y0
  obtain ⟨u1, l1, e1, _, d1, m1, q1⟩ := den_list (α := List (Int × Int)) Sg.none [] (fun l => .fz l.length 2 false (vF l)) (fun l => l.length ≤ 9223372036854775807) Tryd.underlying23 cells48 (fun n cs y hy => by
    obtain ⟨u, l, z1, z2, z3, z4, _⟩ := den_pairs Sg.none Tryd.underlying48 Tryd.underlying61 cells61 rfl rfl Tryd.underlying3 Tryd.underlying3 cells3 cells3 hy
    refine ⟨u, l, z1, z2, ?_, max_le z4⟩
    have e : (fun i j => match j with | 0 => V.int .i64 (List.getD l i (0, 0)).1 | _ + 1 => V.int .i64 (List.getD l i (0, 0)).2 : Nat → Nat → V) = vF l := by
      funext i j; cases j <;> rfl
    rw [← e]; exact z3) y1
  match cs, hl with
  | [c0, c1], _ =>
    simp at e0 e1
    subst e0 e1
    refine ⟨⟨l0, l1⟩, ⟨max_le m0, max_le m1, q1⟩, ?_⟩
    have : arr = [c0, c1].toArray := by rw [← hcs]
    rw [this]
    refine .agg _ _ _ rfl ?_
    intro i v u hv hu
    match i, hv, hu with
    | 0, hv, hu => simp at hv hu; subst hv hu; exact d0
    | 1, hv, hu => simp at hv hu; subst hv hu; exact d1
    | i + 2, hv, hu => simp at hv
theorem den_i64 {b0 : Nat} {v : Value} {d : DataW H} {ps : List MemPlace} (hval : Value.okWide Tryd.prog W .any b0 3 v) (h : DataW.Trod enc Tryd.prog W 0 sp hd 3 v d ps) : ∃ n : Int, Den (fun _ => False) W Sg.none (.int .i64 n) v := by
  obtain ⟨n, rfl, _, _, _⟩ := open_int Tryd.underlying3 hval h
  exact ⟨n, .int _ _ _⟩
theorem den_u32 {b0 : Nat} {v : Value} {d : DataW H} {ps : List MemPlace} (hval : Value.okWide Tryd.prog W .any b0 26 v) (h : DataW.Trod enc Tryd.prog W 0 sp hd 26 v d ps) : ∃ n : Nat, n < 4294967296 ∧ Den (fun _ => False) W Sg.none (.int .u32 n) v := by
  obtain ⟨n, rfl, _, _, hw⟩ := open_int Tryd.underlying26 hval h
  simp only [Lit.wf, Bool.and_eq_true, decide_eq_true_eq] at hw
  have h1 : (0 : Int) ≤ n := hw.1
  have h2 : n ≤ 4294967295 := hw.2
  refine ⟨n.toNat, by omega, ?_⟩
  rw [Int.toNat_of_nonneg h1]
  exact .int _ _ _
theorem den_b {b0 : Nat} {v : Value} {d : DataW H} {ps : List MemPlace} (hval : Value.okWide Tryd.prog W .any b0 4 v) (h : DataW.Trod enc Tryd.prog W 0 sp hd 4 v d ps) : ∃ b : Bool, Den (fun _ => False) W Sg.none (.bool b) v := by
  obtain ⟨b, rfl, _, _⟩ := open_bool Tryd.underlying4 hval h
  exact ⟨b, .bool _ _⟩
end

theorem agg_of_ok {W : World} {base : Nat} {v : Value} (h : Value.okWide Tryd.prog W .any base 25 v) : ∃ cs, v = .agg cs := by
  unfold Value.okWide at h
  rw [Tryd.underlying25] at h
  obtain ⟨cs, h, _⟩ := h
  exact ⟨cs, h⟩
end Go.Proofs.YtjadlpflhmooaaaDoor
