/-
  DatalinkSteps: for every input the call returns true, and every argument reads as it did. No condition.
-/
import Derived.Test.YtadefbamjaajfaaDL8
import Derived.Test.YtadefbamjaajfaaDL14
namespace Go.Proofs.Ytadefbamjaajfaa
open Go.Eng Go.ChangeShapes Go.WideShapes Go.ChangeAt Go.RowKit
set_option maxRecDepth 100000
set_option linter.unusedVariables false

theorem rvalid_ret (x : DL) : Ret Try.prog 20 [x.v] (.bool x.valid) := ret_frz rfl ((rvalid_ok x).mono (by rintro _ _ _ rfl; exact VLe.rfl))

theorem rstep_len (x : DL) (k a : Int) : (x.rstep k a).1.fr.length ≤ 1000 ∧ (x.rstep k a).1.ak.length ≤ 1000 := by
  unfold DL.rstep
  split
  · rename_i h
    have := valid_bounds (step_valid k a h)
    omega
  · simp [DL.zero]

theorem law6 (x : DL) (k a : Int) : Ret Try.prog 6 [x.v, .agg [.int .i64 k, .int .i64 a]] (.bool true) := by
  have h0 := known_ok
  have h1 := pstep_ok x k a
  have h2 := rstep_ok x k a
  have h3 := valid_ret x
  have h4 := rvalid_ret x
  have h5 := aligned_ok x
  have h6 := raligned_ok x
  have hl := rstep_len x k a
  have h7 := sameL_rfl _ hl.1 hl.2
  clear hl
  revert h1 h2 h3 h4 h5 h6 h7
  generalize x.rstep k a = p
  generalize x.valid = b
  generalize x.aligned = c
  obtain ⟨y, d, e⟩ := p
  intro h1 h2 h3 h4 h5 h6 h7
  simp only at h1 h2 h7
  refine ret_frz rfl ?_
  refine fn_rule mixed Try.func6 rfl hc6 hr6 rfl ?_
  cases b <;> cases c <;> cases e <;>
  repeat' ((conv => whnf); first
      | (refine Br.tt ?_)
      | (refine Br.ff ?_)
      | (refine Br.dec (fun _ => ?_) (fun _ => ?_) <;> first | (exfalso; omega) | skip)
      | (refine Br.beq (fun _ => ?_) (fun _ => ?_) <;> first | (exfalso; omega) | skip)
      | (refine Br.bne (fun _ => ?_) (fun _ => ?_) <;> first | (exfalso; omega) | skip)
      | (refine Br.nbeq (fun _ => ?_) (fun _ => ?_) <;> first | (exfalso; omega) | skip)
      | (refine Br.nble (fun _ => ?_) (fun _ => ?_) <;> first | (exfalso; omega) | skip)
      | (refine Ar.i64 (by omega) (by omega) ?_)
      | (refine Ar.u32 (by omega) (by omega) ?_)
      | (refine Sv.mk _ rfl ?_)
      | (refine Nz.mk (by omega) ?_)
      | (refine Nn.mk (by omega) ?_)
      | (refine Ix.nat (by omega) ?_)
      | (refine Ix.ofNat (by omega) ?_)
      | (refine Ix.mk 0 rfl (by omega) ?_)
      | (refine Ix.mk 1 rfl (by omega) ?_)
      | (refine Ix.int (by omega) (by omega) ?_)
      | (refine Bd.nat (by omega) ?_)
      | (refine Bd.mk 0 rfl (by omega) ?_)
      | (refine Bd.mk 1 rfl (by omega) ?_)
      | (refine Bd.int (by omega) (by omega) ?_)
      | (refine Len.mk (by omega) ?_)
      | (refine Len.mk (by simp only [List.length_cons, List.length_nil]; omega) ?_)
      | (refine Ltn.mk (by omega) ?_)
      | (refine Both.mk ?_ ?_)
      | (refine (h0 _ _).mono ?_; rintro _ _ _ ⟨rfl, rfl, rfl⟩)
      | (refine (h1 _ _).mono ?_; rintro _ _ _ ⟨rfl, rfl, rfl⟩)
      | (refine (h2 _ _).mono ?_; rintro _ _ _ ⟨rfl, rfl, rfl⟩)
      | (refine (h3 _ _).mono ?_; rintro _ _ _ ⟨rfl, rfl, rfl⟩)
      | (refine (h4 _ _).mono ?_; rintro _ _ _ ⟨rfl, rfl, rfl⟩)
      | (refine (h5 _ _).mono ?_; rintro _ _ _ ⟨rfl, rfl, rfl⟩)
      | (refine (h6 _ _).mono ?_; rintro _ _ _ ⟨rfl, rfl, rfl⟩)
      | (refine (h7 _ _).mono ?_; rintro _ _ _ ⟨rfl, rfl, rfl⟩)
      | (refine And.intro rfl ?_)
      | (refine Br.any (fun _ => ?_) (fun _ => ?_)))
  all_goals (conv => whnf)
  all_goals exact VLe.rfl

theorem cells27 : Try.prog.cellsOf 27 = 1 := by kernel_rfl
theorem cells29 : Try.prog.cellsOf 29 = 7 := by kernel_rfl
theorem cells46 : Try.prog.cellsOf 46 = 2 := by kernel_rfl
theorem read29 : Try.prog.readableRec 29 = true := by kernel_rfl
theorem read40 : Try.prog.readableRec 40 = true := by kernel_rfl
theorem size29 : 29 < Try.prog.types.size := of_decide_eq_true (by kernel_rfl)
theorem size40 : 40 < Try.prog.types.size := of_decide_eq_true (by kernel_rfl)

section
variable {H : Type} {enc : TypeId × Value → H} {W : World} {sp : Nat → Bool} {hd : Bool}

/-- a struct Datalink that came in -/
theorem den_dl {v : Value} {d : DataW H} {ps : List MemPlace} (hv : ∃ cs, v = .agg cs) (h : DataW.Trod enc Try.prog W 0 sp hd 29 v d ps) : ∃ r : DL, Den (fun _ => False) W Sg.none r.v v := by
  obtain ⟨arr, rfl⟩ := hv
  obtain ⟨fuel, h⟩ := h
  obtain ⟨hl, n, hf⟩ := trod_struct_inv Try.underlying29 h
  simp only [Value.cells] at hl hf
  generalize hcs : arr.toList = cs at hl hf
  rw [cells29] at hl
  obtain ⟨x0, y0⟩ := hf 0 _ rfl
  obtain ⟨x1, y1⟩ := hf 1 _ rfl
  obtain ⟨x2, y2⟩ := hf 2 _ rfl
  obtain ⟨x3, y3⟩ := hf 3 _ rfl
  obtain ⟨x4, y4⟩ := hf 4 _ rfl
  obtain ⟨x5, y5⟩ := hf 5 _ rfl
  obtain ⟨x6, y6⟩ := hf 6 _ rfl
  simp only [cells3, cells22, cells27] at y0 y1 y2 y3 y4 y5 y6
  obtain ⟨n0, e0, _⟩ := trod_int_inv Try.underlying3 y0
  obtain ⟨n1, e1, _⟩ := trod_int_inv Try.underlying3 y1
  obtain ⟨n2, e2, _⟩ := trod_int_inv Try.underlying3 y2
  obtain ⟨n3, e3, _⟩ := trod_int_inv Try.underlying3 y3
  obtain ⟨n4, e4, _⟩ := trod_int_inv Try.underlying3 y4
  obtain ⟨u5, l5, e5, _, d5, _⟩ := den_pairs Sg.none Try.underlying27 Try.underlying46 cells46 rfl rfl Try.underlying3 Try.underlying3 cells3 cells3 y5
  obtain ⟨u6, l6, e6, _, d6, _⟩ := den_ints Sg.none Try.underlying22 Try.underlying3 cells3 y6
  match cs, hl with
  | [c0, c1, c2, c3, c4, c5, c6], _ =>
    simp at e0 e1 e2 e3 e4 e5 e6
    subst e0 e1 e2 e3 e4 e5 e6
    refine ⟨⟨n0, n1, n2, n3, n4, l5, l6⟩, ?_⟩
    have : arr = [Value.int .i64 n0, .int .i64 n1, .int .i64 n2, .int .i64 n3, .int .i64 n4, c5, c6].toArray := by rw [← hcs]
    rw [this]
    refine .agg _ _ _ rfl ?_
    intro i v u hv hu
    match i, hv, hu with
    | 0, hv, hu => simp at hv hu; subst hv hu; exact .int _ _ _
    | 1, hv, hu => simp at hv hu; subst hv hu; exact .int _ _ _
    | 2, hv, hu => simp at hv hu; subst hv hu; exact .int _ _ _
    | 3, hv, hu => simp at hv hu; subst hv hu; exact .int _ _ _
    | 4, hv, hu => simp at hv hu; subst hv hu; exact .int _ _ _
    | 5, hv, hu => simp at hv hu; subst hv hu; exact d5
    | 6, hv, hu => simp at hv hu; subst hv hu; exact d6
    | i + 7, hv, hu => simp at hv

theorem den_ev {v : Value} {d : DataW H} {ps : List MemPlace} (hv : ∃ cs, v = .agg cs) (h : DataW.Trod enc Try.prog W 0 sp hd 40 v d ps) : ∃ k a : Int, Den (fun _ => False) W Sg.none (.agg [.int .i64 k, .int .i64 a]) v := by
  obtain ⟨arr, rfl⟩ := hv
  obtain ⟨fuel, h⟩ := h
  obtain ⟨hl, n, hf⟩ := trod_struct_inv Try.underlying40 h
  simp only [Value.cells] at hl hf
  generalize hcs : arr.toList = cs at hl hf
  rw [cells40] at hl
  obtain ⟨x0, y0⟩ := hf 0 _ rfl
  obtain ⟨x1, y1⟩ := hf 1 _ rfl
  simp only [cells3] at y0 y1
  obtain ⟨n0, e0, _⟩ := trod_int_inv Try.underlying3 y0
  obtain ⟨n1, e1, _⟩ := trod_int_inv Try.underlying3 y1
  match cs, hl with
  | [c0, c1], _ =>
    simp at e0 e1
    subst e0 e1
    refine ⟨n0, n1, ?_⟩
    have : arr = [Value.int .i64 n0, .int .i64 n1].toArray := by rw [← hcs]
    rw [this]
    refine .agg _ _ _ rfl ?_
    intro i v u hv hu
    match i, hv, hu with
    | 0, hv, hu => simp at hv hu; subst hv hu; exact .int _ _ _
    | 1, hv, hu => simp at hv hu; subst hv hu; exact .int _ _ _
    | i + 2, hv, hu => simp at hv
end

theorem agg29 {W : World} {base : Nat} {v : Value} (h : Value.okWide Try.prog W .any base 29 v) : ∃ cs, v = .agg cs := by
  unfold Value.okWide at h
  rw [Try.underlying29] at h
  obtain ⟨cs, h, _⟩ := h
  exact ⟨cs, h⟩
theorem agg40 {W : World} {base : Nat} {v : Value} (h : Value.okWide Try.prog W .any base 40 v) : ∃ cs, v = .agg cs := by
  unfold Value.okWide at h
  rw [Try.underlying40] at h
  obtain ⟨cs, h, _⟩ := h
  exact ⟨cs, h⟩

theorem steps_lifted (os : Os) (started : os.Started) (H : Type) (enc : TypeId × Value → H) :
    ReturnsInHanded {} Try.checked os 6 .any (Rows.datalinkStepsSpec.pre6 enc Try.prog Try.f6 Rows.datalinkStepsRow.domain false) (Rows.datalinkStepsSpec.post enc Try.prog Try.f6 false true false false) := by
  refine returnsInHanded_of_change (C := Try.checked) own started (by kernel_rfl) Try.func6
    (ChangeSpec.witness6 (enc := enc) (C := Try.checked) false ⟨#[], #[.agg #[.int .i64 0, .int .i64 0, .int .i64 0, .int .i64 0, .int .i64 0, .slice none 0 0, .slice none 0 0], .agg #[.int .i64 0, .int .i64 0]], []⟩ 8 (by kernel_rfl) (by kernel_rfl) (by kernel_rfl) (by kernel_rfl)) ?_
  intro W base args ds gs before hval0 hW hcnd _
  have hval : ∀ (j : Nat) t v, Try.f6.params[j]? = some t → args[j]? = some v → Value.okWide Try.prog W .any base t v := hval0
  have hW' := hW
  obtain ⟨p, q, hA0, hV, rfl, hfz, hnd⟩ := hW
  have hA : DataW.TrodAll enc Try.prog W 0 (fun _ => true) true Try.f6.params.toList args.toList ds p := hA0
  rw [Try.params6] at hA hval
  obtain ⟨v0, vs0, d0, ds0, p0, q0, hargs, rfl, rfl, h0, r0⟩ := trodAll_cons hA
  obtain ⟨v1, vs1, d1, ds1, p1, q1, hargs1, rfl, rfl, h1, r1⟩ := trodAll_cons r0
  obtain ⟨rfl, rfl, rfl⟩ := trodAll_nil r1
  subst hargs1
  obtain rfl : args = #[v0, v1] := by cases args; simp_all
  obtain ⟨rfl, rfl⟩ := trodVars_none hV
  obtain ⟨r, hr⟩ := den_dl (agg29 (hval 0 29 v0 rfl rfl)) h0
  obtain ⟨k, a, hl⟩ := den_ev (agg40 (hval 1 40 v1 rfl rfl)) h1
  refine (ret_calls (args := #[v0, v1]) (W := W) (law6 r k a) rfl ?_).mono ?_
  · intro i v u hv hu
    match i, hv, hu with
    | 0, hv, hu => simp at hv hu; subst hv hu; exact hr
    | 1, hv, hu => simp at hv hu; subst hv hu; exact hl
    | i + 2, hv, hu => simp at hv
  · rintro e W' ⟨rfl, hb⟩
    refine ⟨_, rfl, post_law (tb := 4) laid rfl hW' ?_ (by kernel_rfl) Try.underlying4 rfl rfl rfl hb⟩
    rw [Try.params6]
    intro t ht
    simp at ht
    rcases ht with rfl | rfl
    · exact ⟨read29, size29⟩
    · exact ⟨read40, size40⟩

theorem datalinkSteps_holds : Rows.DatalinkStepsSaid :=
  OpenClaim.holds_of_wide 6 Try.f6 rfl rfl rfl rfl rfl rfl rfl ⟨rfl, rfl, rfl, rfl, rfl⟩ rfl rfl rfl rfl rfl (by kernel_rfl) Try.func6 (by kernel_rfl)
    (of_decide_eq_true (by kernel_rfl)) (by unfold Func.isWrapper; first | (rw [if_pos (by decide +kernel)]; kernel_rfl) | (rw [if_neg (by decide +kernel)]; exact ⟨rfl, rfl⟩))
    (fun os started H enc _ => steps_lifted os started H enc)
end Go.Proofs.Ytadefbamjaajfaa
