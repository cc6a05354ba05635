import Derived.Test.YtadefbamjaajfaaDL2
namespace Go.Proofs.Ytadefbamjaajfaa
open Go.Eng
set_option maxRecDepth 100000
set_option linter.unusedVariables false

theorem vle_cpF (l : List (Int × Int)) (g : Nat → Nat → V) (i j : Nat) : VLe (fapp g 0 (vF l) i j) (vF l i j) := by
  apply VLe.of_eq
  rw [fapp_ge (by omega)]
  rfl
theorem vle_cpI (l : List Int) (g : Nat → Nat → V) (i j : Nat) : VLe (fapp g 0 (vI l) i j) (vI l i j) := by
  apply VLe.of_eq
  rw [fapp_ge (by omega)]
  rfl

theorem copied_ok (x : DL) (h1 : x.fr.length ≤ 100) (h2 : x.ak.length ≤ 100) : CallF Try.prog 23 [x.v] [] KS (fun v o k => v = .agg [.int .i64 x.cap, .int .i64 x.mod, .int .i64 x.label, .int .i64 x.item, .int .i64 x.last, .vec 0 2 0 x.fr.length, .vec 1 1 0 x.ak.length] ∧ o = [(0, .vec x.fr.length 2 (vF x.fr)), (1, .vec x.ak.length 1 (vI x.ak))]) := by
  refine call_post (fn_rule mixed Try.func23 rfl hc23 hr23 rfl ?_)
  repeat' ((conv => whnf); first
      | (refine Br.tt ?_)
      | (refine Br.ff ?_)
      | (refine Br.dec (fun _ => ?_) (fun _ => ?_) <;> first | (exfalso; omega) | skip)
      | (refine Br.beq (fun _ => ?_) (fun _ => ?_) <;> first | (exfalso; omega) | skip)
      | (refine Br.bne (fun _ => ?_) (fun _ => ?_) <;> first | (exfalso; omega) | skip)
      | (refine Br.nbeq (fun _ => ?_) (fun _ => ?_) <;> first | (exfalso; omega) | skip)
      | (refine Br.nble (fun _ => ?_) (fun _ => ?_) <;> first | (exfalso; omega) | skip)
      | (refine Ar.i64 (by omega) (by omega) ?_)
      | (refine Ar.u32 (by omega) (by omega) ?_)
      | (refine Sv.mk _ rfl ?_)
      | (refine Nz.mk (by omega) ?_)
      | (refine Nn.mk (by omega) ?_)
      | (refine Ix.nat (by omega) ?_)
      | (refine Ix.ofNat (by omega) ?_)
      | (refine Ix.mk 0 rfl (by omega) ?_)
      | (refine Ix.mk 1 rfl (by omega) ?_)
      | (refine Ix.int (by omega) (by omega) ?_)
      | (refine Bd.nat (by omega) ?_)
      | (refine Bd.mk 0 rfl (by omega) ?_)
      | (refine Bd.mk 1 rfl (by omega) ?_)
      | (refine Bd.int (by omega) (by omega) ?_)
      | (refine Len.mk (by omega) ?_)
      | (refine Len.mk (by simp only [List.length_cons, List.length_nil]; omega) ?_)
      | (refine Ltn.mk (by omega) ?_)
      | (refine Both.mk ?_ ?_)
      | (refine fn_rule mixed Try.func28 rfl hc28 hr28 rfl ?_)
      | (refine fn_rule mixed Try.func29 rfl hc29 hr29 rfl ?_)
      | (refine Br.any (fun _ => ?_) (fun _ => ?_)))
  all_goals (conv => whnf)
  all_goals
    refine postR_byV (fun v o => [(0, vkey v 5), (1, vkey v 6)]) _ _ ⟨rfl, rfl⟩ ?_ ?_ rfl
    · apply VRen.agg
      repeat' (first | exact True.intro | exact VRen.int rfl | exact VRen.vec rfl rfl (by omega) | exact VRen.nil rfl (by omega) | (refine And.intro ?_ ?_))
    · repeat' (first | exact True.intro | (refine ⟨⟨_, rfl, ?_⟩, ?_⟩) | (refine ⟨⟨2, vF x.fr, by rw [show x.fr.length = 0 by omega]⟩, ?_⟩) | (refine ⟨⟨1, vI x.ak, by rw [show x.ak.length = 0 by omega]⟩, ?_⟩) | (refine ⟨by omega, rfl, fun i j hi hj => ?_⟩) | exact vle_cpF _ _ _ _ | exact vle_cpI _ _ _ _ | (exfalso; omega) | (refine And.intro ?_ ?_))

theorem valid_bounds {x : DL} (h : x.valid = true) : 1 ≤ x.cap ∧ x.cap ≤ 8 ∧ 2 * x.cap + 2 ≤ x.mod ∧ x.mod ≤ 64 ∧ 0 ≤ x.label ∧ x.label ≤ x.mod - 1 ∧ 0 ≤ x.last ∧ x.last ≤ x.mod - 1 ∧ 0 ≤ x.item ∧ x.item ≤ 1073741824 ∧ (x.fr.length : Int) ≤ x.cap ∧ (x.ak.length : Int) ≤ x.cap := by
  simp only [DL.valid, Bool.and_eq_true, decide_eq_true_eq] at h
  exact h.1

theorem valid_iff {x : DL} : x.valid = true ↔ (1 ≤ x.cap ∧ x.cap ≤ 8 ∧ 2 * x.cap + 2 ≤ x.mod ∧ x.mod ≤ 64 ∧ 0 ≤ x.label ∧ x.label ≤ x.mod - 1 ∧ 0 ≤ x.last ∧ x.last ≤ x.mod - 1 ∧ 0 ≤ x.item ∧ x.item ≤ 1073741824 ∧ (x.fr.length : Int) ≤ x.cap ∧ (x.ak.length : Int) ≤ x.cap) ∧ (∀ f ∈ x.fr, okF x.mod f = true) ∧ ∀ a ∈ x.ak, okL x.mod a = true := by
  simp only [DL.valid, Bool.and_eq_true, decide_eq_true_eq, List.all_eq_true]

theorem mem_putL {α : Type} {l : List α} {x y : α} {c : Int} (h : y ∈ putL l x c) : y ∈ l ∨ y = x := by
  unfold putL at h
  split at h
  · exact .inl h
  · simpa using h
theorem len_putL {α : Type} {l : List α} {x : α} {c : Int} (h : (l.length : Int) ≤ c) : ((putL l x c).length : Int) ≤ c := by
  unfold putL
  split
  · exact h
  · simp; omega
theorem mem_loseL {α : Type} {l : List α} {i : Int} {y : α} (h : y ∈ loseL l i) : y ∈ l := by
  unfold loseL at h
  split at h
  · exact h
  · split at h
    · exact h
    · exact List.mem_of_mem_eraseIdx h
theorem len_loseL {α : Type} {l : List α} {i : Int} : (loseL l i).length ≤ l.length := by
  unfold loseL
  split
  · exact Nat.le_refl _
  · split
    · exact Nat.le_refl _
    · exact List.length_eraseIdx_le _ _

theorem gF_mem {l : List (Int × Int)} {i : Nat} (h : i < l.length) : gF l i ∈ l := by
  simp only [gF, List.getD, List.getElem?_eq_getElem h]
  exact List.getElem_mem h
theorem gI_mem {l : List Int} {i : Nat} (h : i < l.length) : gI l i ∈ l := by
  simp only [gI, List.getD, List.getElem?_eq_getElem h]
  exact List.getElem_mem h

theorem step_valid {y : DL} (kind at_ : Int) (h : y.valid = true) : (y.step kind at_).1.valid = true := by
  rw [valid_iff] at h ⊢
  obtain ⟨hb, hf, ha⟩ := h
  unfold DL.step
  have hL : ∀ f, okF y.mod f = true → okL y.mod f.1 = true := fun f h => by
    simp only [okF, Bool.and_eq_true] at h; exact h.1
  split
  · refine ⟨?_, fun f hm => ?_, ha⟩
    · have := len_putL (x := (y.label, y.item)) (show (y.fr.length : Int) ≤ y.cap by omega)
      simp only; omega
    · rcases mem_putL hm with h | h
      · exact hf f h
      · subst h; simp [okF, okL]; omega
  split
  · split
    · exact ⟨hb, hf, ha⟩
    · have h0 : gF y.fr 0 ∈ y.fr := gF_mem (by omega)
      have l1 := len_loseL (l := y.fr) (i := 0)
      have l2 := len_putL (x := (gF y.fr 0).1) (show (y.ak.length : Int) ≤ y.cap by omega)
      have hk := hL _ (hf _ h0)
      have hk' : 0 ≤ (gF y.fr 0).1 ∧ (gF y.fr 0).1 ≤ y.mod - 1 := of_decide_eq_true hk
      split
      · refine ⟨by simp only; omega, fun f hm => hf f (mem_loseL (i := 0) hm), fun a hm => ?_⟩
        rcases mem_putL hm with h | h
        · exact ha a h
        · subst h; exact hk
      · refine ⟨by simp only; omega, fun f hm => hf f (mem_loseL (i := 0) hm), fun a hm => ?_⟩
        rcases mem_putL hm with h | h
        · exact ha a h
        · subst h; exact hk
  split
  · split
    · exact ⟨hb, hf, ha⟩
    · have l1 := len_loseL (l := y.ak) (i := 0)
      split
      · refine ⟨?_, hf, fun a hm => ha a (mem_loseL (i := 0) hm)⟩
        have := Int.tmod_lt_of_pos (y.label + 1) (show 0 < y.mod by omega)
        have := Int.tmod_nonneg y.mod (show 0 ≤ y.label + 1 by omega)
        simp only [capI]
        split <;> omega
      · exact ⟨by simp only; omega, hf, fun a hm => ha a (mem_loseL (i := 0) hm)⟩
  split
  · have l1 := len_loseL (l := y.fr) (i := at_)
    exact ⟨by simp only; omega, fun f hm => hf f (mem_loseL (i := at_) hm), ha⟩
  split
  · have l1 := len_loseL (l := y.ak) (i := at_)
    exact ⟨by simp only; omega, hf, fun a hm => ha a (mem_loseL (i := at_) hm)⟩
  · exact ⟨hb, hf, ha⟩

def DL.runs (x : DL) (l : List (Int × Int)) : DL × List Int := l.foldl (fun p e => ((p.1.step e.1 e.2).1, if (p.1.step e.1 e.2).2.2 then p.2 ++ [(p.1.step e.1 e.2).2.1] else p.2)) (x, [])

theorem runs_snoc (x : DL) (l : List (Int × Int)) (e : Int × Int) : x.runs (l ++ [e]) = (((x.runs l).1.step e.1 e.2).1, if ((x.runs l).1.step e.1 e.2).2.2 then (x.runs l).2 ++ [((x.runs l).1.step e.1 e.2).2.1] else (x.runs l).2) := by
  simp only [DL.runs, List.foldl_append]
  rfl

theorem take_snocF (l : List (Int × Int)) (i : Nat) (h : i < l.length) : l.take (i + 1) = l.take i ++ [gF l i] := by
  rw [List.take_succ_eq_append_getElem h]
  simp only [gF, List.getD, List.getElem?_eq_getElem h, Option.getD_some]

theorem runs_valid {x : DL} (h : x.valid = true) (l : List (Int × Int)) (i : Nat) : (x.runs (l.take i)).1.valid = true ∧ (x.runs (l.take i)).2.length ≤ i := by
  induction i with
  | zero => exact ⟨h, Nat.le_refl _⟩
  | succ i ih =>
    by_cases hi : i < l.length
    · rw [take_snocF l i hi, runs_snoc]
      refine ⟨step_valid _ _ ih.1, ?_⟩
      have := ih.2
      simp only
      split
      · simp; omega
      · omega
    · rw [List.take_of_length_le (by omega)] at ih ⊢
      exact ⟨ih.1, by have := ih.2; omega⟩

def DL.zero : DL := ⟨0, 0, 0, 0, 0, [], []⟩
def DL.run (x : DL) (l : List (Int × Int)) : DL × List Int := if x.valid = true ∧ l.length ≤ 65536 then x.runs l else (DL.zero, [])

theorem run_ok (x : DL) (l : List (Int × Int)) : Ret Try.prog 11 [x.v, .fz l.length 2 false (vF l)] (.tup [(x.run l).1.v, .fz (x.run l).2.length 1 false (vI (x.run l).2)]) := by
  refine ret_frz rfl ?_
  refine fn_rule mixed Try.func11 rfl hc11 hr11 rfl ?_
  by_cases hv : x.valid = true
  · have hb := valid_bounds hv
    repeat' ((conv => whnf); first
        | (refine Br.tt ?_)
        | (refine Br.ff ?_)
        | (refine Br.dec (fun _ => ?_) (fun _ => ?_) <;> first | (exfalso; omega) | skip)
        | (refine Br.beq (fun _ => ?_) (fun _ => ?_) <;> first | (exfalso; omega) | skip)
        | (refine Br.bne (fun _ => ?_) (fun _ => ?_) <;> first | (exfalso; omega) | skip)
        | (refine Br.nbeq (fun _ => ?_) (fun _ => ?_) <;> first | (exfalso; omega) | skip)
        | (refine Br.nble (fun _ => ?_) (fun _ => ?_) <;> first | (exfalso; omega) | skip)
        | (refine Ar.i64 (by omega) (by omega) ?_)
        | (refine Ar.u32 (by omega) (by omega) ?_)
        | (refine Sv.mk _ rfl ?_)
        | (refine Nz.mk (by omega) ?_)
        | (refine Nn.mk (by omega) ?_)
        | (refine Ix.nat (by omega) ?_)
        | (refine Ix.ofNat (by omega) ?_)
        | (refine Ix.mk 0 rfl (by omega) ?_)
        | (refine Ix.mk 1 rfl (by omega) ?_)
        | (refine Ix.int (by omega) (by omega) ?_)
        | (refine Bd.nat (by omega) ?_)
        | (refine Bd.mk 0 rfl (by omega) ?_)
        | (refine Bd.mk 1 rfl (by omega) ?_)
        | (refine Bd.int (by omega) (by omega) ?_)
        | (refine Len.mk (by omega) ?_)
        | (refine Len.mk (by simp only [List.length_cons, List.length_nil]; omega) ?_)
        | (refine Ltn.mk (by omega) ?_)
        | (refine Both.mk ?_ ?_)
        | (refine call_new rfl ((valid_ok x).mono ?_); rintro _ _ _ rfl; rw [hv])
        | (refine call_by [] [0, 1] ((copied_ok x (by omega) (by omega)).mono ?_) ⟨VRen.kf rfl, True.intro⟩ True.intro rfl; rintro _ _ _ ⟨rfl, rfl⟩)
        | (refine Chk.mk rfl ?_)
        | (refine Br.any (fun _ => ?_) (fun _ => ?_)))
    all_goals (conv => whnf)
    · rw [DL.run, if_neg (by omega)]
      exact VLe.tup ⟨VLe.agg ⟨.rfl, .rfl, .rfl, .rfl, .rfl, VLe.nilfz rfl, VLe.nilfz rfl, True.intro⟩, VLe.nilfz rfl, True.intro⟩
    · refine loop_w mixed [4, 6, 23, 24] [2, 3, 5] [6, 7, 8, 9, 10, 11, 12, 13, 14, 15, 16, 17, 18, 19, 20, 21, 22, 23, 24, 25, 26, 27, 28, 29] [4, 2, 3, 5, 1]
        (fun i : Nat => [(25, .int .i64 i), (7, .vec 5 1 0 (x.runs (l.take i)).2.length)])
        (fun i => dlOwn (x.runs (l.take i)).1 4 2 3 ++ [(5, .vec (x.runs (l.take i)).2.length 1 (vI (x.runs (l.take i)).2)), (1, .cells [.int .i64 0, .int .i64 0, .int .i64 0, .int .i64 0, .int .i64 0, .nilslice, .nilslice])])
        (fun n i => n = l.length - i ∧ i ≤ l.length) l.length 0 ⟨rfl, Nat.zero_le _⟩ rfl (fun _ => rfl) ?_ ?_
      · refine weak_by (fun _ _ => [(4, some 4), (2, some 2), (3, some 3), (5, none), (1, some 1)]) ?_ ?_ rfl
        · repeat' (first | exact True.intro | (refine ⟨⟨_, rfl, ?_⟩, ?_⟩) | exact VRen.kf rfl | exact VRen.int rfl | exact VRen.int (by omega) | exact VRen.loc rfl | exact VRen.vec rfl rfl rfl | exact VRen.vec rfl (by omega) (by omega) | exact VRen.nil rfl rfl | exact VRen.nil rfl (by omega) | exact VRen.fz rfl (fun h => h) (fun _ _ _ _ => VLe.rfl) | (refine ⟨Nat.le_refl _, rfl, fun i j hi hj => ?_⟩) | (refine ⟨by omega, rfl, fun i j hi hj => ?_⟩) | exact VLe.rfl | (refine ⟨⟨_, _, rfl⟩, ?_⟩) | (refine And.intro ?_ ?_))
        · repeat' (first | exact True.intro | (refine ⟨⟨_, rfl, ?_⟩, ?_⟩) | exact VRen.kf rfl | exact VRen.int rfl | exact VRen.int (by omega) | exact VRen.loc rfl | exact VRen.vec rfl rfl rfl | exact VRen.vec rfl (by omega) (by omega) | exact VRen.nil rfl rfl | exact VRen.nil rfl (by omega) | exact VRen.fz rfl (fun h => h) (fun _ _ _ _ => VLe.rfl) | (refine ⟨Nat.le_refl _, rfl, fun i j hi hj => ?_⟩) | (refine ⟨by omega, rfl, fun i j hi hj => ?_⟩) | exact VLe.rfl | (refine ⟨⟨_, _, rfl⟩, ?_⟩) | (refine And.intro ?_ ?_))
        all_goals trace_state
      · rintro n i ⟨hn, hi⟩
        obtain ⟨hv', hlen⟩ := runs_valid hv l i
        have hb' := valid_bounds hv'
        repeat' ((conv => whnf); first
            | (refine Br.tt ?_)
            | (refine Br.ff ?_)
            | (refine Br.dec (fun _ => ?_) (fun _ => ?_) <;> first | (exfalso; omega) | skip)
            | (refine Br.beq (fun _ => ?_) (fun _ => ?_) <;> first | (exfalso; omega) | skip)
            | (refine Br.bne (fun _ => ?_) (fun _ => ?_) <;> first | (exfalso; omega) | skip)
            | (refine Br.nbeq (fun _ => ?_) (fun _ => ?_) <;> first | (exfalso; omega) | skip)
            | (refine Br.nble (fun _ => ?_) (fun _ => ?_) <;> first | (exfalso; omega) | skip)
            | (refine Ar.i64 (by omega) (by omega) ?_)
            | (refine Ar.u32 (by omega) (by omega) ?_)
            | (refine Sv.mk _ rfl ?_)
            | (refine Nz.mk (by omega) ?_)
            | (refine Nn.mk (by omega) ?_)
            | (refine Ix.nat (by omega) ?_)
            | (refine Ix.ofNat (by omega) ?_)
            | (refine Ix.mk 0 rfl (by omega) ?_)
            | (refine Ix.mk 1 rfl (by omega) ?_)
            | (refine Ix.int (by omega) (by omega) ?_)
            | (refine Bd.nat (by omega) ?_)
            | (refine Bd.mk 0 rfl (by omega) ?_)
            | (refine Bd.mk 1 rfl (by omega) ?_)
            | (refine Bd.int (by omega) (by omega) ?_)
            | (refine Len.mk (by omega) ?_)
            | (refine Len.mk (by simp only [List.length_cons, List.length_nil]; omega) ?_)
            | (refine Ltn.mk (by omega) ?_)
            | (refine Both.mk ?_ ?_)
            | (refine call_by [(0, some 4), (1, some 2), (2, some 3)] [3, 4] ((perform_ok (x.runs (l.take i)).1 _ _ (by omega)).mono ?_) ⟨VRen.loc rfl, VRen.kf rfl, True.intro⟩ (by repeat' (first | exact True.intro | (refine ⟨⟨_, rfl, ?_⟩, ?_⟩) | exact VRen.kf rfl | exact VRen.int rfl | exact VRen.int (by omega) | exact VRen.loc rfl | exact VRen.vec rfl rfl rfl | exact VRen.vec rfl (by omega) (by omega) | exact VRen.nil rfl rfl | exact VRen.nil rfl (by omega) | exact VRen.fz rfl (fun h => h) (fun _ _ _ _ => VLe.rfl) | (refine ⟨Nat.le_refl _, rfl, fun i j hi hj => ?_⟩) | (refine ⟨by omega, rfl, fun i j hi hj => ?_⟩) | exact VLe.rfl | (refine ⟨⟨_, _, rfl⟩, ?_⟩) | (refine And.intro ?_ ?_))) rfl; rintro _ _ _ ⟨rfl, rfl⟩)
            | (refine Chk.mk rfl ?_)
            | (refine Br.any (fun _ => ?_) (fun _ => ?_)))
        all_goals (conv => whnf)
        · refine ⟨l.length - (i + 1), i + 1, by omega, ⟨rfl, by omega⟩, ?_⟩
          have e := runs_snoc x (l.take i) (gF l i)
          rw [← take_snocF l i (by omega), if_pos ‹_›] at e
          simp only [e]
          refine weak_by (fun env own => [(4, some 4), (2, ckeyo own 4 5), (3, ckeyo own 4 6), (5, ekey env 7), (1, some 1)]) ?_ ?_ rfl
          · repeat' (first | exact VRen.vec rfl rfl (by rw [List.length_append]; rfl) | (refine ⟨by rw [List.length_append]; exact Nat.le_refl _, rfl, fun i j hi hj => ?_⟩) | exact vle_appI _ _ _ _ hi hj | exact True.intro | (refine ⟨⟨_, rfl, ?_⟩, ?_⟩) | exact VRen.kf rfl | exact VRen.int rfl | exact VRen.int (by omega) | exact VRen.loc rfl | exact VRen.vec rfl rfl rfl | exact VRen.vec rfl (by omega) (by omega) | exact VRen.nil rfl rfl | exact VRen.nil rfl (by omega) | exact VRen.fz rfl (fun h => h) (fun _ _ _ _ => VLe.rfl) | (refine ⟨Nat.le_refl _, rfl, fun i j hi hj => ?_⟩) | (refine ⟨by omega, rfl, fun i j hi hj => ?_⟩) | exact VLe.rfl | (refine ⟨⟨_, _, rfl⟩, ?_⟩) | (refine And.intro ?_ ?_))
          · repeat' (first | exact VRen.vec rfl rfl (by rw [List.length_append]; rfl) | (refine ⟨by rw [List.length_append]; exact Nat.le_refl _, rfl, fun i j hi hj => ?_⟩) | exact vle_appI _ _ _ _ hi hj | exact True.intro | (refine ⟨⟨_, rfl, ?_⟩, ?_⟩) | exact VRen.kf rfl | exact VRen.int rfl | exact VRen.int (by omega) | exact VRen.loc rfl | exact VRen.vec rfl rfl rfl | exact VRen.vec rfl (by omega) (by omega) | exact VRen.nil rfl rfl | exact VRen.nil rfl (by omega) | exact VRen.fz rfl (fun h => h) (fun _ _ _ _ => VLe.rfl) | (refine ⟨Nat.le_refl _, rfl, fun i j hi hj => ?_⟩) | (refine ⟨by omega, rfl, fun i j hi hj => ?_⟩) | exact VLe.rfl | (refine ⟨⟨_, _, rfl⟩, ?_⟩) | (refine And.intro ?_ ?_))
        · refine ⟨l.length - (i + 1), i + 1, by omega, ⟨rfl, by omega⟩, ?_⟩
          have e := runs_snoc x (l.take i) (gF l i)
          rw [← take_snocF l i (by omega), if_neg (by rw [show ((x.runs (l.take i)).1.step (gF l i).1 (gF l i).2).2.2 = false by assumption]; decide)] at e
          simp only [e]
          refine weak_by (fun env own => [(4, some 4), (2, ckeyo own 4 5), (3, ckeyo own 4 6), (5, ekey env 7), (1, some 1)]) ?_ ?_ rfl
          · repeat' (first | exact True.intro | (refine ⟨⟨_, rfl, ?_⟩, ?_⟩) | exact VRen.kf rfl | exact VRen.int rfl | exact VRen.int (by omega) | exact VRen.loc rfl | exact VRen.vec rfl rfl rfl | exact VRen.vec rfl (by omega) (by omega) | exact VRen.nil rfl rfl | exact VRen.nil rfl (by omega) | exact VRen.fz rfl (fun h => h) (fun _ _ _ _ => VLe.rfl) | (refine ⟨Nat.le_refl _, rfl, fun i j hi hj => ?_⟩) | (refine ⟨by omega, rfl, fun i j hi hj => ?_⟩) | exact VLe.rfl | (refine ⟨⟨_, _, rfl⟩, ?_⟩) | (refine And.intro ?_ ?_))
          · repeat' (first | exact True.intro | (refine ⟨⟨_, rfl, ?_⟩, ?_⟩) | exact VRen.kf rfl | exact VRen.int rfl | exact VRen.int (by omega) | exact VRen.loc rfl | exact VRen.vec rfl rfl rfl | exact VRen.vec rfl (by omega) (by omega) | exact VRen.nil rfl rfl | exact VRen.nil rfl (by omega) | exact VRen.fz rfl (fun h => h) (fun _ _ _ _ => VLe.rfl) | (refine ⟨Nat.le_refl _, rfl, fun i j hi hj => ?_⟩) | (refine ⟨by omega, rfl, fun i j hi hj => ?_⟩) | exact VLe.rfl | (refine ⟨⟨_, _, rfl⟩, ?_⟩) | (refine And.intro ?_ ?_))
        · rw [DL.run, if_pos ⟨hv, by omega⟩]
          rw [List.take_of_length_le (by omega)]
          exact VLe.rfl
  · simp only [Bool.not_eq_true] at hv
    repeat' ((conv => whnf); first
        | (refine Br.tt ?_)
        | (refine Br.ff ?_)
        | (refine Br.dec (fun _ => ?_) (fun _ => ?_) <;> first | (exfalso; omega) | skip)
        | (refine Br.beq (fun _ => ?_) (fun _ => ?_) <;> first | (exfalso; omega) | skip)
        | (refine Br.bne (fun _ => ?_) (fun _ => ?_) <;> first | (exfalso; omega) | skip)
        | (refine Br.nbeq (fun _ => ?_) (fun _ => ?_) <;> first | (exfalso; omega) | skip)
        | (refine Br.nble (fun _ => ?_) (fun _ => ?_) <;> first | (exfalso; omega) | skip)
        | (refine Ar.i64 (by omega) (by omega) ?_)
        | (refine Ar.u32 (by omega) (by omega) ?_)
        | (refine Sv.mk _ rfl ?_)
        | (refine Nz.mk (by omega) ?_)
        | (refine Nn.mk (by omega) ?_)
        | (refine Ix.nat (by omega) ?_)
        | (refine Ix.ofNat (by omega) ?_)
        | (refine Ix.mk 0 rfl (by omega) ?_)
        | (refine Ix.mk 1 rfl (by omega) ?_)
        | (refine Ix.int (by omega) (by omega) ?_)
        | (refine Bd.nat (by omega) ?_)
        | (refine Bd.mk 0 rfl (by omega) ?_)
        | (refine Bd.mk 1 rfl (by omega) ?_)
        | (refine Bd.int (by omega) (by omega) ?_)
        | (refine Len.mk (by omega) ?_)
        | (refine Len.mk (by simp only [List.length_cons, List.length_nil]; omega) ?_)
        | (refine Ltn.mk (by omega) ?_)
        | (refine Both.mk ?_ ?_)
        | (refine call_new rfl ((valid_ok x).mono ?_); rintro _ _ _ rfl; rw [hv])
        | (refine Br.any (fun _ => ?_) (fun _ => ?_)))
    all_goals (conv => whnf)
    · rw [DL.run, if_neg (by rw [hv]; simp)]
      exact VLe.tup ⟨VLe.agg ⟨.rfl, .rfl, .rfl, .rfl, .rfl, VLe.nilfz rfl, VLe.nilfz rfl, True.intro⟩, VLe.nilfz rfl, True.intro⟩
end Go.Proofs.Ytadefbamjaajfaa
