import Derived.Test.YtadefbamjaajfaaDL3
namespace Go.Proofs.Ytadefbamjaajfaa
open Go.Eng
set_option maxRecDepth 100000
set_option linter.unusedVariables false

theorem vle_appF2 (l : List (Int × Int)) (a b : Int) (n i j : Nat) (hn : n = l.length) (hi : i < n + 1) (hj : j < 2) : VLe (fapp (vF l) n (tab [[.int .i64 a, .int .i64 b]]) i j) (vF (l ++ [(a, b)]) i j) := by
  subst hn
  exact vle_appF l a b i j (by simpa using hi) hj
theorem vle_appI2 (l : List Int) (a : Int) (n i j : Nat) (hn : n = l.length) (hi : i < n + 1) (hj : j < 1) : VLe (fapp (vI l) n (tab [[.int .i64 a]]) i j) (vI (l ++ [a]) i j) := by
  subst hn
  exact vle_appI l a i j (by simpa using hi) hj
theorem vle_tailF (l : List (Int × Int)) (i j : Nat) : VLe (shiftF 1 (vF l) i j) (vF (l.eraseIdx (Int.toNat 0)) i j) := by
  apply VLe.of_eq
  simp only [shiftF_eq, vF, gF, getD_erase, show Int.toNat 0 = 0 from rfl, Nat.not_lt_zero, if_false, Nat.add_comm 1 i]
theorem vle_tailI (l : List Int) (i j : Nat) : VLe (shiftF 1 (vI l) i j) (vI (l.eraseIdx (Int.toNat 0)) i j) := by
  apply VLe.of_eq
  simp only [shiftF_eq, vI, gI, getD_erase, show Int.toNat 0 = 0 from rfl, Nat.not_lt_zero, if_false, Nat.add_comm 1 i]
theorem vle_cutF (l : List (Int × Int)) (e q e' i j : Nat) (h1 : e = e') (h2 : q = e' + 1) : VLe (fapp (vF l) e (shiftF q (vF l)) i j) (vF (l.eraseIdx e') i j) := by
  apply VLe.of_eq
  subst h1 h2
  by_cases h : i < e
  · rw [fapp_lt h]
    simp only [vF, gF, getD_erase, if_pos h]
  · rw [fapp_ge h, shiftF_eq]
    simp only [vF, gF, getD_erase, if_neg h, show e + 1 + (i - e) = i + 1 by omega]
theorem vle_cutI (l : List Int) (e q e' i j : Nat) (h1 : e = e') (h2 : q = e' + 1) : VLe (fapp (vI l) e (shiftF q (vI l)) i j) (vI (l.eraseIdx e') i j) := by
  apply VLe.of_eq
  subst h1 h2
  by_cases h : i < e
  · rw [fapp_lt h]
    simp only [vI, gI, getD_erase, if_pos h]
  · rw [fapp_ge h, shiftF_eq]
    simp only [vI, gI, getD_erase, if_neg h, show e + 1 + (i - e) = i + 1 by omega]

def DL.rstep (x : DL) (kind at_ : Int) : DL × Int × Bool := if x.valid = true then x.step kind at_ else (DL.zero, 0, false)

set_option maxHeartbeats 4000000 in
theorem rstep_ok (x : DL) (kind at_ : Int) : Ret Try.prog 19 [x.v, .agg [.int .i64 kind, .int .i64 at_]] (.tup [(x.rstep kind at_).1.v, .int .i64 (x.rstep kind at_).2.1, .bool (x.rstep kind at_).2.2]) := by
  refine ret_frz rfl ?_
  refine fn_rule mixed Try.func19 rfl hc19 hr19 rfl ?_
  by_cases hv : x.valid = true
  · have hb := valid_bounds hv
    rw [DL.rstep, if_pos hv]
    obtain ⟨r, hr⟩ : ∃ r, x.step kind at_ = r := ⟨_, rfl⟩
    rw [hr]
    repeat' ((conv => whnf); first
        | (refine Br.tt ?_)
        | (refine Br.ff ?_)
        | (refine Br.dec (fun _ => ?_) (fun _ => ?_) <;> first | (exfalso; omega) | skip)
        | (refine Br.beq (fun _ => ?_) (fun _ => ?_) <;> first | (exfalso; omega) | skip)
        | (refine Br.bne (fun _ => ?_) (fun _ => ?_) <;> first | (exfalso; omega) | skip)
        | (refine Br.nbeq (fun _ => ?_) (fun _ => ?_) <;> first | (exfalso; omega) | skip)
        | (refine Br.nble (fun _ => ?_) (fun _ => ?_) <;> first | (exfalso; omega) | skip)
        | (refine Ar.i64 (by omega) (by omega) ?_)
        | (refine Ar.u32 (by omega) (by omega) ?_)
        | (refine Sv.mk _ rfl ?_)
        | (refine Nz.mk (by omega) ?_)
        | (refine Nn.mk (by omega) ?_)
        | (refine Ix.nat (by omega) ?_)
        | (refine Ix.ofNat (by omega) ?_)
        | (refine Ix.mk 0 rfl (by omega) ?_)
        | (refine Ix.mk 1 rfl (by omega) ?_)
        | (refine Ix.int (by omega) (by omega) ?_)
        | (refine Bd.nat (by omega) ?_)
        | (refine Bd.mk 0 rfl (by omega) ?_)
        | (refine Bd.mk 1 rfl (by omega) ?_)
        | (refine Bd.int (by omega) (by omega) ?_)
        | (refine Len.mk (by omega) ?_)
        | (refine Len.mk (by simp only [List.length_cons, List.length_nil]; omega) ?_)
        | (refine Ltn.mk (by omega) ?_)
        | (refine Both.mk ?_ ?_)
        | (refine call_new rfl ((rvalid_ok x).mono ?_); rintro _ _ _ rfl; rw [hv])
        | (refine (in_ok _ _ _ _ _).mono ?_; rintro _ _ _ ⟨rfl, rfl, rfl⟩)
        | (refine And.intro rfl ?_)
        | (refine Br.any (fun _ => ?_) (fun _ => ?_)))
    all_goals (conv => whnf)
    all_goals
      simp only [DL.step, putL, loseL] at hr
      repeat (first | rw [if_pos (by omega)] at hr | rw [if_neg (by omega)] at hr)
    all_goals
      subst hr
      repeat' (first | exact vle_appF2 _ _ _ _ _ _ (by omega) (by omega) hj | exact vle_appI2 _ _ _ _ _ (by omega) (by omega) hj | exact vle_tailF _ _ _ | exact vle_tailI _ _ _ | exact vle_cutF _ _ _ _ _ _ (by omega) (by omega) | exact vle_cutI _ _ _ _ _ _ (by omega) (by omega) | (refine VLe.fz (by rw [List.length_append]; simp) (fun h => h) (fun i j hi hj => ?_)) | (refine VLe.fz (by rw [List.length_eraseIdx_of_lt (by omega)]; omega) (fun h => h) (fun i j hi hj => ?_)) | (refine VLe.fz (Nat.zero_add _) (fun h => h) (fun i j hi hj => ?_)) | exact True.intro | exact VLe.rfl | exact VLe.int rfl | exact VLe.int (by omega) | (refine VLe.tup ?_) | (refine VLe.agg ?_) | exact VLe.nilfz rfl | exact VLe.nilfz (by omega) | (refine VLe.fz rfl (fun h => h) (fun i j hi hj => ?_)) | (refine VLe.fz (by omega) (fun h => h) (fun i j hi hj => ?_)) | (refine And.intro ?_ ?_))
    · have e : (if at_ < 0 then x.fr else if at_ ≥ (x.fr.length : Int) then x.fr else x.fr.eraseIdx at_.toNat) = x.fr := by
        split
        · rfl
        · rw [if_pos (by omega)]
      rw [e]
      exact VLe.fz (Nat.zero_add _) (fun h => h) (fun i j hi hj => VLe.rfl)
    · have e : (if at_ < 0 then x.ak else if at_ ≥ (x.ak.length : Int) then x.ak else x.ak.eraseIdx at_.toNat) = x.ak := by
        split
        · rfl
        · rw [if_pos (by omega)]
      rw [e]
      exact VLe.fz (Nat.zero_add _) (fun h => h) (fun i j hi hj => VLe.rfl)
  · simp only [Bool.not_eq_true] at hv
    rw [DL.rstep, if_neg (by rw [hv]; decide)]
    repeat' ((conv => whnf); first
        | (refine Br.tt ?_)
        | (refine Br.ff ?_)
        | (refine Br.dec (fun _ => ?_) (fun _ => ?_) <;> first | (exfalso; omega) | skip)
        | (refine Br.beq (fun _ => ?_) (fun _ => ?_) <;> first | (exfalso; omega) | skip)
        | (refine Br.bne (fun _ => ?_) (fun _ => ?_) <;> first | (exfalso; omega) | skip)
        | (refine Br.nbeq (fun _ => ?_) (fun _ => ?_) <;> first | (exfalso; omega) | skip)
        | (refine Br.nble (fun _ => ?_) (fun _ => ?_) <;> first | (exfalso; omega) | skip)
        | (refine Ar.i64 (by omega) (by omega) ?_)
        | (refine Ar.u32 (by omega) (by omega) ?_)
        | (refine Sv.mk _ rfl ?_)
        | (refine Nz.mk (by omega) ?_)
        | (refine Nn.mk (by omega) ?_)
        | (refine Ix.nat (by omega) ?_)
        | (refine Ix.ofNat (by omega) ?_)
        | (refine Ix.mk 0 rfl (by omega) ?_)
        | (refine Ix.mk 1 rfl (by omega) ?_)
        | (refine Ix.int (by omega) (by omega) ?_)
        | (refine Bd.nat (by omega) ?_)
        | (refine Bd.mk 0 rfl (by omega) ?_)
        | (refine Bd.mk 1 rfl (by omega) ?_)
        | (refine Bd.int (by omega) (by omega) ?_)
        | (refine Len.mk (by omega) ?_)
        | (refine Len.mk (by simp only [List.length_cons, List.length_nil]; omega) ?_)
        | (refine Ltn.mk (by omega) ?_)
        | (refine Both.mk ?_ ?_)
        | (refine call_new rfl ((rvalid_ok x).mono ?_); rintro _ _ _ rfl; rw [hv])
        | (refine Br.any (fun _ => ?_) (fun _ => ?_)))
    all_goals (conv => whnf)
    repeat' (first | exact True.intro | exact VLe.rfl | exact VLe.int rfl | exact VLe.int (by omega) | (refine VLe.tup ?_) | (refine VLe.agg ?_) | exact VLe.nilfz rfl | exact VLe.nilfz (by omega) | (refine VLe.fz rfl (fun h => h) (fun i j hi hj => ?_)) | (refine VLe.fz (by omega) (fun h => h) (fun i j hi hj => ?_)) | (refine And.intro ?_ ?_))

def DL.cells (x : DL) : List V := [.int .i64 x.cap, .int .i64 x.mod, .int .i64 x.label, .int .i64 x.item, .int .i64 x.last, .fz x.fr.length 2 false (vF x.fr), .fz x.ak.length 1 false (vI x.ak)]

theorem rstep_v {z : DL} (h : z.valid = true) (k a : Int) : Ret Try.prog 19 [z.v, .agg [.int .i64 k, .int .i64 a]] (.tup [(z.step k a).1.v, .int .i64 (z.step k a).2.1, .bool (z.step k a).2.2]) := by
  have := rstep_ok z k a
  rwa [DL.rstep, if_pos h] at this

theorem rruns_ok (x : DL) (l : List (Int × Int)) : Ret Try.prog 12 [x.v, .fz l.length 2 false (vF l)] (.tup [(x.run l).1.v, .fz (x.run l).2.length 1 false (vI (x.run l).2)]) := by
  refine ret_frz rfl ?_
  refine fn_rule mixed Try.func12 rfl hc12 hr12 rfl ?_
  by_cases hv : x.valid = true
  · have hb := valid_bounds hv
    repeat' ((conv => whnf); first
        | (refine Br.tt ?_)
        | (refine Br.ff ?_)
        | (refine Br.dec (fun _ => ?_) (fun _ => ?_) <;> first | (exfalso; omega) | skip)
        | (refine Br.beq (fun _ => ?_) (fun _ => ?_) <;> first | (exfalso; omega) | skip)
        | (refine Br.bne (fun _ => ?_) (fun _ => ?_) <;> first | (exfalso; omega) | skip)
        | (refine Br.nbeq (fun _ => ?_) (fun _ => ?_) <;> first | (exfalso; omega) | skip)
        | (refine Br.nble (fun _ => ?_) (fun _ => ?_) <;> first | (exfalso; omega) | skip)
        | (refine Ar.i64 (by omega) (by omega) ?_)
        | (refine Ar.u32 (by omega) (by omega) ?_)
        | (refine Sv.mk _ rfl ?_)
        | (refine Nz.mk (by omega) ?_)
        | (refine Nn.mk (by omega) ?_)
        | (refine Ix.nat (by omega) ?_)
        | (refine Ix.ofNat (by omega) ?_)
        | (refine Ix.mk 0 rfl (by omega) ?_)
        | (refine Ix.mk 1 rfl (by omega) ?_)
        | (refine Ix.int (by omega) (by omega) ?_)
        | (refine Bd.nat (by omega) ?_)
        | (refine Bd.mk 0 rfl (by omega) ?_)
        | (refine Bd.mk 1 rfl (by omega) ?_)
        | (refine Bd.int (by omega) (by omega) ?_)
        | (refine Len.mk (by omega) ?_)
        | (refine Len.mk (by simp only [List.length_cons, List.length_nil]; omega) ?_)
        | (refine Ltn.mk (by omega) ?_)
        | (refine Both.mk ?_ ?_)
        | (refine call_new rfl ((rvalid_ok x).mono ?_); rintro _ _ _ rfl; rw [hv])
        | (refine Br.any (fun _ => ?_) (fun _ => ?_)))
    all_goals (conv => whnf)
    · rw [DL.run, if_neg (by omega)]
      repeat' (first | exact True.intro | exact VLe.rfl | exact VLe.int rfl | exact VLe.int (by omega) | (refine VLe.tup ?_) | (refine VLe.agg ?_) | exact VLe.nilfz rfl | exact VLe.nilfz (by omega) | (refine VLe.fz rfl (fun h => h) (fun i j hi hj => ?_)) | (refine VLe.fz (by omega) (fun h => h) (fun i j hi hj => ?_)) | (refine And.intro ?_ ?_))
    refine loop_w mixed [1, 2, 4] [2] [3, 4, 5, 6, 7, 8, 9, 10, 11, 12, 13, 14, 15, 16, 17, 18, 19, 20, 21, 22, 23, 24, 25, 26, 27, 28, 29] [0, 2, 1]
      (fun i : Nat => [(7, .int .i64 i), (6, .vec 2 1 0 (x.runs (l.take i)).2.length)])
      (fun i => [(0, .cells (x.runs (l.take i)).1.cells), (2, .vec (x.runs (l.take i)).2.length 1 (vI (x.runs (l.take i)).2)), (1, .cells [.int .i64 0, .int .i64 0, .int .i64 0, .int .i64 0, .int .i64 0, .nilslice, .nilslice])])
      (fun n i => n = l.length - i ∧ i ≤ l.length) l.length 0 ⟨rfl, Nat.zero_le _⟩ rfl (fun _ => rfl) ?_ ?_
    · refine weak_by (fun _ _ => [(0, some 0), (2, none), (1, some 1)]) ?_ ?_ rfl
      · repeat' (first | exact True.intro | (refine ⟨⟨_, rfl, ?_⟩, ?_⟩) | exact VRen.kf rfl | exact VRen.int rfl | exact VRen.int (by omega) | exact VRen.loc rfl | exact VRen.vec rfl rfl rfl | exact VRen.vec rfl (by omega) (by omega) | exact VRen.nil rfl rfl | exact VRen.nil rfl (by omega) | exact VRen.fz rfl (fun h => h) (fun _ _ _ _ => VLe.rfl) | (refine ⟨Nat.le_refl _, rfl, fun i j hi hj => ?_⟩) | (refine ⟨by omega, rfl, fun i j hi hj => ?_⟩) | exact VLe.rfl | (refine ⟨⟨_, _, rfl⟩, ?_⟩) | (refine And.intro ?_ ?_))
      · repeat' (first | exact True.intro | (refine ⟨⟨_, rfl, ?_⟩, ?_⟩) | exact VRen.kf rfl | exact VRen.int rfl | exact VRen.int (by omega) | exact VRen.loc rfl | exact VRen.vec rfl rfl rfl | exact VRen.vec rfl (by omega) (by omega) | exact VRen.nil rfl rfl | exact VRen.nil rfl (by omega) | exact VRen.fz rfl (fun h => h) (fun _ _ _ _ => VLe.rfl) | (refine ⟨Nat.le_refl _, rfl, fun i j hi hj => ?_⟩) | (refine ⟨by omega, rfl, fun i j hi hj => ?_⟩) | exact VLe.rfl | (refine ⟨⟨_, _, rfl⟩, ?_⟩) | (refine And.intro ?_ ?_))
    · rintro n i ⟨hn, hi⟩
      obtain ⟨hv', hlen⟩ := runs_valid hv l i
      have hb' := valid_bounds hv'
      repeat' ((conv => whnf); first
          | (refine Br.tt ?_)
          | (refine Br.ff ?_)
          | (refine Br.dec (fun _ => ?_) (fun _ => ?_) <;> first | (exfalso; omega) | skip)
          | (refine Br.beq (fun _ => ?_) (fun _ => ?_) <;> first | (exfalso; omega) | skip)
          | (refine Br.bne (fun _ => ?_) (fun _ => ?_) <;> first | (exfalso; omega) | skip)
          | (refine Br.nbeq (fun _ => ?_) (fun _ => ?_) <;> first | (exfalso; omega) | skip)
          | (refine Br.nble (fun _ => ?_) (fun _ => ?_) <;> first | (exfalso; omega) | skip)
          | (refine Ar.i64 (by omega) (by omega) ?_)
          | (refine Ar.u32 (by omega) (by omega) ?_)
          | (refine Sv.mk _ rfl ?_)
          | (refine Nz.mk (by omega) ?_)
          | (refine Nn.mk (by omega) ?_)
          | (refine Ix.nat (by omega) ?_)
          | (refine Ix.ofNat (by omega) ?_)
          | (refine Ix.mk 0 rfl (by omega) ?_)
          | (refine Ix.mk 1 rfl (by omega) ?_)
          | (refine Ix.int (by omega) (by omega) ?_)
          | (refine Bd.nat (by omega) ?_)
          | (refine Bd.mk 0 rfl (by omega) ?_)
          | (refine Bd.mk 1 rfl (by omega) ?_)
          | (refine Bd.int (by omega) (by omega) ?_)
          | (refine Len.mk (by omega) ?_)
          | (refine Len.mk (by simp only [List.length_cons, List.length_nil]; omega) ?_)
          | (refine Ltn.mk (by omega) ?_)
          | (refine Both.mk ?_ ?_)
          | (refine (rstep_v hv' _ _ _ _).mono ?_; rintro _ _ _ ⟨rfl, rfl, rfl⟩)
          | (refine And.intro rfl ?_)
          | (refine Br.any (fun _ => ?_) (fun _ => ?_)))
      all_goals (conv => whnf)
      · refine ⟨l.length - (i + 1), i + 1, by omega, ⟨rfl, by omega⟩, ?_⟩
        have e := runs_snoc x (l.take i) (gF l i)
        rw [← take_snocF l i (by omega), if_pos ‹_›] at e
        simp only [e]
        refine weak_by (fun env own => [(0, some 0), (2, ekey env 6), (1, some 1)]) ?_ ?_ rfl
        · repeat' (first | exact VRen.vec rfl rfl (by rw [List.length_append]; rfl) | (refine ⟨by rw [List.length_append]; exact Nat.le_refl _, rfl, fun i j hi hj => ?_⟩) | exact vle_appI _ _ _ _ hi hj | exact True.intro | (refine ⟨⟨_, rfl, ?_⟩, ?_⟩) | exact VRen.kf rfl | exact VRen.int rfl | exact VRen.int (by omega) | exact VRen.loc rfl | exact VRen.vec rfl rfl rfl | exact VRen.vec rfl (by omega) (by omega) | exact VRen.nil rfl rfl | exact VRen.nil rfl (by omega) | exact VRen.fz rfl (fun h => h) (fun _ _ _ _ => VLe.rfl) | (refine ⟨Nat.le_refl _, rfl, fun i j hi hj => ?_⟩) | (refine ⟨by omega, rfl, fun i j hi hj => ?_⟩) | exact VLe.rfl | (refine ⟨⟨_, _, rfl⟩, ?_⟩) | (refine And.intro ?_ ?_))
        · repeat' (first | exact VRen.vec rfl rfl (by rw [List.length_append]; rfl) | (refine ⟨by rw [List.length_append]; exact Nat.le_refl _, rfl, fun i j hi hj => ?_⟩) | exact vle_appI _ _ _ _ hi hj | exact True.intro | (refine ⟨⟨_, rfl, ?_⟩, ?_⟩) | exact VRen.kf rfl | exact VRen.int rfl | exact VRen.int (by omega) | exact VRen.loc rfl | exact VRen.vec rfl rfl rfl | exact VRen.vec rfl (by omega) (by omega) | exact VRen.nil rfl rfl | exact VRen.nil rfl (by omega) | exact VRen.fz rfl (fun h => h) (fun _ _ _ _ => VLe.rfl) | (refine ⟨Nat.le_refl _, rfl, fun i j hi hj => ?_⟩) | (refine ⟨by omega, rfl, fun i j hi hj => ?_⟩) | exact VLe.rfl | (refine ⟨⟨_, _, rfl⟩, ?_⟩) | (refine And.intro ?_ ?_))
      · refine ⟨l.length - (i + 1), i + 1, by omega, ⟨rfl, by omega⟩, ?_⟩
        have e := runs_snoc x (l.take i) (gF l i)
        rw [← take_snocF l i (by omega), if_neg (by rw [show ((x.runs (l.take i)).1.step (gF l i).1 (gF l i).2).2.2 = false by assumption]; decide)] at e
        simp only [e]
        refine weak_by (fun env own => [(0, some 0), (2, ekey env 6), (1, some 1)]) ?_ ?_ rfl
        · repeat' (first | exact True.intro | (refine ⟨⟨_, rfl, ?_⟩, ?_⟩) | exact VRen.kf rfl | exact VRen.int rfl | exact VRen.int (by omega) | exact VRen.loc rfl | exact VRen.vec rfl rfl rfl | exact VRen.vec rfl (by omega) (by omega) | exact VRen.nil rfl rfl | exact VRen.nil rfl (by omega) | exact VRen.fz rfl (fun h => h) (fun _ _ _ _ => VLe.rfl) | (refine ⟨Nat.le_refl _, rfl, fun i j hi hj => ?_⟩) | (refine ⟨by omega, rfl, fun i j hi hj => ?_⟩) | exact VLe.rfl | (refine ⟨⟨_, _, rfl⟩, ?_⟩) | (refine And.intro ?_ ?_))
        · repeat' (first | exact True.intro | (refine ⟨⟨_, rfl, ?_⟩, ?_⟩) | exact VRen.kf rfl | exact VRen.int rfl | exact VRen.int (by omega) | exact VRen.loc rfl | exact VRen.vec rfl rfl rfl | exact VRen.vec rfl (by omega) (by omega) | exact VRen.nil rfl rfl | exact VRen.nil rfl (by omega) | exact VRen.fz rfl (fun h => h) (fun _ _ _ _ => VLe.rfl) | (refine ⟨Nat.le_refl _, rfl, fun i j hi hj => ?_⟩) | (refine ⟨by omega, rfl, fun i j hi hj => ?_⟩) | exact VLe.rfl | (refine ⟨⟨_, _, rfl⟩, ?_⟩) | (refine And.intro ?_ ?_))
      · rw [DL.run, if_pos ⟨hv, by omega⟩]
        rw [List.take_of_length_le (by omega)]
        exact VLe.rfl
  · simp only [Bool.not_eq_true] at hv
    repeat' ((conv => whnf); first
        | (refine Br.tt ?_)
        | (refine Br.ff ?_)
        | (refine Br.dec (fun _ => ?_) (fun _ => ?_) <;> first | (exfalso; omega) | skip)
        | (refine Br.beq (fun _ => ?_) (fun _ => ?_) <;> first | (exfalso; omega) | skip)
        | (refine Br.bne (fun _ => ?_) (fun _ => ?_) <;> first | (exfalso; omega) | skip)
        | (refine Br.nbeq (fun _ => ?_) (fun _ => ?_) <;> first | (exfalso; omega) | skip)
        | (refine Br.nble (fun _ => ?_) (fun _ => ?_) <;> first | (exfalso; omega) | skip)
        | (refine Ar.i64 (by omega) (by omega) ?_)
        | (refine Ar.u32 (by omega) (by omega) ?_)
        | (refine Sv.mk _ rfl ?_)
        | (refine Nz.mk (by omega) ?_)
        | (refine Nn.mk (by omega) ?_)
        | (refine Ix.nat (by omega) ?_)
        | (refine Ix.ofNat (by omega) ?_)
        | (refine Ix.mk 0 rfl (by omega) ?_)
        | (refine Ix.mk 1 rfl (by omega) ?_)
        | (refine Ix.int (by omega) (by omega) ?_)
        | (refine Bd.nat (by omega) ?_)
        | (refine Bd.mk 0 rfl (by omega) ?_)
        | (refine Bd.mk 1 rfl (by omega) ?_)
        | (refine Bd.int (by omega) (by omega) ?_)
        | (refine Len.mk (by omega) ?_)
        | (refine Len.mk (by simp only [List.length_cons, List.length_nil]; omega) ?_)
        | (refine Ltn.mk (by omega) ?_)
        | (refine Both.mk ?_ ?_)
        | (refine call_new rfl ((rvalid_ok x).mono ?_); rintro _ _ _ rfl; rw [hv])
        | (refine Br.any (fun _ => ?_) (fun _ => ?_)))
    all_goals (conv => whnf)
    · rw [DL.run, if_neg (by rw [hv]; simp)]
      repeat' (first | exact True.intro | exact VLe.rfl | exact VLe.int rfl | exact VLe.int (by omega) | (refine VLe.tup ?_) | (refine VLe.agg ?_) | exact VLe.nilfz rfl | exact VLe.nilfz (by omega) | (refine VLe.fz rfl (fun h => h) (fun i j hi hj => ?_)) | (refine VLe.fz (by omega) (fun h => h) (fun i j hi hj => ?_)) | (refine And.intro ?_ ?_))
end Go.Proofs.Ytadefbamjaajfaa
