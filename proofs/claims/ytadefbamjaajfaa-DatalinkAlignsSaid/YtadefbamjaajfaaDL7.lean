import Derived.Test.YtadefbamjaajfaaDL6
import Derived.Test.YtadefbamjaajfaaEngR
namespace Go.Proofs.Ytadefbamjaajfaa
open Go.Eng
set_option maxRecDepth 100000
set_option linter.unusedVariables false

def ev1 (l : List (Int × Int)) (i : Nat) : List (Int × Int) := if i < l.length ∧ 0 < (gF l i).1 then [(1 + (gF l i).1.tmod 5, (gF l i).2 % 4)] else []
def evs (l : List (Int × Int)) : Nat → List (Int × Int)
  | 0 => []
  | i + 1 => evs l i ++ ev1 l i ++ [(1 + ((i : Int) + 1).tmod 3, 0)]

theorem evs_len (l : List (Int × Int)) (i : Nat) : (evs l i).length ≤ 2 * i := by
  induction i with
  | zero => simp [evs]
  | succ i ih =>
    simp only [evs, ev1, List.length_append, List.length_cons, List.length_nil]
    split <;> simp <;> omega

theorem vF_app_lt (l : List (Int × Int)) (x : Int × Int) (i j : Nat) (h : i < l.length) : vF (l ++ [x]) i j = vF l i j := by
  simp only [vF, gF, getD_append, if_pos h]

theorem vle_app2F (l : List (Int × Int)) (a b c d : Int) (n i j : Nat) (hn : n = l.length) (hi : i < n + 1 + 1) (hj : j < 2) :
    VLe (fapp (fapp (vF l) n (tab [[.int .i64 a, .int .i64 b]])) (n + 1) (tab [[.int .i64 c, .int .i64 d]]) i j) (vF (l ++ [(a, b)] ++ [(c, d)]) i j) := by
  by_cases h : i < n + 1
  · rw [fapp_lt h, vF_app_lt _ _ _ _ (by simp; omega)]
    exact vle_appF2 l a b n i j hn h hj
  · apply VLe.of_eq
    rw [fapp_ge h]
    have hi' : i = (l ++ [(a, b)]).length := by simp; omega
    have : i - (n + 1) = 0 := by omega
    rw [this]
    obtain rfl | rfl : j = 0 ∨ j = 1 := by omega
    · simp only [vF, gF, getD_append, hi', if_neg (Nat.lt_irrefl _), if_true]; simp [tab]
    · simp only [vF, gF, getD_append, hi', if_neg (Nat.lt_irrefl _), if_true]; simp [tab]

theorem events_ok (l : List (Int × Int)) (n : Nat) (hn : n ≤ 1000) : Ret Try.prog 13 [.fz l.length 2 false (vF l), .int .i64 n] (.fz (evs l n).length 2 false (vF (evs l n))) := by
  refine ret_frz rfl ?_
  refine fn_rule mixed Try.func13 rfl hc13 hr13 rfl ?_
  repeat' ((conv => whnf); first
      | (refine Br.tt ?_)
      | (refine Br.ff ?_)
      | (refine Br.dec (fun _ => ?_) (fun _ => ?_) <;> first | (exfalso; omega) | skip)
      | (refine Br.beq (fun _ => ?_) (fun _ => ?_) <;> first | (exfalso; omega) | skip)
      | (refine Br.bne (fun _ => ?_) (fun _ => ?_) <;> first | (exfalso; omega) | skip)
      | (refine Br.nbeq (fun _ => ?_) (fun _ => ?_) <;> first | (exfalso; omega) | skip)
      | (refine Br.nble (fun _ => ?_) (fun _ => ?_) <;> first | (exfalso; omega) | skip)
      | (refine Ar.i64 (by omega) (by omega) ?_)
      | (refine Ar.u32 (by omega) (by omega) ?_)
      | (refine Sv.mk _ rfl ?_)
      | (refine Nz.mk (by omega) ?_)
      | (refine Nn.mk (by omega) ?_)
      | (refine Ix.nat (by omega) ?_)
      | (refine Ix.ofNat (by omega) ?_)
      | (refine Ix.mk 0 rfl (by omega) ?_)
      | (refine Ix.mk 1 rfl (by omega) ?_)
      | (refine Ix.int (by omega) (by omega) ?_)
      | (refine Bd.nat (by omega) ?_)
      | (refine Bd.mk 0 rfl (by omega) ?_)
      | (refine Bd.mk 1 rfl (by omega) ?_)
      | (refine Bd.int (by omega) (by omega) ?_)
      | (refine Len.mk (by omega) ?_)
      | (refine Len.mk (by simp only [List.length_cons, List.length_nil]; omega) ?_)
      | (refine Ltn.mk (by omega) ?_)
      | (refine Both.mk ?_ ?_)
      | (refine Br.any (fun _ => ?_) (fun _ => ?_)))
  all_goals (conv => whnf)
  refine loop_w mixed [0, 1] [0] [1, 2, 3, 4, 5, 6, 7, 8, 9, 10, 11, 12, 13, 14, 15, 16, 17, 18, 19, 20, 21, 22, 23, 24, 25, 26, 27, 28, 29] [0]
    (fun i : Nat => [(6, .int .i64 i), (5, .vec 0 2 0 (evs l i).length)])
    (fun i => [(0, .vec (evs l i).length 2 (vF (evs l i)))])
    (fun k i => k = n - i ∧ i ≤ n) n 0 ⟨rfl, Nat.zero_le _⟩ rfl (fun _ => rfl) ?_ ?_
  · refine weak_by (fun _ _ => [(0, none)]) ?_ ?_ rfl
    · repeat' (first | exact True.intro | (refine ⟨⟨_, rfl, ?_⟩, ?_⟩) | exact VRen.kf rfl | exact VRen.int rfl | exact VRen.int (by omega) | exact VRen.loc rfl | exact VRen.vec rfl rfl rfl | exact VRen.vec rfl (by omega) (by omega) | exact VRen.nil rfl rfl | exact VRen.nil rfl (by omega) | exact VRen.fz rfl (fun h => h) (fun _ _ _ _ => VLe.rfl) | (refine ⟨Nat.le_refl _, rfl, fun i j hi hj => ?_⟩) | (refine ⟨by omega, rfl, fun i j hi hj => ?_⟩) | exact VLe.rfl | (refine ⟨⟨_, _, rfl⟩, ?_⟩) | (refine And.intro ?_ ?_))
    · repeat' (first | exact True.intro | (refine ⟨⟨_, rfl, ?_⟩, ?_⟩) | exact VRen.kf rfl | exact VRen.int rfl | exact VRen.int (by omega) | exact VRen.loc rfl | exact VRen.vec rfl rfl rfl | exact VRen.vec rfl (by omega) (by omega) | exact VRen.nil rfl rfl | exact VRen.nil rfl (by omega) | exact VRen.fz rfl (fun h => h) (fun _ _ _ _ => VLe.rfl) | (refine ⟨Nat.le_refl _, rfl, fun i j hi hj => ?_⟩) | (refine ⟨by omega, rfl, fun i j hi hj => ?_⟩) | exact VLe.rfl | (refine ⟨⟨_, _, rfl⟩, ?_⟩) | (refine And.intro ?_ ?_))
  rintro k i ⟨hk, hi⟩
  have hL := evs_len l i
  have t1 := Int.tmod_nonneg 3 (show 0 ≤ (i : Int) + 1 by omega)
  have t2 := Int.tmod_lt_of_pos ((i : Int) + 1) (show (0 : Int) < 3 by omega)
  have t3 := Int.tmod_lt_of_pos (gF l i).1 (show (0 : Int) < 5 by omega)
  have t4 := Int.lt_tmod_of_pos (gF l i).1 (show (0 : Int) < 5 by omega)
  repeat' ((conv => whnf); first
      | (refine Br.tt ?_)
      | (refine Br.ff ?_)
      | (refine Br.dec (fun _ => ?_) (fun _ => ?_) <;> first | (exfalso; omega) | skip)
      | (refine Br.beq (fun _ => ?_) (fun _ => ?_) <;> first | (exfalso; omega) | skip)
      | (refine Br.bne (fun _ => ?_) (fun _ => ?_) <;> first | (exfalso; omega) | skip)
      | (refine Br.nbeq (fun _ => ?_) (fun _ => ?_) <;> first | (exfalso; omega) | skip)
      | (refine Br.nble (fun _ => ?_) (fun _ => ?_) <;> first | (exfalso; omega) | skip)
      | (refine Ar.i64 (by omega) (by omega) ?_)
      | (refine Ar.u32 (by omega) (by omega) ?_)
      | (refine Sv.mk _ rfl ?_)
      | (refine Nz.mk (by omega) ?_)
      | (refine Nn.mk (by omega) ?_)
      | (refine Ix.nat (by omega) ?_)
      | (refine Ix.ofNat (by omega) ?_)
      | (refine Ix.mk 0 rfl (by omega) ?_)
      | (refine Ix.mk 1 rfl (by omega) ?_)
      | (refine Ix.int (by omega) (by omega) ?_)
      | (refine Bd.nat (by omega) ?_)
      | (refine Bd.mk 0 rfl (by omega) ?_)
      | (refine Bd.mk 1 rfl (by omega) ?_)
      | (refine Bd.int (by omega) (by omega) ?_)
      | (refine Len.mk (by omega) ?_)
      | (refine Len.mk (by simp only [List.length_cons, List.length_nil]; omega) ?_)
      | (refine Ltn.mk (by omega) ?_)
      | (refine Both.mk ?_ ?_)
      | (refine (wthn _ _ (by omega) (by omega) _ _).mono ?_; rintro _ _ _ ⟨rfl, rfl, rfl⟩)
      | (refine And.intro rfl ?_)
      | (refine Br.any (fun _ => ?_) (fun _ => ?_)))
  all_goals (conv => whnf)
  · refine ⟨n - (i + 1), i + 1, by omega, ⟨rfl, by omega⟩, ?_⟩
    have e : evs l (i + 1) = (evs l i ++ [(1 + (gF l i).1.tmod 5, (gF l i).2 % 4)]) ++ [(1 + ((i : Int) + 1).tmod 3, 0)] := by rw [evs, ev1, if_pos (by omega)]
    simp only [e]
    refine weak_by (fun env own => [(0, ekey env 5)]) ?_ ?_ rfl
    · repeat' (first | exact VRen.vec rfl rfl (by simp only [List.length_append]; rfl) | (refine ⟨by simp only [List.length_append]; exact Nat.le_refl _, rfl, fun i j hi hj => ?_⟩) | exact vle_app2F _ _ _ _ _ _ _ _ rfl (by simpa using hi) hj | exact True.intro | (refine ⟨⟨_, rfl, ?_⟩, ?_⟩) | exact VRen.kf rfl | exact VRen.int rfl | exact VRen.int (by omega) | exact VRen.loc rfl | exact VRen.vec rfl rfl rfl | exact VRen.vec rfl (by omega) (by omega) | exact VRen.nil rfl rfl | exact VRen.nil rfl (by omega) | exact VRen.fz rfl (fun h => h) (fun _ _ _ _ => VLe.rfl) | (refine ⟨Nat.le_refl _, rfl, fun i j hi hj => ?_⟩) | (refine ⟨by omega, rfl, fun i j hi hj => ?_⟩) | exact VLe.rfl | (refine ⟨⟨_, _, rfl⟩, ?_⟩) | (refine And.intro ?_ ?_))
    · repeat' (first | exact VRen.vec rfl rfl (by simp only [List.length_append]; rfl) | (refine ⟨by simp only [List.length_append]; exact Nat.le_refl _, rfl, fun i j hi hj => ?_⟩) | exact vle_app2F _ _ _ _ _ _ _ _ rfl (by simpa using hi) hj | exact True.intro | (refine ⟨⟨_, rfl, ?_⟩, ?_⟩) | exact VRen.kf rfl | exact VRen.int rfl | exact VRen.int (by omega) | exact VRen.loc rfl | exact VRen.vec rfl rfl rfl | exact VRen.vec rfl (by omega) (by omega) | exact VRen.nil rfl rfl | exact VRen.nil rfl (by omega) | exact VRen.fz rfl (fun h => h) (fun _ _ _ _ => VLe.rfl) | (refine ⟨Nat.le_refl _, rfl, fun i j hi hj => ?_⟩) | (refine ⟨by omega, rfl, fun i j hi hj => ?_⟩) | exact VLe.rfl | (refine ⟨⟨_, _, rfl⟩, ?_⟩) | (refine And.intro ?_ ?_))
  · refine ⟨n - (i + 1), i + 1, by omega, ⟨rfl, by omega⟩, ?_⟩
    have e : evs l (i + 1) = evs l i ++ [(1 + ((i : Int) + 1).tmod 3, 0)] := by rw [evs, ev1, if_neg (by omega), List.append_nil]
    simp only [e]
    refine weak_by (fun env own => [(0, ekey env 5)]) ?_ ?_ rfl
    · repeat' (first | exact VRen.vec rfl rfl (by simp only [List.length_append]; rfl) | (refine ⟨by simp only [List.length_append]; exact Nat.le_refl _, rfl, fun i j hi hj => ?_⟩) | exact vle_appF2 _ _ _ _ _ _ rfl (by simpa using hi) hj | exact True.intro | (refine ⟨⟨_, rfl, ?_⟩, ?_⟩) | exact VRen.kf rfl | exact VRen.int rfl | exact VRen.int (by omega) | exact VRen.loc rfl | exact VRen.vec rfl rfl rfl | exact VRen.vec rfl (by omega) (by omega) | exact VRen.nil rfl rfl | exact VRen.nil rfl (by omega) | exact VRen.fz rfl (fun h => h) (fun _ _ _ _ => VLe.rfl) | (refine ⟨Nat.le_refl _, rfl, fun i j hi hj => ?_⟩) | (refine ⟨by omega, rfl, fun i j hi hj => ?_⟩) | exact VLe.rfl | (refine ⟨⟨_, _, rfl⟩, ?_⟩) | (refine And.intro ?_ ?_))
    · repeat' (first | exact VRen.vec rfl rfl (by simp only [List.length_append]; rfl) | (refine ⟨by simp only [List.length_append]; exact Nat.le_refl _, rfl, fun i j hi hj => ?_⟩) | exact vle_appF2 _ _ _ _ _ _ rfl (by simpa using hi) hj | exact True.intro | (refine ⟨⟨_, rfl, ?_⟩, ?_⟩) | exact VRen.kf rfl | exact VRen.int rfl | exact VRen.int (by omega) | exact VRen.loc rfl | exact VRen.vec rfl rfl rfl | exact VRen.vec rfl (by omega) (by omega) | exact VRen.nil rfl rfl | exact VRen.nil rfl (by omega) | exact VRen.fz rfl (fun h => h) (fun _ _ _ _ => VLe.rfl) | (refine ⟨Nat.le_refl _, rfl, fun i j hi hj => ?_⟩) | (refine ⟨by omega, rfl, fun i j hi hj => ?_⟩) | exact VLe.rfl | (refine ⟨⟨_, _, rfl⟩, ?_⟩) | (refine And.intro ?_ ?_))
  · refine ⟨n - (i + 1), i + 1, by omega, ⟨rfl, by omega⟩, ?_⟩
    have e : evs l (i + 1) = evs l i ++ [(1 + ((i : Int) + 1).tmod 3, 0)] := by rw [evs, ev1, if_neg (by omega), List.append_nil]
    simp only [e]
    refine weak_by (fun env own => [(0, ekey env 5)]) ?_ ?_ rfl
    · repeat' (first | exact VRen.vec rfl rfl (by simp only [List.length_append]; rfl) | (refine ⟨by simp only [List.length_append]; exact Nat.le_refl _, rfl, fun i j hi hj => ?_⟩) | exact vle_appF2 _ _ _ _ _ _ rfl (by simpa using hi) hj | exact True.intro | (refine ⟨⟨_, rfl, ?_⟩, ?_⟩) | exact VRen.kf rfl | exact VRen.int rfl | exact VRen.int (by omega) | exact VRen.loc rfl | exact VRen.vec rfl rfl rfl | exact VRen.vec rfl (by omega) (by omega) | exact VRen.nil rfl rfl | exact VRen.nil rfl (by omega) | exact VRen.fz rfl (fun h => h) (fun _ _ _ _ => VLe.rfl) | (refine ⟨Nat.le_refl _, rfl, fun i j hi hj => ?_⟩) | (refine ⟨by omega, rfl, fun i j hi hj => ?_⟩) | exact VLe.rfl | (refine ⟨⟨_, _, rfl⟩, ?_⟩) | (refine And.intro ?_ ?_))
    · repeat' (first | exact VRen.vec rfl rfl (by simp only [List.length_append]; rfl) | (refine ⟨by simp only [List.length_append]; exact Nat.le_refl _, rfl, fun i j hi hj => ?_⟩) | exact vle_appF2 _ _ _ _ _ _ rfl (by simpa using hi) hj | exact True.intro | (refine ⟨⟨_, rfl, ?_⟩, ?_⟩) | exact VRen.kf rfl | exact VRen.int rfl | exact VRen.int (by omega) | exact VRen.loc rfl | exact VRen.vec rfl rfl rfl | exact VRen.vec rfl (by omega) (by omega) | exact VRen.nil rfl rfl | exact VRen.nil rfl (by omega) | exact VRen.fz rfl (fun h => h) (fun _ _ _ _ => VLe.rfl) | (refine ⟨Nat.le_refl _, rfl, fun i j hi hj => ?_⟩) | (refine ⟨by omega, rfl, fun i j hi hj => ?_⟩) | exact VLe.rfl | (refine ⟨⟨_, _, rfl⟩, ?_⟩) | (refine And.intro ?_ ?_))
  · obtain rfl : i = n := by omega
    exact VLe.rfl

theorem gF_take (l : List (Int × Int)) (i : Nat) (h : i < l.length) : l.take (i + 1) = l.take i ++ [gF l i] := take_snocF l i h

theorem sameL_ok (a b : DL) (ha : a.fr.length ≤ 1000) (hk : a.ak.length ≤ 1000) : Ret Try.prog 15 [a.v, b.v] (.bool (decide (a = b))) := by
  refine ret_frz rfl ?_
  refine fn_rule mixed Try.func15 rfl hc15 hr15 rfl ?_
  repeat' ((conv => whnf); first
      | (refine Br.tt ?_)
      | (refine Br.ff ?_)
      | (refine Br.dec (fun _ => ?_) (fun _ => ?_) <;> first | (exfalso; omega) | skip)
      | (refine Br.beq (fun _ => ?_) (fun _ => ?_) <;> first | (exfalso; omega) | skip)
      | (refine Br.bne (fun _ => ?_) (fun _ => ?_) <;> first | (exfalso; omega) | skip)
      | (refine Br.nbeq (fun _ => ?_) (fun _ => ?_) <;> first | (exfalso; omega) | skip)
      | (refine Br.nble (fun _ => ?_) (fun _ => ?_) <;> first | (exfalso; omega) | skip)
      | (refine Ar.i64 (by omega) (by omega) ?_)
      | (refine Ar.u32 (by omega) (by omega) ?_)
      | (refine Sv.mk _ rfl ?_)
      | (refine Nz.mk (by omega) ?_)
      | (refine Nn.mk (by omega) ?_)
      | (refine Ix.nat (by omega) ?_)
      | (refine Ix.ofNat (by omega) ?_)
      | (refine Ix.mk 0 rfl (by omega) ?_)
      | (refine Ix.mk 1 rfl (by omega) ?_)
      | (refine Ix.int (by omega) (by omega) ?_)
      | (refine Bd.nat (by omega) ?_)
      | (refine Bd.mk 0 rfl (by omega) ?_)
      | (refine Bd.mk 1 rfl (by omega) ?_)
      | (refine Bd.int (by omega) (by omega) ?_)
      | (refine Len.mk (by omega) ?_)
      | (refine Len.mk (by simp only [List.length_cons, List.length_nil]; omega) ?_)
      | (refine Ltn.mk (by omega) ?_)
      | (refine Both.mk ?_ ?_)
      | (refine (same_ok _ _ (by omega) _ _).mono ?_; rintro _ _ _ ⟨rfl, rfl, rfl⟩)
      | (refine Br.any (fun _ => ?_) (fun _ => ?_)))
  all_goals (conv => whnf)
  all_goals try (exact VLe.bool (by symm; rw [decide_eq_false_iff_not]; intro h; subst h; simp at *))
  refine loop_r mixed [2, 3] (fun i : Nat => [(5, .int .i64 i)]) (fun n i => n = a.fr.length - i ∧ i ≤ a.fr.length ∧ a.fr.take i = b.fr.take i) a.fr.length 0 ⟨rfl, Nat.zero_le _, by simp⟩ ?_ ?_
  · refine weak_by (fun _ _ => [(0, some 0), (1, some 1)]) ?_ ?_ rfl
    · repeat' (first | exact True.intro | (refine ⟨⟨_, rfl, ?_⟩, ?_⟩) | exact VRen.kf rfl | exact VRen.int rfl | exact VRen.int (by omega) | exact VRen.loc rfl | exact VRen.vec rfl rfl rfl | exact VRen.vec rfl (by omega) (by omega) | exact VRen.nil rfl rfl | exact VRen.nil rfl (by omega) | exact VRen.fz rfl (fun h => h) (fun _ _ _ _ => VLe.rfl) | (refine ⟨Nat.le_refl _, rfl, fun i j hi hj => ?_⟩) | (refine ⟨by omega, rfl, fun i j hi hj => ?_⟩) | exact VLe.rfl | (refine ⟨⟨_, _, rfl⟩, ?_⟩) | (refine And.intro ?_ ?_))
    · repeat' (first | exact True.intro | (refine ⟨⟨_, rfl, ?_⟩, ?_⟩) | exact VRen.kf rfl | exact VRen.int rfl | exact VRen.int (by omega) | exact VRen.loc rfl | exact VRen.vec rfl rfl rfl | exact VRen.vec rfl (by omega) (by omega) | exact VRen.nil rfl rfl | exact VRen.nil rfl (by omega) | exact VRen.fz rfl (fun h => h) (fun _ _ _ _ => VLe.rfl) | (refine ⟨Nat.le_refl _, rfl, fun i j hi hj => ?_⟩) | (refine ⟨by omega, rfl, fun i j hi hj => ?_⟩) | exact VLe.rfl | (refine ⟨⟨_, _, rfl⟩, ?_⟩) | (refine And.intro ?_ ?_))
  · rintro n i ⟨hn, hi, he⟩
    repeat' ((conv => whnf); first
        | (refine Br.tt ?_)
        | (refine Br.ff ?_)
        | (refine Br.dec (fun _ => ?_) (fun _ => ?_) <;> first | (exfalso; omega) | skip)
        | (refine Br.beq (fun _ => ?_) (fun _ => ?_) <;> first | (exfalso; omega) | skip)
        | (refine Br.bne (fun _ => ?_) (fun _ => ?_) <;> first | (exfalso; omega) | skip)
        | (refine Br.nbeq (fun _ => ?_) (fun _ => ?_) <;> first | (exfalso; omega) | skip)
        | (refine Br.nble (fun _ => ?_) (fun _ => ?_) <;> first | (exfalso; omega) | skip)
        | (refine Ar.i64 (by omega) (by omega) ?_)
        | (refine Ar.u32 (by omega) (by omega) ?_)
        | (refine Sv.mk _ rfl ?_)
        | (refine Nz.mk (by omega) ?_)
        | (refine Nn.mk (by omega) ?_)
        | (refine Ix.nat (by omega) ?_)
        | (refine Ix.ofNat (by omega) ?_)
        | (refine Ix.mk 0 rfl (by omega) ?_)
        | (refine Ix.mk 1 rfl (by omega) ?_)
        | (refine Ix.int (by omega) (by omega) ?_)
        | (refine Bd.nat (by omega) ?_)
        | (refine Bd.mk 0 rfl (by omega) ?_)
        | (refine Bd.mk 1 rfl (by omega) ?_)
        | (refine Bd.int (by omega) (by omega) ?_)
        | (refine Len.mk (by omega) ?_)
        | (refine Len.mk (by simp only [List.length_cons, List.length_nil]; omega) ?_)
        | (refine Ltn.mk (by omega) ?_)
        | (refine Both.mk ?_ ?_)
        | (refine Br.any (fun _ => ?_) (fun _ => ?_)))
    all_goals (conv => whnf)
    · rename_i hne
      exact VLe.bool (by
        symm; rw [decide_eq_false_iff_not]; intro h; subst h; simp at hne)
    · rename_i hq
      refine ⟨a.fr.length - (i + 1), i + 1, by omega, ⟨rfl, by omega, ?_⟩, ?_⟩
      · rw [take_snocF a.fr i (by omega), take_snocF b.fr i (by omega), he]
        congr 2
        simp at hq
        exact Prod.ext hq.1 hq.2
      · refine weak_by (fun _ _ => [(0, some 0), (1, some 1)]) ?_ ?_ rfl
        · repeat' (first | exact True.intro | (refine ⟨⟨_, rfl, ?_⟩, ?_⟩) | exact VRen.kf rfl | exact VRen.int rfl | exact VRen.int (by omega) | exact VRen.loc rfl | exact VRen.vec rfl rfl rfl | exact VRen.vec rfl (by omega) (by omega) | exact VRen.nil rfl rfl | exact VRen.nil rfl (by omega) | exact VRen.fz rfl (fun h => h) (fun _ _ _ _ => VLe.rfl) | (refine ⟨Nat.le_refl _, rfl, fun i j hi hj => ?_⟩) | (refine ⟨by omega, rfl, fun i j hi hj => ?_⟩) | exact VLe.rfl | (refine ⟨⟨_, _, rfl⟩, ?_⟩) | (refine And.intro ?_ ?_))
        · repeat' (first | exact True.intro | (refine ⟨⟨_, rfl, ?_⟩, ?_⟩) | exact VRen.kf rfl | exact VRen.int rfl | exact VRen.int (by omega) | exact VRen.loc rfl | exact VRen.vec rfl rfl rfl | exact VRen.vec rfl (by omega) (by omega) | exact VRen.nil rfl rfl | exact VRen.nil rfl (by omega) | exact VRen.fz rfl (fun h => h) (fun _ _ _ _ => VLe.rfl) | (refine ⟨Nat.le_refl _, rfl, fun i j hi hj => ?_⟩) | (refine ⟨by omega, rfl, fun i j hi hj => ?_⟩) | exact VLe.rfl | (refine ⟨⟨_, _, rfl⟩, ?_⟩) | (refine And.intro ?_ ?_))
    · exact VLe.bool (by
        symm; rw [decide_eq_true_eq]
        rw [List.take_of_length_le (by omega), List.take_of_length_le (by omega)] at he
        cases a; cases b; simp_all)

def kx : DL := ⟨1, 4, 0, 7, 0, [], []⟩
def kl : List (Int × Int) := [(1, 0), (2, 0), (3, 0), (1, 0), (2, 0)]
theorem kl_le (i j : Nat) (hi : i < 5) (hj : j < 2) : VLe (tab [[.int .i64 1, .int .i64 0], [.int .i64 2, .int .i64 0], [.int .i64 3, .int .i64 0], [.int .i64 1, .int .i64 0], [.int .i64 2, .int .i64 0]] i j) (vF kl i j) := by
  apply VLe.of_eq
  obtain rfl | rfl : j = 0 ∨ j = 1 := by omega
  all_goals (obtain rfl | rfl | rfl | rfl | rfl : i = 0 ∨ i = 1 ∨ i = 2 ∨ i = 3 ∨ i = 4 := by omega) <;> rfl

theorem krun : kx.run kl = (⟨1, 4, 1, 8, 1, [], [1]⟩, [8]) := by decide +kernel

theorem known_ok : Ret Try.prog 9 [] (.bool true) := by
  refine ret_frz rfl ?_
  refine fn_rule mixed Try.func9 rfl hc9 hr9 rfl ?_
  repeat' ((conv => whnf); first
      | (refine Br.tt ?_)
      | (refine Br.ff ?_)
      | (refine Br.dec (fun _ => ?_) (fun _ => ?_) <;> first | (exfalso; omega) | skip)
      | (refine Br.beq (fun _ => ?_) (fun _ => ?_) <;> first | (exfalso; omega) | skip)
      | (refine Br.bne (fun _ => ?_) (fun _ => ?_) <;> first | (exfalso; omega) | skip)
      | (refine Br.nbeq (fun _ => ?_) (fun _ => ?_) <;> first | (exfalso; omega) | skip)
      | (refine Br.nble (fun _ => ?_) (fun _ => ?_) <;> first | (exfalso; omega) | skip)
      | (refine Ar.i64 (by omega) (by omega) ?_)
      | (refine Ar.u32 (by omega) (by omega) ?_)
      | (refine Sv.mk _ rfl ?_)
      | (refine Nz.mk (by omega) ?_)
      | (refine Nn.mk (by omega) ?_)
      | (refine Ix.nat (by omega) ?_)
      | (refine Ix.ofNat (by omega) ?_)
      | (refine Ix.mk 0 rfl (by omega) ?_)
      | (refine Ix.mk 1 rfl (by omega) ?_)
      | (refine Ix.int (by omega) (by omega) ?_)
      | (refine Bd.nat (by omega) ?_)
      | (refine Bd.mk 0 rfl (by omega) ?_)
      | (refine Bd.mk 1 rfl (by omega) ?_)
      | (refine Bd.int (by omega) (by omega) ?_)
      | (refine Len.mk (by omega) ?_)
      | (refine Len.mk (by simp only [List.length_cons, List.length_nil]; omega) ?_)
      | (refine Ltn.mk (by omega) ?_)
      | (refine Both.mk ?_ ?_)
      | (refine Br.any (fun _ => ?_) (fun _ => ?_)))
  all_goals (conv => whnf)
  refine call_frz [0] (run_ok kx kl) ?_ ?_
  · refine ⟨by decide, ?_⟩
    exact ⟨VLe.agg ⟨.rfl, .rfl, .rfl, .rfl, .rfl, VLe.nilfz rfl, VLe.nilfz rfl, True.intro⟩, VLe.fz rfl (fun h => h) (fun i j hi hj => kl_le i j hi hj), True.intro⟩
  rw [krun]
  repeat' ((conv => whnf); first
      | (refine Br.tt ?_)
      | (refine Br.ff ?_)
      | (refine Br.dec (fun _ => ?_) (fun _ => ?_) <;> first | (exfalso; omega) | skip)
      | (refine Br.beq (fun _ => ?_) (fun _ => ?_) <;> first | (exfalso; omega) | skip)
      | (refine Br.bne (fun _ => ?_) (fun _ => ?_) <;> first | (exfalso; omega) | skip)
      | (refine Br.nbeq (fun _ => ?_) (fun _ => ?_) <;> first | (exfalso; omega) | skip)
      | (refine Br.nble (fun _ => ?_) (fun _ => ?_) <;> first | (exfalso; omega) | skip)
      | (refine Ar.i64 (by omega) (by omega) ?_)
      | (refine Ar.u32 (by omega) (by omega) ?_)
      | (refine Sv.mk _ rfl ?_)
      | (refine Nz.mk (by omega) ?_)
      | (refine Nn.mk (by omega) ?_)
      | (refine Ix.nat (by omega) ?_)
      | (refine Ix.ofNat (by omega) ?_)
      | (refine Ix.mk 0 rfl (by omega) ?_)
      | (refine Ix.mk 1 rfl (by omega) ?_)
      | (refine Ix.int (by omega) (by omega) ?_)
      | (refine Bd.nat (by omega) ?_)
      | (refine Bd.mk 0 rfl (by omega) ?_)
      | (refine Bd.mk 1 rfl (by omega) ?_)
      | (refine Bd.int (by omega) (by omega) ?_)
      | (refine Len.mk (by omega) ?_)
      | (refine Len.mk (by simp only [List.length_cons, List.length_nil]; omega) ?_)
      | (refine Ltn.mk (by omega) ?_)
      | (refine Both.mk ?_ ?_)
      | (refine Br.any (fun _ => ?_) (fun _ => ?_)))
  all_goals (conv => whnf)
  refine call_frz [2] (same_ok [8] [8] (by decide)) ?_ ?_
  · refine ⟨by decide, ?_⟩
    exact ⟨VLe.rfl, VLe.fz rfl (fun h => h) (fun i j hi hj => by
      obtain rfl : i = 0 := by omega
      obtain rfl : j = 0 := by omega
      exact VLe.rfl), True.intro⟩
  rw [show decide (([8] : List Int) = [8]) = true from rfl]
  repeat' ((conv => whnf); first
      | (refine Br.tt ?_)
      | (refine Br.ff ?_)
      | (refine Br.dec (fun _ => ?_) (fun _ => ?_) <;> first | (exfalso; omega) | skip)
      | (refine Br.beq (fun _ => ?_) (fun _ => ?_) <;> first | (exfalso; omega) | skip)
      | (refine Br.bne (fun _ => ?_) (fun _ => ?_) <;> first | (exfalso; omega) | skip)
      | (refine Br.nbeq (fun _ => ?_) (fun _ => ?_) <;> first | (exfalso; omega) | skip)
      | (refine Br.nble (fun _ => ?_) (fun _ => ?_) <;> first | (exfalso; omega) | skip)
      | (refine Ar.i64 (by omega) (by omega) ?_)
      | (refine Ar.u32 (by omega) (by omega) ?_)
      | (refine Sv.mk _ rfl ?_)
      | (refine Nz.mk (by omega) ?_)
      | (refine Nn.mk (by omega) ?_)
      | (refine Ix.nat (by omega) ?_)
      | (refine Ix.ofNat (by omega) ?_)
      | (refine Ix.mk 0 rfl (by omega) ?_)
      | (refine Ix.mk 1 rfl (by omega) ?_)
      | (refine Ix.int (by omega) (by omega) ?_)
      | (refine Bd.nat (by omega) ?_)
      | (refine Bd.mk 0 rfl (by omega) ?_)
      | (refine Bd.mk 1 rfl (by omega) ?_)
      | (refine Bd.int (by omega) (by omega) ?_)
      | (refine Len.mk (by omega) ?_)
      | (refine Len.mk (by simp only [List.length_cons, List.length_nil]; omega) ?_)
      | (refine Ltn.mk (by omega) ?_)
      | (refine Both.mk ?_ ?_)
      | (refine Br.any (fun _ => ?_) (fun _ => ?_)))
  all_goals (conv => whnf)
  exact VLe.rfl

theorem link_valid (r : Raw) : r.link.valid = true := by
  have a1 := Int.emod_nonneg r.cap (show (4 : Int) ≠ 0 by omega)
  have a2 := Int.emod_lt_of_pos r.cap (show (0 : Int) < 4 by omega)
  have a3 := Int.emod_nonneg r.mod (show (4 : Int) ≠ 0 by omega)
  have a4 := Int.emod_lt_of_pos r.mod (show (0 : Int) < 4 by omega)
  have hC : r.Cap = 1 + r.cap % 4 := rfl
  have hM : r.Mod = 2 * r.Cap + 2 + r.mod % 4 := rfl
  have m0 : r.Mod ≠ 0 := by omega
  have m1 : 0 < r.Mod := by omega
  have b1 := Int.emod_nonneg r.label m0
  have b2 := Int.emod_lt_of_pos r.label m1
  have b3 := Int.emod_nonneg r.last m0
  have b4 := Int.emod_lt_of_pos r.last m1
  have b5 := Int.emod_nonneg r.item (show (1000 : Int) ≠ 0 by omega)
  have b6 := Int.emod_lt_of_pos r.item (show (0 : Int) < 1000 by omega)
  have l1 := frs_len r (min r.labels.length r.Cap.toNat)
  have l2 := aks_len r (min r.acks.length r.Cap.toNat)
  rw [valid_iff]
  refine ⟨by simp only [Raw.link]; omega, fun f hf => ?_, fun a ha => ?_⟩
  · simp only [Raw.link, Raw.frs, List.mem_map] at hf
    obtain ⟨i, _, rfl⟩ := hf
    have c1 := Int.emod_nonneg (gI r.labels i) m0
    have c2 := Int.emod_lt_of_pos (gI r.labels i) m1
    have c3 := Int.emod_nonneg (gI r.data i) (show (50 : Int) ≠ 0 by omega)
    have c4 := Int.emod_lt_of_pos (gI r.data i) (show (0 : Int) < 50 by omega)
    refine okF_true ?_ ?_
    · simp only [Raw.frame, Raw.link]; omega
    · simp only [Raw.frame]; split <;> omega
  · simp only [Raw.link, Raw.aks, List.mem_map] at ha
    obtain ⟨i, _, rfl⟩ := ha
    have c1 := Int.emod_nonneg (gI r.acks i) m0
    have c2 := Int.emod_lt_of_pos (gI r.acks i) m1
    exact decide_eq_true (by simp only [Raw.link]; omega)

theorem run_bounds {x : DL} (l : List (Int × Int)) (hv : x.valid = true) : (x.run l).1.fr.length ≤ 1000 ∧ (x.run l).1.ak.length ≤ 1000 ∧ (x.run l).2.length ≤ 65536 := by
  unfold DL.run
  split
  · rename_i h
    have := runs_valid hv l l.length
    rw [List.take_of_length_le (Nat.le_refl _)] at this
    have hb := valid_bounds this.1
    omega
  · simp [DL.zero]

theorem valid_ret (x : DL) : Ret Try.prog 14 [x.v] (.bool x.valid) := ret_frz rfl ((valid_ok x).mono (by rintro _ _ _ rfl; exact VLe.rfl))

theorem sameL_rfl (a : DL) (h1 : a.fr.length ≤ 1000) (h2 : a.ak.length ≤ 1000) : Ret Try.prog 15 [a.v, a.v] (.bool true) := by
  have := sameL_ok a a h1 h2
  rwa [decide_eq_true rfl] at this
theorem same_rfl (a : List Int) (h1 : a.length ≤ 65536) : Ret Try.prog 16 [.fz a.length 1 false (vI a), .fz a.length 1 false (vI a)] (.bool true) := by
  have := same_ok a a (by omega)
  rwa [decide_eq_true rfl] at this

theorem law3 (r : Raw) (l : List (Int × Int)) : Ret Try.prog 3 [r.v, .fz l.length 2 false (vF l)] (.bool true) := by
  have h0 := known_ok
  have h1 := link_ok r
  have h4 := events_ok l 60 (by decide)
  have hv := link_valid r
  revert h1 h4 hv
  generalize r.link = x
  generalize evs l 60 = e
  intro h1 h4 hv
  have b1 := run_bounds l hv
  have b2 := run_bounds e hv
  have h2 := run_ok x l
  have h3 := rruns_ok x l
  have h5 := run_ok x e
  have h6 := rruns_ok x e
  have h7 := valid_ret x
  rw [hv] at h7
  have h8 := sameL_rfl _ b1.1 b1.2.1
  have h9 := sameL_rfl _ b2.1 b2.2.1
  have h10 := same_rfl _ b1.2.2
  have h11 := same_rfl _ b2.2.2
  clear b1 b2
  revert h2 h3 h5 h6 h8 h9 h10 h11
  generalize x.run l = p
  generalize x.run e = q
  obtain ⟨p1, p2⟩ := p
  obtain ⟨q1, q2⟩ := q
  intro h2 h3 h5 h6 h8 h9 h10 h11
  simp only at h2 h3 h5 h6 h8 h9 h10 h11
  refine ret_frz rfl ?_
  refine fn_rule mixed Try.func3 rfl hc3 hr3 rfl ?_
  repeat' ((conv => whnf); first
      | (refine Br.tt ?_)
      | (refine Br.ff ?_)
      | (refine Br.dec (fun _ => ?_) (fun _ => ?_) <;> first | (exfalso; omega) | skip)
      | (refine Br.beq (fun _ => ?_) (fun _ => ?_) <;> first | (exfalso; omega) | skip)
      | (refine Br.bne (fun _ => ?_) (fun _ => ?_) <;> first | (exfalso; omega) | skip)
      | (refine Br.nbeq (fun _ => ?_) (fun _ => ?_) <;> first | (exfalso; omega) | skip)
      | (refine Br.nble (fun _ => ?_) (fun _ => ?_) <;> first | (exfalso; omega) | skip)
      | (refine Ar.i64 (by omega) (by omega) ?_)
      | (refine Ar.u32 (by omega) (by omega) ?_)
      | (refine Sv.mk _ rfl ?_)
      | (refine Nz.mk (by omega) ?_)
      | (refine Nn.mk (by omega) ?_)
      | (refine Ix.nat (by omega) ?_)
      | (refine Ix.ofNat (by omega) ?_)
      | (refine Ix.mk 0 rfl (by omega) ?_)
      | (refine Ix.mk 1 rfl (by omega) ?_)
      | (refine Ix.int (by omega) (by omega) ?_)
      | (refine Bd.nat (by omega) ?_)
      | (refine Bd.mk 0 rfl (by omega) ?_)
      | (refine Bd.mk 1 rfl (by omega) ?_)
      | (refine Bd.int (by omega) (by omega) ?_)
      | (refine Len.mk (by omega) ?_)
      | (refine Len.mk (by simp only [List.length_cons, List.length_nil]; omega) ?_)
      | (refine Ltn.mk (by omega) ?_)
      | (refine Both.mk ?_ ?_)
      | (refine (h0 _ _).mono ?_; rintro _ _ _ ⟨rfl, rfl, rfl⟩)
      | (refine (h1 _ _).mono ?_; rintro _ _ _ ⟨rfl, rfl, rfl⟩)
      | (refine (h2 _ _).mono ?_; rintro _ _ _ ⟨rfl, rfl, rfl⟩)
      | (refine (h3 _ _).mono ?_; rintro _ _ _ ⟨rfl, rfl, rfl⟩)
      | (refine (h4 _ _).mono ?_; rintro _ _ _ ⟨rfl, rfl, rfl⟩)
      | (refine (h5 _ _).mono ?_; rintro _ _ _ ⟨rfl, rfl, rfl⟩)
      | (refine (h6 _ _).mono ?_; rintro _ _ _ ⟨rfl, rfl, rfl⟩)
      | (refine (h7 _ _).mono ?_; rintro _ _ _ ⟨rfl, rfl, rfl⟩)
      | (refine (h8 _ _).mono ?_; rintro _ _ _ ⟨rfl, rfl, rfl⟩)
      | (refine (h9 _ _).mono ?_; rintro _ _ _ ⟨rfl, rfl, rfl⟩)
      | (refine (h10 _ _).mono ?_; rintro _ _ _ ⟨rfl, rfl, rfl⟩)
      | (refine (h11 _ _).mono ?_; rintro _ _ _ ⟨rfl, rfl, rfl⟩)
      | (refine And.intro rfl ?_)
      | (refine Br.any (fun _ => ?_) (fun _ => ?_)))
  all_goals (conv => whnf)
  all_goals exact VLe.rfl
end Go.Proofs.Ytadefbamjaajfaa
