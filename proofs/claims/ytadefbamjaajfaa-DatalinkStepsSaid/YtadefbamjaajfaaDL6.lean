import Derived.Test.YtadefbamjaajfaaDL5
namespace Go.Proofs.Ytadefbamjaajfaa
open Go.Eng
set_option maxRecDepth 100000
set_option linter.unusedVariables false

structure Raw where
  cap : Int
  mod : Int
  label : Int
  item : Int
  last : Int
  labels : List Int
  data : List Int
  acks : List Int

def Raw.v (r : Raw) : V := .agg [.int .i64 r.cap, .int .i64 r.mod, .int .i64 r.label, .int .i64 r.item, .int .i64 r.last, .fz r.labels.length 1 false (vI r.labels), .fz r.data.length 1 false (vI r.data), .fz r.acks.length 1 false (vI r.acks)]

def Raw.Cap (r : Raw) : Int := 1 + r.cap % 4
def Raw.Mod (r : Raw) : Int := 2 * r.Cap + 2 + r.mod % 4
def Raw.frame (r : Raw) (i : Nat) : Int × Int := (gI r.labels i % r.Mod, -1 - (if i < r.data.length then gI r.data i % 50 else 0))
def Raw.frs (r : Raw) (n : Nat) : List (Int × Int) := (List.range n).map r.frame
def Raw.aks (r : Raw) (n : Nat) : List Int := (List.range n).map fun i => gI r.acks i % r.Mod
def Raw.link (r : Raw) : DL := ⟨r.Cap, r.Mod, r.label % r.Mod, r.item % 1000, r.last % r.Mod, r.frs (min r.labels.length r.Cap.toNat), r.aks (min r.acks.length r.Cap.toNat)⟩

theorem wthn (v m : Int) (h1 : 1 ≤ m) (hm : m ≤ 9223372036854775807) : Ret Try.prog 17 [.int .i64 v, .int .i64 m] (.int .i64 (v % m)) := by
  have := wthn_ok v m hm
  rwa [if_neg (by omega)] at this

theorem frs_succ (r : Raw) (i : Nat) : r.frs (i + 1) = r.frs i ++ [r.frame i] := by simp [Raw.frs, List.range_succ]
theorem aks_succ (r : Raw) (i : Nat) : r.aks (i + 1) = r.aks i ++ [gI r.acks i % r.Mod] := by simp [Raw.aks, List.range_succ]
theorem frs_len (r : Raw) (i : Nat) : (r.frs i).length = i := by simp [Raw.frs]
theorem aks_len (r : Raw) (i : Nat) : (r.aks i).length = i := by simp [Raw.aks]

set_option maxHeartbeats 4000000 in
theorem link_ok (r : Raw) : Ret Try.prog 10 [r.v] r.link.v := by
  refine ret_frz rfl ?_
  refine fn_rule mixed Try.func10 rfl hc10 hr10 rfl ?_
  have a1 := Int.emod_nonneg r.cap (show (4 : Int) ≠ 0 by omega)
  have a2 := Int.emod_lt_of_pos r.cap (show (0 : Int) < 4 by omega)
  have a3 := Int.emod_nonneg r.mod (show (4 : Int) ≠ 0 by omega)
  have a4 := Int.emod_lt_of_pos r.mod (show (0 : Int) < 4 by omega)
  repeat' ((conv => whnf); first
      | (refine Br.tt ?_)
      | (refine Br.ff ?_)
      | (refine Br.dec (fun _ => ?_) (fun _ => ?_) <;> first | (exfalso; omega) | skip)
      | (refine Br.beq (fun _ => ?_) (fun _ => ?_) <;> first | (exfalso; omega) | skip)
      | (refine Br.bne (fun _ => ?_) (fun _ => ?_) <;> first | (exfalso; omega) | skip)
      | (refine Br.nbeq (fun _ => ?_) (fun _ => ?_) <;> first | (exfalso; omega) | skip)
      | (refine Br.nble (fun _ => ?_) (fun _ => ?_) <;> first | (exfalso; omega) | skip)
      | (refine Ar.i64 (by omega) (by omega) ?_)
      | (refine Ar.u32 (by omega) (by omega) ?_)
      | (refine Sv.mk _ rfl ?_)
      | (refine Nz.mk (by omega) ?_)
      | (refine Nn.mk (by omega) ?_)
      | (refine Ix.nat (by omega) ?_)
      | (refine Ix.ofNat (by omega) ?_)
      | (refine Ix.mk 0 rfl (by omega) ?_)
      | (refine Ix.mk 1 rfl (by omega) ?_)
      | (refine Ix.int (by omega) (by omega) ?_)
      | (refine Bd.nat (by omega) ?_)
      | (refine Bd.mk 0 rfl (by omega) ?_)
      | (refine Bd.mk 1 rfl (by omega) ?_)
      | (refine Bd.int (by omega) (by omega) ?_)
      | (refine Len.mk (by omega) ?_)
      | (refine Len.mk (by simp only [List.length_cons, List.length_nil]; omega) ?_)
      | (refine Ltn.mk (by omega) ?_)
      | (refine Both.mk ?_ ?_)
      | (refine (wthn _ _ (by omega) (by omega) _ _).mono ?_; rintro _ _ _ ⟨rfl, rfl, rfl⟩)
      | (refine And.intro rfl ?_)
      | (refine Br.any (fun _ => ?_) (fun _ => ?_)))
  all_goals (conv => whnf)
  have hC : r.Cap = 1 + r.cap % 4 := rfl
  have hM : r.Mod = 2 * r.Cap + 2 + r.mod % 4 := rfl
  refine loop_w mixed [1, 2, 3] [3] [4, 5, 6, 7, 8, 9, 10, 11, 12, 13, 14, 15, 16, 17, 18, 19, 20, 21, 22, 23, 24, 25, 26, 27, 28, 29] [2, 3, 1, 0]
    (fun i : Nat => [(4, .int .i64 i)])
    (fun i => [(2, .cells [.int .i64 r.Cap, .int .i64 r.Mod, .int .i64 (r.label % r.Mod), .int .i64 (r.item % 1000), .int .i64 (r.last % r.Mod), .vec 3 2 0 i, .nilslice]), (3, .vec i 2 (vF (r.frs i))), (1, .cells [.int .i64 0, .int .i64 0, .int .i64 0, .int .i64 0, .int .i64 0, .nilslice, .nilslice]),
      (0, .cells [.int .i64 r.cap, .int .i64 r.mod, .int .i64 r.label, .int .i64 r.item, .int .i64 r.last, .fz r.labels.length 1 false (vI r.labels), .fz r.data.length 1 false (vI r.data), .fz r.acks.length 1 false (vI r.acks)])])
    (fun n i => n = r.labels.length - i ∧ i ≤ r.labels.length ∧ (i : Int) ≤ r.Cap) r.labels.length 0 ⟨rfl, Nat.zero_le _, by omega⟩ rfl (fun _ => rfl) ?_ ?_
  · refine weak_by (fun _ _ => [(2, some 2), (3, none), (1, some 1), (0, some 0)]) ?_ ?_ rfl
    · repeat' (first | exact True.intro | (refine ⟨⟨_, rfl, ?_⟩, ?_⟩) | exact VRen.kf rfl | exact VRen.int rfl | exact VRen.int (by omega) | exact VRen.loc rfl | exact VRen.vec rfl rfl rfl | exact VRen.vec rfl (by omega) (by omega) | exact VRen.nil rfl rfl | exact VRen.nil rfl (by omega) | exact VRen.fz rfl (fun h => h) (fun _ _ _ _ => VLe.rfl) | (refine ⟨Nat.le_refl _, rfl, fun i j hi hj => ?_⟩) | (refine ⟨by omega, rfl, fun i j hi hj => ?_⟩) | exact VLe.rfl | (refine ⟨⟨_, _, rfl⟩, ?_⟩) | (refine And.intro ?_ ?_))
    · repeat' (first | exact True.intro | (refine ⟨⟨_, rfl, ?_⟩, ?_⟩) | exact VRen.kf rfl | exact VRen.int rfl | exact VRen.int (by omega) | exact VRen.loc rfl | exact VRen.vec rfl rfl rfl | exact VRen.vec rfl (by omega) (by omega) | exact VRen.nil rfl rfl | exact VRen.nil rfl (by omega) | exact VRen.fz rfl (fun h => h) (fun _ _ _ _ => VLe.rfl) | (refine ⟨Nat.le_refl _, rfl, fun i j hi hj => ?_⟩) | (refine ⟨by omega, rfl, fun i j hi hj => ?_⟩) | exact VLe.rfl | (refine ⟨⟨_, _, rfl⟩, ?_⟩) | (refine And.intro ?_ ?_))
  rintro n i ⟨hn, hi, hc⟩
  repeat' ((conv => whnf); first
      | (refine Br.tt ?_)
      | (refine Br.ff ?_)
      | (refine Br.dec (fun _ => ?_) (fun _ => ?_) <;> first | (exfalso; omega) | skip)
      | (refine Br.beq (fun _ => ?_) (fun _ => ?_) <;> first | (exfalso; omega) | skip)
      | (refine Br.bne (fun _ => ?_) (fun _ => ?_) <;> first | (exfalso; omega) | skip)
      | (refine Br.nbeq (fun _ => ?_) (fun _ => ?_) <;> first | (exfalso; omega) | skip)
      | (refine Br.nble (fun _ => ?_) (fun _ => ?_) <;> first | (exfalso; omega) | skip)
      | (refine Ar.i64 (by omega) (by omega) ?_)
      | (refine Ar.u32 (by omega) (by omega) ?_)
      | (refine Sv.mk _ rfl ?_)
      | (refine Nz.mk (by omega) ?_)
      | (refine Nn.mk (by omega) ?_)
      | (refine Ix.nat (by omega) ?_)
      | (refine Ix.ofNat (by omega) ?_)
      | (refine Ix.mk 0 rfl (by omega) ?_)
      | (refine Ix.mk 1 rfl (by omega) ?_)
      | (refine Ix.int (by omega) (by omega) ?_)
      | (refine Bd.nat (by omega) ?_)
      | (refine Bd.mk 0 rfl (by omega) ?_)
      | (refine Bd.mk 1 rfl (by omega) ?_)
      | (refine Bd.int (by omega) (by omega) ?_)
      | (refine Len.mk (by omega) ?_)
      | (refine Len.mk (by simp only [List.length_cons, List.length_nil]; omega) ?_)
      | (refine Ltn.mk (by omega) ?_)
      | (refine Both.mk ?_ ?_)
      | (refine (wthn _ _ (by omega) (by omega) _ _).mono ?_; rintro _ _ _ ⟨rfl, rfl, rfl⟩)
      | (refine And.intro rfl ?_)
      | (refine Br.any (fun _ => ?_) (fun _ => ?_)))
  all_goals (conv => whnf)
  · refine ⟨r.labels.length - (i + 1), i + 1, by omega, ⟨rfl, by omega, by omega⟩, ?_⟩
    have e : r.frs (i + 1) = r.frs i ++ [(gI r.labels i % r.Mod, -1 - gI r.data i % 50)] := by rw [frs_succ, Raw.frame, if_pos (by omega)]
    simp only [e]
    refine weak_by (fun env own => [(2, some 2), (3, ckeyo own 2 5), (1, some 1), (0, some 0)]) ?_ ?_ rfl
    · repeat' (first | exact vle_appF2 _ _ _ _ _ _ (frs_len _ _).symm hi hj | exact True.intro | (refine ⟨⟨_, rfl, ?_⟩, ?_⟩) | exact VRen.kf rfl | exact VRen.int rfl | exact VRen.int (by omega) | exact VRen.loc rfl | exact VRen.vec rfl rfl rfl | exact VRen.vec rfl (by omega) (by omega) | exact VRen.nil rfl rfl | exact VRen.nil rfl (by omega) | exact VRen.fz rfl (fun h => h) (fun _ _ _ _ => VLe.rfl) | (refine ⟨Nat.le_refl _, rfl, fun i j hi hj => ?_⟩) | (refine ⟨by omega, rfl, fun i j hi hj => ?_⟩) | exact VLe.rfl | (refine ⟨⟨_, _, rfl⟩, ?_⟩) | (refine And.intro ?_ ?_))
    · repeat' (first | exact vle_appF2 _ _ _ _ _ _ (frs_len _ _).symm hi hj | exact True.intro | (refine ⟨⟨_, rfl, ?_⟩, ?_⟩) | exact VRen.kf rfl | exact VRen.int rfl | exact VRen.int (by omega) | exact VRen.loc rfl | exact VRen.vec rfl rfl rfl | exact VRen.vec rfl (by omega) (by omega) | exact VRen.nil rfl rfl | exact VRen.nil rfl (by omega) | exact VRen.fz rfl (fun h => h) (fun _ _ _ _ => VLe.rfl) | (refine ⟨Nat.le_refl _, rfl, fun i j hi hj => ?_⟩) | (refine ⟨by omega, rfl, fun i j hi hj => ?_⟩) | exact VLe.rfl | (refine ⟨⟨_, _, rfl⟩, ?_⟩) | (refine And.intro ?_ ?_))
  · refine ⟨r.labels.length - (i + 1), i + 1, by omega, ⟨rfl, by omega, by omega⟩, ?_⟩
    have e : r.frs (i + 1) = r.frs i ++ [(gI r.labels i % r.Mod, -1 - 0)] := by rw [frs_succ, Raw.frame, if_neg (by omega)]
    simp only [e]
    refine weak_by (fun env own => [(2, some 2), (3, ckeyo own 2 5), (1, some 1), (0, some 0)]) ?_ ?_ rfl
    · repeat' (first | exact vle_appF2 _ _ _ _ _ _ (frs_len _ _).symm hi hj | exact True.intro | (refine ⟨⟨_, rfl, ?_⟩, ?_⟩) | exact VRen.kf rfl | exact VRen.int rfl | exact VRen.int (by omega) | exact VRen.loc rfl | exact VRen.vec rfl rfl rfl | exact VRen.vec rfl (by omega) (by omega) | exact VRen.nil rfl rfl | exact VRen.nil rfl (by omega) | exact VRen.fz rfl (fun h => h) (fun _ _ _ _ => VLe.rfl) | (refine ⟨Nat.le_refl _, rfl, fun i j hi hj => ?_⟩) | (refine ⟨by omega, rfl, fun i j hi hj => ?_⟩) | exact VLe.rfl | (refine ⟨⟨_, _, rfl⟩, ?_⟩) | (refine And.intro ?_ ?_))
    · repeat' (first | exact vle_appF2 _ _ _ _ _ _ (frs_len _ _).symm hi hj | exact True.intro | (refine ⟨⟨_, rfl, ?_⟩, ?_⟩) | exact VRen.kf rfl | exact VRen.int rfl | exact VRen.int (by omega) | exact VRen.loc rfl | exact VRen.vec rfl rfl rfl | exact VRen.vec rfl (by omega) (by omega) | exact VRen.nil rfl rfl | exact VRen.nil rfl (by omega) | exact VRen.fz rfl (fun h => h) (fun _ _ _ _ => VLe.rfl) | (refine ⟨Nat.le_refl _, rfl, fun i j hi hj => ?_⟩) | (refine ⟨by omega, rfl, fun i j hi hj => ?_⟩) | exact VLe.rfl | (refine ⟨⟨_, _, rfl⟩, ?_⟩) | (refine And.intro ?_ ?_))
  all_goals
    obtain ⟨m, rfl⟩ : ∃ m, m = i := ⟨_, rfl⟩
    have hm : m = min r.labels.length r.Cap.toNat := by omega
    refine loop_w mixed [1, 2, 3] [4] [5, 6, 7, 8, 9, 10, 11, 12, 13, 14, 15, 16, 17, 18, 19, 20, 21, 22, 23, 24, 25, 26, 27, 28, 29] [2, 3, 4, 1, 0]
      (fun i : Nat => [(6, .int .i64 i)])
      (fun i => [(2, .cells [.int .i64 r.Cap, .int .i64 r.Mod, .int .i64 (r.label % r.Mod), .int .i64 (r.item % 1000), .int .i64 (r.last % r.Mod), .vec 3 2 0 m, .vec 4 1 0 i]), (3, .vec m 2 (vF (r.frs m))), (4, .vec i 1 (vI (r.aks i))), (1, .cells [.int .i64 0, .int .i64 0, .int .i64 0, .int .i64 0, .int .i64 0, .nilslice, .nilslice]),
        (0, .cells [.int .i64 r.cap, .int .i64 r.mod, .int .i64 r.label, .int .i64 r.item, .int .i64 r.last, .fz r.labels.length 1 false (vI r.labels), .fz r.data.length 1 false (vI r.data), .fz r.acks.length 1 false (vI r.acks)])])
      (fun n i => n = r.acks.length - i ∧ i ≤ r.acks.length ∧ (i : Int) ≤ r.Cap) r.acks.length 0 ⟨rfl, Nat.zero_le _, by omega⟩ rfl (fun _ => rfl) ?_ ?_
    · refine weak_by (fun _ _ => [(2, some 2), (3, some 3), (4, none), (1, some 1), (0, some 0)]) ?_ ?_ rfl
      · repeat' (first | exact True.intro | (refine ⟨⟨_, rfl, ?_⟩, ?_⟩) | exact VRen.kf rfl | exact VRen.int rfl | exact VRen.int (by omega) | exact VRen.loc rfl | exact VRen.vec rfl rfl rfl | exact VRen.vec rfl (by omega) (by omega) | exact VRen.nil rfl rfl | exact VRen.nil rfl (by omega) | exact VRen.fz rfl (fun h => h) (fun _ _ _ _ => VLe.rfl) | (refine ⟨Nat.le_refl _, rfl, fun i j hi hj => ?_⟩) | (refine ⟨by omega, rfl, fun i j hi hj => ?_⟩) | exact VLe.rfl | (refine ⟨⟨_, _, rfl⟩, ?_⟩) | (refine And.intro ?_ ?_))
      · repeat' (first | exact True.intro | (refine ⟨⟨_, rfl, ?_⟩, ?_⟩) | exact VRen.kf rfl | exact VRen.int rfl | exact VRen.int (by omega) | exact VRen.loc rfl | exact VRen.vec rfl rfl rfl | exact VRen.vec rfl (by omega) (by omega) | exact VRen.nil rfl rfl | exact VRen.nil rfl (by omega) | exact VRen.fz rfl (fun h => h) (fun _ _ _ _ => VLe.rfl) | (refine ⟨Nat.le_refl _, rfl, fun i j hi hj => ?_⟩) | (refine ⟨by omega, rfl, fun i j hi hj => ?_⟩) | exact VLe.rfl | (refine ⟨⟨_, _, rfl⟩, ?_⟩) | (refine And.intro ?_ ?_))
    rintro n i ⟨hn, hi, hc⟩
    repeat' ((conv => whnf); first
        | (refine Br.tt ?_)
        | (refine Br.ff ?_)
        | (refine Br.dec (fun _ => ?_) (fun _ => ?_) <;> first | (exfalso; omega) | skip)
        | (refine Br.beq (fun _ => ?_) (fun _ => ?_) <;> first | (exfalso; omega) | skip)
        | (refine Br.bne (fun _ => ?_) (fun _ => ?_) <;> first | (exfalso; omega) | skip)
        | (refine Br.nbeq (fun _ => ?_) (fun _ => ?_) <;> first | (exfalso; omega) | skip)
        | (refine Br.nble (fun _ => ?_) (fun _ => ?_) <;> first | (exfalso; omega) | skip)
        | (refine Ar.i64 (by omega) (by omega) ?_)
        | (refine Ar.u32 (by omega) (by omega) ?_)
        | (refine Sv.mk _ rfl ?_)
        | (refine Nz.mk (by omega) ?_)
        | (refine Nn.mk (by omega) ?_)
        | (refine Ix.nat (by omega) ?_)
        | (refine Ix.ofNat (by omega) ?_)
        | (refine Ix.mk 0 rfl (by omega) ?_)
        | (refine Ix.mk 1 rfl (by omega) ?_)
        | (refine Ix.int (by omega) (by omega) ?_)
        | (refine Bd.nat (by omega) ?_)
        | (refine Bd.mk 0 rfl (by omega) ?_)
        | (refine Bd.mk 1 rfl (by omega) ?_)
        | (refine Bd.int (by omega) (by omega) ?_)
        | (refine Len.mk (by omega) ?_)
        | (refine Len.mk (by simp only [List.length_cons, List.length_nil]; omega) ?_)
        | (refine Ltn.mk (by omega) ?_)
        | (refine Both.mk ?_ ?_)
        | (refine (wthn _ _ (by omega) (by omega) _ _).mono ?_; rintro _ _ _ ⟨rfl, rfl, rfl⟩)
        | (refine And.intro rfl ?_)
        | (refine Br.any (fun _ => ?_) (fun _ => ?_)))
    all_goals (conv => whnf)
    · refine ⟨r.acks.length - (i + 1), i + 1, by omega, ⟨rfl, by omega, by omega⟩, ?_⟩
      simp only [aks_succ]
      refine weak_by (fun env own => [(2, some 2), (3, some 3), (4, ckeyo own 2 6), (1, some 1), (0, some 0)]) ?_ ?_ rfl
      · repeat' (first | exact vle_appI2 _ _ _ _ _ (aks_len _ _).symm hi hj | exact True.intro | (refine ⟨⟨_, rfl, ?_⟩, ?_⟩) | exact VRen.kf rfl | exact VRen.int rfl | exact VRen.int (by omega) | exact VRen.loc rfl | exact VRen.vec rfl rfl rfl | exact VRen.vec rfl (by omega) (by omega) | exact VRen.nil rfl rfl | exact VRen.nil rfl (by omega) | exact VRen.fz rfl (fun h => h) (fun _ _ _ _ => VLe.rfl) | (refine ⟨Nat.le_refl _, rfl, fun i j hi hj => ?_⟩) | (refine ⟨by omega, rfl, fun i j hi hj => ?_⟩) | exact VLe.rfl | (refine ⟨⟨_, _, rfl⟩, ?_⟩) | (refine And.intro ?_ ?_))
      · repeat' (first | exact vle_appI2 _ _ _ _ _ (aks_len _ _).symm hi hj | exact True.intro | (refine ⟨⟨_, rfl, ?_⟩, ?_⟩) | exact VRen.kf rfl | exact VRen.int rfl | exact VRen.int (by omega) | exact VRen.loc rfl | exact VRen.vec rfl rfl rfl | exact VRen.vec rfl (by omega) (by omega) | exact VRen.nil rfl rfl | exact VRen.nil rfl (by omega) | exact VRen.fz rfl (fun h => h) (fun _ _ _ _ => VLe.rfl) | (refine ⟨Nat.le_refl _, rfl, fun i j hi hj => ?_⟩) | (refine ⟨by omega, rfl, fun i j hi hj => ?_⟩) | exact VLe.rfl | (refine ⟨⟨_, _, rfl⟩, ?_⟩) | (refine And.intro ?_ ?_))
    all_goals
      have hi2 : i = min r.acks.length r.Cap.toNat := by omega
      subst hm hi2
      exact VLe.agg ⟨.rfl, .rfl, .rfl, .rfl, .rfl, .fz (frs_len _ _).symm (fun h => h) (fun i j hi hj => VLe.rfl), .fz (aks_len _ _).symm (fun h => h) (fun i j hi hj => VLe.rfl), True.intro⟩
end Go.Proofs.Ytadefbamjaajfaa
