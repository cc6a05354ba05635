import Derived.Test.YtcnpplcfabdoaaaGreatGR24B
import Derived.Test.YtcnpplcfabdoaaaGreatGR10
import Derived.Test.YtcnpplcfabdoaaaGreatEngV
namespace Go.Proofs.YtcnpplcfabdoaaaGreat
open Go.Eng
set_option maxRecDepth 100000
set_option linter.unusedVariables false

/-! ## rings made of nets -/

/-- the first number from one on that is free -/
def fzI (l : List Int) : Nat → Int → Int
  | 0, i => i
  | f + 1, i => if i ∈ l then fzI l f (i + 1) else i
def freeI (l : List Int) : Int := fzI l 300 0
theorem low_ends {l : List Int} (hl : l.length < 300) : ¬ ∀ j : Nat, j < 300 → (j : Int) ∈ l := by
  intro h
  have h1 : ((List.range 300).map fun j : Nat => (j : Int)).Nodup := by
    rw [List.nodup_iff_pairwise_ne, List.pairwise_map]
    refine List.Pairwise.imp_of_mem ?_ List.nodup_range
    intro a b _ _ hne e
    omega
  have h2 := len_le h1 (fun a ha => by
    obtain ⟨j, hj, rfl⟩ := List.mem_map.1 ha
    exact h j (List.mem_range.1 hj))
  simp at h2
  omega
theorem fz_spec {l : List Int} : ∀ (f k : Nat), k + f = 300 → (∀ j : Nat, j < k → (j : Int) ∈ l) → l.length < 300 → 0 ≤ fzI l f k ∧ fzI l f k ≤ l.length ∧ fzI l f k ∉ l
  | 0, k, hk, hall, hl => (low_ends hl (fun j hj => hall j (by omega))).elim
  | f + 1, k, hk, hall, hl => by
    rw [fzI]
    split
    · rename_i hm
      exact fz_spec f (k + 1) (by omega) (fun j hj => by
        by_cases e : j = k
        · subst e; exact hm
        · exact hall j (by omega)) hl
    · rename_i hm
      refine ⟨by omega, ?_, hm⟩
      have h1 : ((List.range k).map fun j : Nat => (j : Int)).Nodup := by
        rw [List.nodup_iff_pairwise_ne, List.pairwise_map]
        refine List.Pairwise.imp_of_mem ?_ List.nodup_range
        intro a b _ _ hne e
        omega
      have h2 := len_le h1 (fun a ha => by
        obtain ⟨j, hj, rfl⟩ := List.mem_map.1 ha
        exact hall j (List.mem_range.1 hj))
      simp at h2
      omega
theorem free_spec2 {l : List Int} (hl : l.length < 300) : 0 ≤ freeI l ∧ freeI l ≤ l.length ∧ freeI l ∉ l := fz_spec 300 0 rfl (fun j hj => by omega) hl

/-- identifiers for 3 nodes at least -/
def extI : Nat → List Int → List Int
  | 0, l => l
  | k + 1, l => extI k (l ++ [freeI l])
theorem extI_len : ∀ (k : Nat) (l : List Int), (extI k l).length = l.length + k
  | 0, l => rfl
  | k + 1, l => by rw [extI, extI_len k]; simp; omega
theorem extI_ok : ∀ (k : Nat) (l : List Int), l.length + k ≤ 200 → (∀ a ∈ l, 0 ≤ a ∧ a ≤ 255) → l.Nodup → (∀ a ∈ extI k l, 0 ≤ a ∧ a ≤ 255) ∧ (extI k l).Nodup
  | 0, l, _, h1, h2 => ⟨h1, h2⟩
  | k + 1, l, hl, h1, h2 => by
    obtain ⟨f1, f2, f3⟩ := free_spec2 (l := l) (by omega)
    rw [extI]
    refine extI_ok k _ (by simp; omega) (fun a ha => ?_) ?_
    · rcases List.mem_append.1 ha with h | h
      · exact h1 a h
      · simp at h; rw [h]; omega
    · rw [List.nodup_append]
      refine ⟨h2, by simp, fun a ha b hb e => ?_⟩
      simp at hb
      rw [e, hb] at ha
      exact f3 ha
def Net.rids (x : Net) (most : Int) : List Int := extI (3 - x.size (most - 2)) (idsF x.ids (x.size (most - 2)))
def rwt (x : Net) (i : Nat) : Int := 1 + within (gI x.weights i) 15
def rngR (x : Net) (n v : Nat) : List (Int × Int) := [(((v + n - 1) % n : Nat), rwt x ((v + n - 1) % n)), (((v + 1) % n : Nat), rwt x v)]
def Net.ringG (x : Net) (most : Int) : G := ⟨x.rids most, (List.range (x.rids most).length).map (rngR x (x.rids most).length)⟩

theorem vle_nils (n i j : Nat) (hi : i < n + 1) (hj : j < 1) : VLe (fapp (shiftF 0 fun _ _ => .nilslice) n (shiftF 0 (tab [[.nilslice]])) i j) V.nilslice := by
  obtain rfl : j = 0 := by omega
  apply VLe.of_eq
  by_cases h : i < n
  · rw [fapp_lt h]; rfl
  · rw [fapp_ge h, show i - n = 0 by omega]; rfl
theorem mod_pred {v n : Nat} (h : v < n) : (((v : Int) + n) - 1).tmod n = ((v + n - 1) % n : Nat) := by
  rw [Int.tmod_eq_emod_of_nonneg (by omega), Int.natCast_emod]
  congr 1
  omega
theorem mod_next {v n : Nat} : ((v : Int) + 1).tmod n = ((v + 1) % n : Nat) := by
  rw [Int.tmod_eq_emod_of_nonneg (by omega), Int.natCast_emod]
  rfl
def rowsR (x : Net) (n v : Nat) : Nat → Nat → V := fun i _ => if i < v then .fz 2 2 false (vF (rngR x n i)) else .nilslice
theorem rng_row (x : Net) {n i : Nat} (hi : i < n) : gR ((List.range n).map (rngR x n)) i = rngR x n i := by
  simp [gR, hi]
theorem vle_rows (x : Net) (n v i j : Nat) (hj : j < 1) : VLe (fset (rowsR x n v) (0 + v) 0 [.fz 2 2 false (shiftF 0 (tab [[.int .i64 ((v + n - 1) % n : Nat), .int .i64 (1 + within (gI x.weights ((v + n - 1) % n)) 15)], [.int .i64 ((v + 1) % n : Nat), .int .i64 (1 + within (gI x.weights v) 15)]]))] i j) (rowsR x n (v + 1) i j) := by
  obtain rfl : j = 0 := by omega
  rw [Nat.zero_add]
  by_cases h : i = v
  · subst h
    simp only [fset, rowsR]
    rw [if_pos ⟨trivial, by simp⟩, if_pos (by omega)]
    refine VLe.fz rfl (fun h => h) (fun a b ha hb => ?_)
    rcases (show a = 0 ∨ a = 1 by omega) with rfl | rfl
    all_goals rcases (show b = 0 ∨ b = 1 by omega) with rfl | rfl
    all_goals exact VLe.rfl
  · apply VLe.of_eq
    simp only [fset, rowsR]
    rw [if_neg (by simp [h])]
    by_cases h2 : i < v
    · rw [if_pos h2, if_pos (by omega)]
    · rw [if_neg h2, if_neg (by omega)]
set_option maxHeartbeats 8000000 in
theorem ringNet_ok (x : Net) (hx : x.Small) (most : Int) (h1 : 3 ≤ most) (h2 : most ≤ 26) : Ret Tryz.prog 37 [x.v, .int .i64 most] (x.ringG most).v := by
  have hn := nodes_ok x hx (most - 2) (by omega) (by omega)
  have hsz : 1 ≤ x.size (most - 2) ∧ x.size (most - 2) ≤ 24 := by
    have := within_range x.n1 (b := most - 2) (by omega)
    rw [Net.size]; omega
  have hwl := hx.weights
  have hG : x.ringG most = ⟨x.rids most, (List.range (x.rids most).length).map (rngR x (x.rids most).length)⟩ := rfl
  have hR : x.rids most = extI (3 - x.size (most - 2)) (idsF x.ids (x.size (most - 2))) := rfl
  have hil := idsF_len x.ids (x.size (most - 2))
  generalize hI : idsF x.ids (x.size (most - 2)) = I at *
  generalize x.size (most - 2) = k at *
  have hRl : (x.rids most).length = k + (3 - k) := by rw [hR, extI_len]; omega
  rw [hG]
  refine ret_frz rfl ?_
  refine fn_rule mixed Tryz.func37 rfl hc37 hr37 rfl ?_
  repeat' ((conv => whnf); first | (refine Ar.i64 (by omega) (by omega) ?_) | (refine call_by [] [0, 1] (hn.mono ?_) ⟨VRen.kf rfl, VRen.kf rfl, True.intro⟩ True.intro rfl; rintro _ _ _ ⟨rfl, rfl⟩) | (refine Chk.mk rfl ?_))
  all_goals (conv => whnf)
  refine loop_u mixed [2, 4, 5] [2, 3] [5, 6, 7, 8, 9, 10, 11, 12, 13, 14, 15, 16, 17, 18, 19, 20, 21, 22, 23, 24, 25, 26, 27, 28, 29] [4, 2, 3, 1, 0] (fun _ : List Int => [])
    (fun own L => updO (updO (updO own 2 (.vec L.length 1 (vI L))) 3 (.vec L.length 1 fun _ _ => .nilslice)) 4 (.cells [.vec 2 1 0 L.length, .vec 3 1 0 L.length])) (fun m L => m = 3 - L.length ∧ 1 ≤ L.length ∧ L.length ≤ 24 ∧ extI (3 - L.length) L = x.rids most) (3 - I.length) I ⟨rfl, by omega, by omega, by rw [hil, hR]⟩ rfl (fun _ => rfl) ?_ ?_
  · subst hil
    refine weak_by (fun _ _ => [(0, some 0), (1, some 1), (2, some 2), (3, some 3), (4, some 4)]) ?_ ?_ rfl
    · repeat' (first | exact True.intro | (refine ⟨⟨_, rfl, ?_⟩, ?_⟩) | exact VRen.loc rfl)
    · repeat' (first | (refine ⟨Nat.le_refl _, rfl, fun i j hi hj => VLe.of_eq ?_⟩; show vI (idsF x.ids I.length) i j = vI I i j; rw [hI]) | exact True.intro | (refine ⟨⟨_, rfl, ?_⟩, ?_⟩) | exact VRen.kf rfl | exact VRen.vec rfl rfl rfl | (refine ⟨Nat.le_refl _, rfl, fun i j hi hj => ?_⟩) | exact VLe.rfl | (refine And.intro ?_ ?_))
  rintro m L ⟨hm, hL1, hL2, hext⟩
  by_cases h3 : L.length < 3
  · have hfs := free_spec2 (l := L) (by omega)
    repeat' ((conv => whnf); first | (refine Br.dec ?_ ?_ <;> intro _ <;> try omega))
    all_goals (conv => whnf)
    refine loop_r mixed [2, 4, 5] (fun p : Nat × Nat => [(6, .int .i64 (p.1 : Int)), (7, .int .i64 p.2)]) (fun m p => m = (300 - p.1) * 25 + (L.length - p.2) ∧ p.1 ≤ 300 ∧ p.2 ≤ L.length ∧ (∀ j : Nat, j < p.1 → (j : Int) ∈ L) ∧ (∀ j, j < p.2 → gI L j ≠ p.1) ∧ fzI L (300 - p.1) p.1 = freeI L) _ (0, 0) ⟨rfl, by omega, by omega, fun j hj => (by omega), fun j hj => (by omega), rfl⟩ ?_ ?_
    · refine weak_by (fun _ _ => [(0, some 0), (1, some 1), (2, some 2), (3, some 3), (4, some 4)]) ?_ ?_ rfl
      · repeat' (first | exact True.intro | (refine ⟨⟨_, rfl, ?_⟩, ?_⟩) | exact VRen.kf rfl | exact VRen.loc rfl)
      · repeat' (first | exact True.intro | (refine ⟨⟨_, rfl, ?_⟩, ?_⟩) | exact VRen.kf rfl | exact VRen.vec rfl rfl rfl | (refine ⟨Nat.le_refl _, rfl, fun i j hi hj => ?_⟩) | exact VLe.rfl | (refine And.intro ?_ ?_))
    rintro m2 ⟨d, u⟩ ⟨hm2, hd, hu, hall, hne, hfr⟩
    simp only at hm2 hd hu hall hne hfr
    repeat' ((conv => whnf); first | (refine Br.dec ?_ ?_ <;> intro _ <;> try omega) | (refine Br.nbeq ?_ ?_ <;> intro _ <;> try omega) | (refine Ar.i64 (by omega) (by omega) ?_) | (refine Ix.nat (by omega) ?_) | (refine Len.mk (by omega) ?_) | (refine Ltn.mk (by omega) ?_) | (refine And.intro rfl ?_))
    all_goals (conv => whnf)
    · rename_i q1 q2
      have hin : (d : Int) ∈ L := by rw [← q2]; exact gI_mem (by omega)
      have hk2 : d < 300 := by
        rcases Nat.lt_or_ge d 300 with h | h
        · exact h
        · exact (low_ends (l := L) (by omega) (fun j hj => hall j (by omega))).elim
      refine ⟨_, (d + 1, 0), ?_, ⟨rfl, by omega, by omega, fun j hj => ?_, fun j hj => (by omega), ?_⟩, ?_⟩
      · simp only; omega
      · simp only at hj
        by_cases e : j = d
        · subst e; exact hin
        · exact hall j (by omega)
      · simp only
        rw [← hfr, show 300 - d = (300 - (d + 1)) + 1 by omega, fzI, if_pos hin]
        rfl
      · refine weak_by (fun _ _ => [(0, some 0), (1, some 1), (2, some 2), (3, some 3), (4, some 4)]) ?_ ?_ rfl
        · repeat' (first | exact True.intro | (refine ⟨⟨_, rfl, ?_⟩, ?_⟩) | exact VRen.kf rfl | exact VRen.loc rfl)
        · repeat' (first | exact True.intro | (refine ⟨⟨_, rfl, ?_⟩, ?_⟩) | exact VRen.kf rfl | exact VRen.vec rfl rfl rfl | (refine ⟨Nat.le_refl _, rfl, fun i j hi hj => ?_⟩) | exact VLe.rfl | (refine And.intro ?_ ?_))
    · rename_i q1 q2
      refine ⟨_, (d, u + 1), ?_, ⟨rfl, hd, by omega, hall, fun j hj => ?_, hfr⟩, ?_⟩
      · simp only; omega
      · simp only at hj ⊢
        by_cases e : j = u
        · subst e; simpa using q2
        · exact hne j (by omega)
      · refine weak_by (fun _ _ => [(0, some 0), (1, some 1), (2, some 2), (3, some 3), (4, some 4)]) ?_ ?_ rfl
        · repeat' (first | exact True.intro | (refine ⟨⟨_, rfl, ?_⟩, ?_⟩) | exact VRen.kf rfl | exact VRen.loc rfl)
        · repeat' (first | exact True.intro | (refine ⟨⟨_, rfl, ?_⟩, ?_⟩) | exact VRen.kf rfl | exact VRen.vec rfl rfl rfl | (refine ⟨Nat.le_refl _, rfl, fun i j hi hj => ?_⟩) | exact VLe.rfl | (refine And.intro ?_ ?_))
    · have hno : (d : Int) ∉ L := fun h => by
        obtain ⟨j, j1, j2⟩ := gI_get h
        exact hne j (by omega) j2
      have hfin : freeI L = (d : Int) := by
        rw [← hfr]
        cases h : 300 - d with
        | zero => rfl
        | succ f => rw [fzI, if_neg hno]
      have hll : (L ++ [(d : Int)]).length = L.length + 1 := by simp
      refine ⟨3 - (L.length + 1), L ++ [(d : Int)], by omega, ⟨by rw [hll], by rw [hll]; omega, by rw [hll]; omega, ?_⟩, ?_⟩
      · rw [← hext, hll, show 3 - L.length = (3 - (L.length + 1)) + 1 by omega, extI, hfin]
      · simp only [hll]
        refine weak_by (fun env own => [(0, some 0), (1, some 1), (2, ekey env 40), (3, ekey env 44), (4, some 4)]) ?_ ?_ rfl
        · repeat' (first | exact True.intro | (refine ⟨⟨_, rfl, ?_⟩, ?_⟩) | exact VRen.loc rfl)
        · repeat' (first | (refine ⟨Nat.le_refl _, rfl, fun i j hi hj => ?_⟩) | exact vle_appI _ _ _ rfl _ _ hi hj | exact vle_nils _ _ _ hi hj | exact True.intro | (refine ⟨⟨_, rfl, ?_⟩, ?_⟩) | exact VRen.kf rfl | exact VRen.vec rfl rfl rfl | (refine And.intro ?_ ?_))
  · have hrid : L = x.rids most := by rw [← hext, show 3 - L.length = 0 by omega]; rfl
    subst hrid
    generalize hL : x.rids most = L at *
    repeat' ((conv => whnf); first | (refine Br.dec ?_ ?_ <;> intro _ <;> try omega))
    all_goals (conv => whnf)
    refine loop_u mixed [2, 4, 5, 8] [3] [5, 6, 7, 8, 9, 10, 11, 12, 13, 14, 15, 16, 17, 18, 19, 20, 21, 22, 23, 24, 25, 26, 27, 28, 29] [4, 2, 3, 1, 0] (fun v : Nat => [(9, .int .i64 v)]) (fun own v => updO own 3 (.vec L.length 1 (rowsR x L.length v))) (fun m v => m = L.length - v ∧ v ≤ L.length) L.length 0 ⟨rfl, by omega⟩ rfl (fun _ => rfl) ?_ ?_
    · refine weak_by (fun _ _ => [(0, some 0), (1, some 1), (2, some 2), (3, some 3), (4, some 4)]) ?_ ?_ rfl
      · repeat' (first | exact True.intro | (refine ⟨⟨_, rfl, ?_⟩, ?_⟩) | exact VRen.kf rfl | exact VRen.loc rfl)
      · repeat' (first | exact True.intro | (refine ⟨⟨_, rfl, ?_⟩, ?_⟩) | exact VRen.kf rfl | exact VRen.vec rfl rfl rfl | (refine ⟨Nat.le_refl _, rfl, fun i j hi hj => ?_⟩) | exact VLe.rfl | (refine And.intro ?_ ?_))
    rintro m v ⟨hm, hv⟩
    by_cases hvn : v < L.length
    · have q1 := mod_pred hvn
      have q2 := mod_next (v := v) (n := L.length)
      have ha1 := at_ok x.weights hwl ((v + L.length - 1) % L.length)
      have ha2 := at_ok x.weights hwl v
      have hw1 := within_ok (gI x.weights ((v + L.length - 1) % L.length)) 15 (by omega)
      have hw2 := within_ok (gI x.weights v) 15 (by omega)
      have hr1 := within_range (gI x.weights ((v + L.length - 1) % L.length)) (b := 15) (by omega)
      have hr2 := within_range (gI x.weights v) (b := 15) (by omega)
      repeat' ((conv => whnf); first | (refine Sv.mk (((v + L.length - 1) % L.length : Nat) : Int) q1.symm ?_) | (refine Sv.mk (((v + 1) % L.length : Nat) : Int) q2.symm ?_) | (refine Br.dec ?_ ?_ <;> intro _ <;> try omega) | (refine Ar.i64 (by omega) (by omega) ?_) | (refine Nz.mk (by omega) ?_) | (refine Ix.nat (by omega) ?_) | (refine Len.mk (by omega) ?_) | (refine Ltn.mk (by omega) ?_) | (refine (ha1 _ _).mono ?_; rintro _ _ _ ⟨rfl, rfl, rfl⟩) | (refine (ha2 _ _).mono ?_; rintro _ _ _ ⟨rfl, rfl, rfl⟩) | (refine (hw1 _ _).mono ?_; rintro _ _ _ ⟨rfl, rfl, rfl⟩) | (refine (hw2 _ _).mono ?_; rintro _ _ _ ⟨rfl, rfl, rfl⟩))
      all_goals (conv => whnf)
      refine ⟨L.length - (v + 1), v + 1, by omega, ⟨rfl, by omega⟩, ?_⟩
      refine weak_by (fun _ _ => [(0, some 0), (1, some 1), (2, some 2), (3, some 3), (4, some 4)]) ?_ ?_ rfl
      · repeat' (first | exact True.intro | (refine ⟨⟨_, rfl, ?_⟩, ?_⟩) | exact VRen.kf rfl | exact VRen.loc rfl)
      · repeat' (first | exact ⟨Nat.le_refl _, rfl, fun i j hi hj => vle_rows x L.length v i j hj⟩ | exact True.intro | (refine ⟨⟨_, rfl, ?_⟩, ?_⟩) | exact VRen.kf rfl | exact VRen.vec rfl rfl rfl | (refine ⟨Nat.le_refl _, rfl, fun i j hi hj => ?_⟩) | exact VLe.rfl | (refine And.intro ?_ ?_))
    · repeat' ((conv => whnf); first | (refine Br.dec ?_ ?_ <;> intro _ <;> try omega) | (refine Len.mk (by omega) ?_))
      all_goals (conv => whnf)
      have ev : v = L.length := by omega
      subst ev
      refine VLe.agg ⟨VLe.fz rfl (fun h => h) (fun i j hi hj => VLe.of_eq (by simp [shiftF])), VLe.fz (by simp) (fun h => h) (fun i j hi hj => ?_), True.intro⟩
      have e1 : shiftF 0 (rowsR x L.length L.length) i j = .fz 2 2 false (vF (rngR x L.length i)) := by simp [shiftF, rowsR, hi]
      have e2 : vP ((List.range L.length).map (rngR x L.length)) i j = .fz 2 2 false (vF (rngR x L.length i)) := by simp only [vP, rng_row x hi]; rfl
      exact VLe.of_eq (e1.trans e2.symm)

theorem rids_facts (x : Net) {most : Int} (h1 : 3 ≤ most) (h2 : most ≤ 26) : 3 ≤ (x.rids most).length ∧ (x.rids most).length ≤ 24 ∧ (∀ a ∈ x.rids most, 0 ≤ a ∧ a ≤ 255) ∧ (x.rids most).Nodup := by
  have hsz : 1 ≤ x.size (most - 2) ∧ x.size (most - 2) ≤ 24 := by
    have := within_range x.n1 (b := most - 2) (by omega)
    rw [Net.size]; omega
  have hil := idsF_len x.ids (x.size (most - 2))
  obtain ⟨i1, i2⟩ := idsF_ok x.ids (x.size (most - 2)) (by omega)
  have hl : (x.rids most).length = x.size (most - 2) + (3 - x.size (most - 2)) := by rw [Net.rids, extI_len]; omega
  obtain ⟨e1, e2⟩ := extI_ok (3 - x.size (most - 2)) _ (by omega) i1 i2
  exact ⟨by omega, by omega, e1, e2⟩
theorem rwt_range (x : Net) (i : Nat) : 1 ≤ rwt x i ∧ rwt x i ≤ 15 := by
  have := within_range (gI x.weights i) (b := 15) (by omega)
  rw [rwt]; omega
theorem prev_next {n v : Nat} (h3 : 3 ≤ n) (hv : v < n) : (v + n - 1) % n < n ∧ (v + n - 1) % n ≠ v ∧ (v + 1) % n < n ∧ (v + 1) % n ≠ v ∧ (v + n - 1) % n ≠ (v + 1) % n ∧ ((v + n - 1) % n + 1) % n = v ∧ ((v + 1) % n + n - 1) % n = v := by
  have hp : (v + n - 1) % n = if v = 0 then n - 1 else v - 1 := by
    split
    · rename_i h; subst h; rw [Nat.zero_add, Nat.mod_eq_of_lt (by omega)]
    · rw [show v + n - 1 = v - 1 + n by omega, Nat.add_mod_right, Nat.mod_eq_of_lt (by omega)]
  have hn : (v + 1) % n = if v + 1 = n then 0 else v + 1 := by
    split
    · rename_i h; rw [h, Nat.mod_self]
    · rw [Nat.mod_eq_of_lt (by omega)]
  rw [hp, hn]
  refine ⟨by split <;> omega, by split <;> omega, by split <;> omega, by split <;> omega, by split <;> split <;> omega, ?_, ?_⟩
  · split
    · rename_i h; subst h; rw [show n - 1 + 1 = n by omega, Nat.mod_self]
    · rw [show v - 1 + 1 = v by omega, Nat.mod_eq_of_lt hv]
  · split
    · rename_i h; rw [Nat.zero_add, Nat.mod_eq_of_lt (by omega)]; omega
    · rw [show v + 1 + n - 1 = v + n by omega, Nat.add_mod_right, Nat.mod_eq_of_lt hv]
theorem ringG_ok (x : Net) {most : Int} (h1 : 3 ≤ most) (h2 : most ≤ 26) : (x.ringG most).rfit = true ∧ (x.ringG most).Small := by
  obtain ⟨r1, r2, r3, r4⟩ := rids_facts x h1 h2
  generalize hL : x.rids most = L at *
  have hG : x.ringG most = ⟨L, (List.range L.length).map (rngR x L.length)⟩ := by rw [Net.ringG, hL]
  rw [hG]
  have hpl : ((List.range L.length).map (rngR x L.length)).length = L.length := by simp
  refine ⟨?_, ?_⟩
  · simp only [G.rfit, Bool.and_eq_true]
    refine ⟨?_, ring_iff.2 ⟨r1, fun v hv => ?_⟩⟩
    · simp only [G.valid, Bool.and_eq_true, decide_eq_true_eq, portsOk]
      refine ⟨⟨by omega, r2, hpl⟩, (idsOk_iff _).2 ⟨r3, r4⟩, rowsOk_iff.2 fun v hv => ?_, symOk_iff.2 fun v hv l hl => ?_⟩
      · rw [hpl] at hv ⊢
        rw [rng_row x hv]
        obtain ⟨a1, a2, a3, a4, a5, a6, a7⟩ := prev_next r1 hv
        have w1 := rwt_range x ((v + L.length - 1) % L.length)
        have w2 := rwt_range x v
        simp only [okR, rngR, okL, List.all_cons, List.all_nil, Bool.and_eq_true, decide_eq_true_eq, List.map_cons, List.map_nil, Bool.and_true]
        refine ⟨⟨⟨by omega, by omega, by omega, by omega, by omega⟩, ⟨by omega, by omega, by omega, by omega, by omega⟩⟩, ?_⟩
        simp only [List.nodup_cons, List.mem_singleton, List.not_mem_nil, not_false_eq_true, List.nodup_nil, and_true]
        omega
      · rw [hpl] at hv
        rw [rng_row x hv] at hl
        obtain ⟨a1, a2, a3, a4, a5, a6, a7⟩ := prev_next r1 hv
        simp only [rngR, List.mem_cons, List.not_mem_nil, or_false] at hl
        rcases hl with rfl | rfl
        · simp only [Int.toNat_natCast]
          rw [rng_row x a1]
          simp [rngR, a6]
        · simp only [Int.toNat_natCast]
          rw [rng_row x a3]
          simp [rngR, a7]
    · rw [hpl] at hv
      rw [rng_row x hv]
      exact fitR_iff.2 ⟨rfl, (mod_pred hv).symm, mod_next.symm⟩
  · refine small_of (show L.length ≤ 1000 by omega) (show ((List.range L.length).map (rngR x L.length)).length ≤ 1000 by rw [hpl]; omega) fun u => ?_
    show (gR ((List.range L.length).map (rngR x L.length)) u).length ≤ 1000
    by_cases hu : u < L.length
    · rw [rng_row x hu]; simp [rngR]
    · rw [show gR ((List.range L.length).map (rngR x L.length)) u = [] by simp only [gR, List.getD]; rw [List.getElem?_eq_none (by rw [hpl]; omega)]; rfl]
      simp
end Go.Proofs.YtcnpplcfabdoaaaGreat
