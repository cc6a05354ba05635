import Derived.Test.YtcnpplcfabdoaaaGreatGR20
namespace Go.Proofs.YtcnpplcfabdoaaaGreat
open Go.Eng
set_option maxRecDepth 100000
set_option linter.unusedVariables false

/-! ## identifiers -/

theorem len_le : ∀ {l m : List Int}, l.Nodup → (∀ a ∈ l, a ∈ m) → l.length ≤ m.length
  | [], m, _, _ => Nat.zero_le _
  | a :: l, m, hn, hs => by
    rw [List.nodup_cons] at hn
    have ham := hs a (by simp)
    have h1 := len_le (l := l) (m := m.erase a) hn.2 (fun b hb => (List.mem_erase_of_ne (fun e => hn.1 (by rw [← e]; exact hb))).2 (hs b (by simp [hb])))
    have h2 := List.length_erase_of_mem ham
    have h3 := List.length_pos_of_mem ham
    simp only [List.length_cons]
    omega
/-- the first identifier from one on that is free -/
def freeF (l : List Int) : Nat → Int → Int
  | 0, i => i
  | f + 1, i => if i ∈ l then freeF l f ((i + 1) % 256) else i
def tryI (i : Int) (k : Nat) : Int := (i + k) % 256
theorem tryI_next {i : Int} {k : Nat} : (tryI i k + 1) % 256 = tryI i (k + 1) := by rw [tryI, tryI]; omega
theorem free_ends {l : List Int} (hl : l.length < 256) (i : Int) : ¬ ∀ j, j < 256 → tryI i j ∈ l := by
  intro h
  have h1 : ((List.range 256).map (tryI i)).Nodup := by
    rw [List.nodup_iff_pairwise_ne, List.pairwise_map]
    refine List.Pairwise.imp_of_mem ?_ List.nodup_range
    intro a b ha hb hne e
    rw [List.mem_range] at ha hb
    rw [tryI, tryI] at e
    omega
  have h2 := len_le h1 (fun a ha => by
    obtain ⟨j, hj, rfl⟩ := List.mem_map.1 ha
    exact h j (List.mem_range.1 hj))
  simp at h2
  omega
def idsF (x : List Int) : Nat → List Int
  | 0 => []
  | v + 1 => idsF x v ++ [freeF (idsF x v) 256 (within (gI x v) 256)]
theorem idsF_len (x : List Int) : ∀ v, (idsF x v).length = v
  | 0 => rfl
  | v + 1 => by rw [idsF, List.length_append, idsF_len x v]; rfl
theorem within_range (a : Int) {b : Int} (hb : 1 ≤ b) : 0 ≤ within a b ∧ within a b < b := by
  have h1 := Int.tmod_lt_of_pos a (show (0 : Int) < b by omega)
  have h2 := Int.tmod_lt_of_pos (-a) (show (0 : Int) < b by omega)
  rw [Int.neg_tmod] at h2
  rw [within, if_neg (by omega)]
  split <;> omega
theorem free_spec {l : List Int} {i : Int} (h0 : 0 ≤ i) (h1 : i ≤ 255) : ∀ f k, k + f = 256 → (∀ j, j < k → tryI i j ∈ l) → l.length < 256 → 0 ≤ freeF l f (tryI i k) ∧ freeF l f (tryI i k) ≤ 255 ∧ freeF l f (tryI i k) ∉ l
  | 0, k, hk, hall, hl => (free_ends hl i (fun j hj => hall j (by omega))).elim
  | f + 1, k, hk, hall, hl => by
    rw [freeF]
    split
    · rename_i hm
      rw [tryI_next]
      exact free_spec h0 h1 f (k + 1) (by omega) (fun j hj => by
        by_cases e : j = k
        · subst e; exact hm
        · exact hall j (by omega)) hl
    · rename_i hm
      refine ⟨?_, ?_, hm⟩ <;> (rw [tryI]; omega)
theorem try_zero {i : Int} (h0 : 0 ≤ i) (h1 : i ≤ 255) : tryI i 0 = i := by rw [tryI]; omega
theorem idsF_ok (x : List Int) : ∀ v, v ≤ 255 → (∀ a ∈ idsF x v, 0 ≤ a ∧ a ≤ 255) ∧ (idsF x v).Nodup
  | 0, _ => ⟨fun a h => (by simp [idsF] at h), by simp [idsF]⟩
  | v + 1, hv => by
    obtain ⟨i1, i2⟩ := idsF_ok x v (by omega)
    have hw := within_range (gI x v) (b := 256) (by omega)
    have hf := free_spec (l := idsF x v) (i := within (gI x v) 256) hw.1 (by omega) 256 0 rfl (fun j hj => by omega) (by rw [idsF_len]; omega)
    rw [try_zero hw.1 (by omega)] at hf
    rw [idsF]
    refine ⟨fun a ha => ?_, ?_⟩
    · rcases List.mem_append.1 ha with h | h
      · exact i1 a h
      · have : a = freeF (idsF x v) 256 (within (gI x v) 256) := by simpa using h
        rw [this]; exact ⟨hf.1, hf.2.1⟩
    · rw [List.nodup_append]
      refine ⟨i2, by simp, fun a ha b hb e => ?_⟩
      have : b = freeF (idsF x v) 256 (within (gI x v) 256) := by simpa using hb
      rw [← this, ← e] at hf
      exact hf.2.2 ha

def ownN (x : Net) (n : Nat) : Own := [(0, .vec n 1 (vI (idsF x.ids n))), (1, .vec n 1 fun _ _ => .nilslice)]
def Net.n1 (x : Net) : Int := IntKind.i64.wrap (x.n - 1)
def Net.size (x : Net) (most : Int) : Nat := (1 + within x.n1 most).toNat
theorem getD_snocI (l : List Int) (a : Int) (i : Nat) : gI (l ++ [a]) i = if i < l.length then gI l i else if i = l.length then a else 0 := by
  by_cases h : i < l.length
  · simp only [gI, List.getD, List.getElem?_append_left h, if_pos h]
  · rw [if_neg h]
    by_cases h2 : i = l.length
    · subst h2; simp [gI]
    · simp [gI, h2, List.getElem?_eq_none (by simp; omega : (l ++ [a]).length ≤ i)]
theorem vle_appI (l : List Int) (a : Int) (n : Nat) (hn : l.length = n) (i j : Nat) (hi : i < n + 1) (hj : j < 1) :
    VLe (fapp (shiftF 0 (vI l)) n (shiftF 0 (tab [[.int .i64 a]])) i j) (vI (l ++ [a]) i j) := by
  apply VLe.of_eq
  subst hn
  by_cases h : i < l.length
  · rw [fapp_lt h]
    simp only [shiftF, vI, getD_snocI, if_pos h]
  · rw [fapp_ge h]
    have : i = l.length := by omega
    subst this
    obtain rfl : j = 0 := by omega
    simp [shiftF, vI, getD_snocI, tab]

set_option maxHeartbeats 8000000 in
theorem nodes_ok (x : Net) (hx : x.Small) (most : Int) (h1 : 1 ≤ most) (h2 : most ≤ 24) :
    CallF Tryz.prog 76 [x.v, .int .i64 most] [] KS fun v own' _ => v = gV1 (x.size most) (x.size most) ∧ own' = ownN x (x.size most) := by
  have hw := within_ok x.n1 most (by omega)
  have hwr := within_range x.n1 h1
  have hn : 1 + within x.n1 most = (x.size most : Nat) := by rw [Net.size]; omega
  have hsz : 1 ≤ x.size most ∧ x.size most ≤ 24 := by omega
  have hids := hx.ids
  generalize x.size most = n at *
  refine call_post ?_
  refine fn_rule mixed Tryz.func76 rfl hc76 hr76 rfl ?_
  repeat' ((conv => whnf); first | (refine Ar.mk x.n1 rfl ?_) | (refine Ar.i64 (by omega) (by omega) ?_; rw [hn]) | (refine Bd.nat (by omega) ?_) | (refine Len.mk (by omega) ?_) | (refine MkS.vec ?_) | (refine (hw _ _).mono ?_; rintro _ _ _ ⟨rfl, rfl, rfl⟩))
  all_goals (conv => whnf)
  refine loop_u mixed [2, 4, 5, 6] [4] [5, 6, 7, 8, 9, 10, 11, 12, 13, 14, 15, 16, 17, 18, 19, 20, 21, 22, 23, 24, 25, 26, 27, 28, 29] [4, 3, 2, 1, 0] (fun v : Nat => [(7, .int .i64 v)]) (fun own v => (4, .vec v 1 (vI (idsF x.ids v))) :: updO own 3 (.cells [.vec 4 1 0 v, .vec 2 1 0 n])) (fun m v => m = n - v ∧ v ≤ n) n 0 ⟨rfl, by omega⟩ rfl (fun _ => rfl) ?_ ?_
  · refine weak_by (fun _ _ => [(0, some 0), (1, some 1), (2, some 2), (3, some 3), (4, none)]) ?_ ?_ rfl
    · repeat' (first | exact True.intro | (refine ⟨⟨_, rfl, ?_⟩, ?_⟩) | exact VRen.kf rfl | exact VRen.loc rfl)
    · repeat' (first | exact True.intro | (refine ⟨⟨_, rfl, ?_⟩, ?_⟩) | exact VRen.kf rfl | exact VRen.vec rfl rfl rfl | exact VRen.nil rfl rfl | (refine ⟨Nat.le_refl _, rfl, fun i j hi hj => ?_⟩) | exact VLe.rfl | (refine ⟨⟨_, _, rfl⟩, ?_⟩) | (refine And.intro ?_ ?_))
  rintro m v ⟨hm, hv⟩
  have hat := at_ok x.ids hids v
  have hw2 := within_ok (gI x.ids v) 256 (by omega)
  have hr2 := within_range (gI x.ids v) (b := 256) (by omega)
  have hil := idsF_len x.ids v
  have hsn : idsF x.ids (v + 1) = idsF x.ids v ++ [freeF (idsF x.ids v) 256 (within (gI x.ids v) 256)] := rfl
  have htz := try_zero hr2.1 (by omega)
  generalize within (gI x.ids v) 256 = id0 at *
  generalize hL : idsF x.ids v = L at *
  repeat' ((conv => whnf); first | (refine Br.dec ?_ ?_ <;> intro _ <;> try omega) | (refine (hat _ _).mono ?_; rintro _ _ _ ⟨rfl, rfl, rfl⟩) | (refine (hw2 _ _).mono ?_; rintro _ _ _ ⟨rfl, rfl, rfl⟩))
  all_goals (conv => whnf)
  · refine loop_r mixed [2, 4, 5, 6, 7] (fun p : Nat × Nat => [(8, .int .i64 (tryI id0 p.1)), (9, .int .i64 p.2)]) (fun m p => m = (256 - p.1) * 25 + (v - p.2) ∧ p.1 ≤ 256 ∧ p.2 ≤ v ∧ (∀ j, j < p.1 → tryI id0 j ∈ L) ∧ (∀ j, j < p.2 → gI L j ≠ tryI id0 p.1) ∧ freeF L (256 - p.1) (tryI id0 p.1) = freeF L 256 id0) _ (0, 0) ⟨rfl, by omega, by omega, fun j hj => (by omega), fun j hj => (by omega), (by show freeF L 256 (tryI id0 0) = _; rw [htz])⟩ ?_ ?_
    · refine weak_by (fun _ _ => [(0, some 0), (1, some 1), (2, some 2), (3, some 3), (4, some 4)]) ?_ ?_ rfl
      · repeat' (first | exact VRen.int htz.symm | exact True.intro | (refine ⟨⟨_, rfl, ?_⟩, ?_⟩) | exact VRen.kf rfl | exact VRen.loc rfl)
      · repeat' (first | exact True.intro | (refine ⟨⟨_, rfl, ?_⟩, ?_⟩) | exact VRen.kf rfl | exact VRen.vec rfl rfl rfl | (refine ⟨Nat.le_refl _, rfl, fun i j hi hj => ?_⟩) | exact VLe.rfl | (refine And.intro ?_ ?_))
    rintro m ⟨k, u⟩ ⟨hm2, hk, hu, hall, hne, hfr⟩
    simp only at hm2 hk hu hall hne hfr
    have htr : 0 ≤ tryI id0 k ∧ tryI id0 k ≤ 255 := by rw [tryI]; omega
    have htn : (tryI id0 k + 1).tmod 256 = tryI id0 (k + 1) := by rw [Int.tmod_eq_emod_of_nonneg (by omega), tryI_next]
    generalize hT : tryI id0 k = T at *
    repeat' ((conv => whnf); first | (refine Br.dec ?_ ?_ <;> intro _ <;> try omega) | (refine Br.nbeq ?_ ?_ <;> intro _ <;> try omega) | (refine Ar.i64 (by omega) (by omega) ?_) | (refine Sv.mk _ rfl ?_) | (refine Nz.mk (by omega) ?_) | (refine Ix.nat (by omega) ?_) | (refine Len.mk (by omega) ?_) | (refine Ltn.mk (by omega) ?_))
    all_goals (conv => whnf)
    · rename_i h3 h4
      have hin : T ∈ L := by rw [← h4]; exact gI_mem (by omega)
      have hk2 : k < 256 := by
        rcases Nat.lt_or_ge k 256 with h | h
        · exact h
        · exact (free_ends (l := L) (by omega) id0 (fun j hj => hall j (by omega))).elim
      refine ⟨_, (k + 1, 0), ?_, ⟨rfl, by omega, by omega, fun j hj => ?_, fun j hj => (by omega), ?_⟩, ?_⟩
      · simp only; omega
      · simp only at hj
        by_cases e : j = k
        · subst e; rw [hT]; exact hin
        · exact hall j (by omega)
      · simp only
        rw [← hfr, show 256 - k = (256 - (k + 1)) + 1 by omega, freeF, if_pos hin, ← hT, tryI_next]
      · refine weak_by (fun _ _ => [(0, some 0), (1, some 1), (2, some 2), (3, some 3), (4, some 4)]) ?_ ?_ rfl
        · repeat' (first | exact VRen.int htn | exact True.intro | (refine ⟨⟨_, rfl, ?_⟩, ?_⟩) | exact VRen.kf rfl | exact VRen.loc rfl)
        · repeat' (first | exact True.intro | (refine ⟨⟨_, rfl, ?_⟩, ?_⟩) | exact VRen.kf rfl | exact VRen.vec rfl rfl rfl | (refine ⟨Nat.le_refl _, rfl, fun i j hi hj => ?_⟩) | exact VLe.rfl | (refine And.intro ?_ ?_))
    · rename_i h3 h4
      refine ⟨_, (k, u + 1), ?_, ⟨rfl, hk, by omega, hall, fun j hj => ?_, by rw [hT]; exact hfr⟩, ?_⟩
      · simp only; omega
      · simp only at hj ⊢
        rw [hT]
        by_cases e : j = u
        · subst e; simpa using h4
        · exact hne j (by omega)
      · refine weak_by (fun _ _ => [(0, some 0), (1, some 1), (2, some 2), (3, some 3), (4, some 4)]) ?_ ?_ rfl
        · repeat' (first | exact VRen.int hT.symm | exact True.intro | (refine ⟨⟨_, rfl, ?_⟩, ?_⟩) | exact VRen.kf rfl | exact VRen.loc rfl)
        · repeat' (first | exact True.intro | (refine ⟨⟨_, rfl, ?_⟩, ?_⟩) | exact VRen.kf rfl | exact VRen.vec rfl rfl rfl | (refine ⟨Nat.le_refl _, rfl, fun i j hi hj => ?_⟩) | exact VLe.rfl | (refine And.intro ?_ ?_))
    · have hno : T ∉ L := fun h => by
        obtain ⟨j, j1, j2⟩ := gI_get h
        exact hne j (by omega) j2
      have hfin : freeF L 256 id0 = T := by
        rw [← hfr]
        cases h : 256 - k with
        | zero => rfl
        | succ f => rw [freeF, if_neg hno]
      rw [hfin] at hsn
      repeat' ((conv => whnf); first | fail)
      all_goals (conv => whnf)
      all_goals
        refine ⟨n - (v + 1), v + 1, by omega, ⟨rfl, by omega⟩, ?_⟩
        simp only [hsn]
        refine weak_by (fun env own => [(0, some 0), (1, some 1), (2, some 2), (3, some 3), (4, ckeyo own 3 0)]) ?_ ?_ rfl
        · repeat' (first | exact True.intro | (refine ⟨⟨_, rfl, ?_⟩, ?_⟩) | exact VRen.kf rfl | exact VRen.loc rfl)
        · repeat' (first | (refine ⟨Nat.le_refl _, rfl, fun i j hi hj => ?_⟩) | exact vle_appI _ _ _ hil _ _ hi hj | exact True.intro | (refine ⟨⟨_, rfl, ?_⟩, ?_⟩) | exact VRen.kf rfl | exact VRen.vec rfl rfl rfl | exact VLe.rfl | (refine And.intro ?_ ?_))
  · have e : v = n := by omega
    subst e
    exact postR_byV (fun v o => [(0, vkey v 0), (1, vkey v 1)]) _ _ ⟨rfl, rfl⟩ (VRen.agg ⟨VRen.vec rfl rfl rfl, VRen.vec rfl rfl rfl, True.intro⟩) ⟨⟨_, rfl, Nat.le_refl _, rfl, fun _ _ _ _ => VLe.of_eq (by rw [hL])⟩, ⟨_, rfl, Nat.le_refl _, rfl, fun i j hi hj => VLe.of_eq (by obtain rfl : j = 0 := (by omega); rfl)⟩, True.intro⟩ rfl
theorem mem_gR {p : Ps} {r : List (Int × Int)} (h : r ∈ p) : ∃ u, gR p u = r := by
  obtain ⟨i, hi, e⟩ := List.mem_iff_getElem.1 h
  exact ⟨i, by simp [gR, List.getD, hi, e]⟩
theorem small_of {g : G} (h1 : g.ids.length ≤ 1000) (h2 : g.ports.length ≤ 1000) (h3 : ∀ u, (gR g.ports u).length ≤ 1000) : g.Small :=
  ⟨by omega, by omega, fun r hr => by obtain ⟨u, rfl⟩ := mem_gR hr; have := h3 u; omega⟩
end Go.Proofs.YtcnpplcfabdoaaaGreat
