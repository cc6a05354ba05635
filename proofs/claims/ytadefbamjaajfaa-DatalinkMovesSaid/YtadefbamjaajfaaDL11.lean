/-
  DatalinkMoves: for every input the call returns true, and every argument reads as it did. No condition.
-/
import Derived.Test.YtadefbamjaajfaaDL8
import Derived.Test.YtadefbamjaajfaaDL9
namespace Go.Proofs.Ytadefbamjaajfaa
open Go.Eng Go.ChangeShapes Go.WideShapes Go.ChangeAt Go.RowKit
set_option maxRecDepth 100000
set_option linter.unusedVariables false

/-! ## the plain law behind DatalinkMoves -/

def cyc : List (Int × Int) := [(2, 0), (3, 0), (1, 0)]
def cyc1 (z : DL) : DL := (((z.step 2 0).1.step 3 0).1.step 1 0).1
theorem runs_cyc (z : DL) : (z.runs cyc).1 = cyc1 z := rfl

theorem loseL_cons {α : Type} (f : α) (r : List α) : loseL (f :: r) 0 = r := by
  unfold loseL
  rw [if_neg (by omega), if_neg (by simp only [List.length_cons]; omega)]
  rfl

theorem step2_nil {z : DL} (h : z.fr = []) : (z.step 2 0).1 = z := by
  unfold DL.step
  rw [if_neg (by decide), if_pos rfl, if_pos (by rw [h]; rfl)]
theorem step2_cons {z : DL} {f : Int × Int} {r : List (Int × Int)} (h : z.fr = f :: r) : (z.step 2 0).1 = { z with fr := r, ak := putL z.ak f.1 z.cap, last := f.1 } := by
  have hg : gF z.fr 0 = f := by rw [h]; rfl
  unfold DL.step
  rw [if_neg (by decide), if_pos rfl, if_neg (by rw [h]; simp only [List.length_cons]; omega), hg, h, loseL_cons]
  split
  · rename_i e; simp only [e]
  · rfl
theorem step3_nil {z : DL} (h : z.ak = []) : (z.step 3 0).1 = z := by
  unfold DL.step
  rw [if_neg (by decide), if_neg (by decide), if_pos rfl, if_pos (by rw [h]; rfl)]
theorem step3_hit {z : DL} {r : List Int} (h : z.ak = z.label :: r) : (z.step 3 0).1 = { z with ak := r, label := (z.label + 1).tmod z.mod, item := capI (z.item + 1) } := by
  have hg : gI z.ak 0 = z.label := by rw [h]; rfl
  unfold DL.step
  rw [if_neg (by decide), if_neg (by decide), if_pos rfl, if_neg (by rw [h]; simp only [List.length_cons]; omega), if_pos hg]
  simp only [h, loseL_cons]
theorem step3_miss {z : DL} {a : Int} {r : List Int} (h : z.ak = a :: r) (hne : a ≠ z.label) : (z.step 3 0).1 = { z with ak := r } := by
  have hg : gI z.ak 0 = a := by rw [h]; rfl
  unfold DL.step
  rw [if_neg (by decide), if_neg (by decide), if_pos rfl, if_neg (by rw [h]; simp only [List.length_cons]; omega), if_neg (by rw [hg]; exact hne)]
  simp only [h, loseL_cons]
theorem step1_eq (z : DL) : (z.step 1 0).1 = { z with fr := putL z.fr (z.label, z.item) z.cap } := by
  unfold DL.step
  rw [if_pos rfl]

theorem putL_room {α : Type} {l : List α} {c : Int} (y : α) (h : (l.length : Int) < c) : putL l y c = l ++ [y] := by
  unfold putL
  rw [if_neg (by omega)]

theorem capI_eq {n : Int} (h : n ≤ 1073741824) : capI n = n := by unfold capI; rw [if_neg (by omega)]

theorem cyc1_valid {z : DL} (h : z.valid = true) : (cyc1 z).valid = true := step_valid 1 0 (step_valid 3 0 (step_valid 2 0 h))

/-- the item: one more at most, none less -/
theorem cyc1_item {z : DL} (h : z.valid = true) (hi : z.item + 1 ≤ 1073741824) : z.item ≤ (cyc1 z).item ∧ (cyc1 z).item ≤ z.item + 1 ∧ (cyc1 z).cap = z.cap := by
  unfold cyc1
  rw [step1_eq]
  have h2 : (z.step 2 0).1.item = z.item ∧ (z.step 2 0).1.cap = z.cap := by
    cases hf : z.fr with
    | nil => rw [step2_nil hf]; exact ⟨rfl, rfl⟩
    | cons f r => rw [step2_cons hf]; exact ⟨rfl, rfl⟩
  generalize hz : (z.step 2 0).1 = y at h2
  cases ha : y.ak with
  | nil => rw [step3_nil ha]; simp only; omega
  | cons a r =>
    by_cases hl : a = y.label
    · subst hl
      rw [step3_hit ha, capI_eq (by omega)]; simp only; omega
    · rw [step3_miss ha hl]; simp only; omega

structure Steady (z : DL) : Prop where
  valid : z.valid = true
  acks : (z.ak.length : Int) ≤ z.cap - 1
  frames : z.fr ≠ []

inductive Near (z : DL) : Nat → Prop
  | ack (q : Nat) (A B : List Int) (h : z.ak = A ++ z.label :: B) (hq : A.length ≤ q) : Near z (q + 1)
  | frame (p : Nat) (F G : List (Int × Int)) (d : Int) (h : z.fr = F ++ (z.label, d) :: G) (hp : F.length + 1 + z.ak.length ≤ p) : Near z p

theorem near_step {z : DL} (hs : Steady z) (hi : z.item + 1 ≤ 1073741824) {n : Nat} (hn : Near z (n + 1)) : z.item < (cyc1 z).item ∨ ((cyc1 z).item = z.item ∧ Steady (cyc1 z) ∧ Near (cyc1 z) n) := by
  have hv := cyc1_valid hs.valid
  have hb := valid_bounds hs.valid
  have hac := hs.acks
  obtain ⟨f, r, hf⟩ : ∃ f r, z.fr = f :: r := by
    cases h : z.fr with
    | nil => exact (hs.frames h).elim
    | cons f r => exact ⟨f, r, rfl⟩
  have hfl : r.length + 1 = z.fr.length := by rw [hf]; simp
  revert hv
  unfold cyc1
  rw [step2_cons hf, putL_room f.1 (by omega), step1_eq]
  obtain ⟨a, s, has⟩ : ∃ a s, z.ak ++ [f.1] = a :: s := by
    cases h : z.ak with
    | nil => exact ⟨f.1, [], rfl⟩
    | cons a s => exact ⟨a, s ++ [f.1], rfl⟩
  have hsl : s.length = z.ak.length := by
    have := congrArg List.length has
    simp at this; omega
  by_cases hl : a = z.label
  · intro _
    left
    subst hl
    rw [step3_hit (z := { z with fr := r, ak := z.ak ++ [f.1], last := f.1 }) (r := s) has]
    simp only [capI_eq hi]
    omega
  · rw [step3_miss (z := { z with fr := r, ak := z.ak ++ [f.1], last := f.1 }) has hl]
    simp only
    intro hv
    right
    rw [putL_room _ (by omega)] at hv ⊢
    refine ⟨trivial, ⟨hv, by simp only; omega, by simp⟩, ?_⟩
    cases hn with
    | ack q A B h hq =>
      rw [h] at has
      cases A with
      | nil => simp at has; exact (hl has.1.symm).elim
      | cons a' A' =>
        simp at has hq
        obtain ⟨q', rfl⟩ : ∃ q', n = q' + 1 := ⟨n - 1, by omega⟩
        exact .ack q' A' (B ++ [f.1]) (by simp only; rw [← has.2]) (by omega)
    | frame p F G d h hp =>
      rw [hf] at h
      cases F with
      | nil =>
        simp at h hp
        have hfe : f.1 = z.label := by rw [h.1]
        cases hak : z.ak with
        | nil => rw [hak] at has; simp at has; exact (hl (by rw [← has.1, hfe])).elim
        | cons a' A' =>
          rw [hak] at has hp
          simp at has hp
          obtain ⟨q', rfl⟩ : ∃ q', n = q' + 1 := ⟨n - 1, by omega⟩
          exact .ack q' A' [] (by simp only; rw [← has.2, hfe]) (by omega)
      | cons f' F' =>
        simp at h hp
        exact .frame n F' (G ++ [(z.label, z.item)]) d (by simp only; rw [h.2]; simp) (by simp only; omega)

theorem first_cyc {z : DL} (hz : z.valid = true) (hi : z.item + 1 ≤ 1073741824) : z.item < (cyc1 z).item ∨ ((cyc1 z).item = z.item ∧ Steady (cyc1 z) ∧ Near (cyc1 z) (2 * z.cap.toNat - 1)) := by
  have hv := cyc1_valid hz
  have hb := valid_bounds hz
  revert hv
  unfold cyc1
  rw [step1_eq]
  -- behind the delivery there is room for a frame
  have h2 : (z.step 2 0).1.item = z.item ∧ (z.step 2 0).1.cap = z.cap ∧ ((z.step 2 0).1.fr.length : Int) ≤ z.cap - 1 ∧ ((z.step 2 0).1.ak.length : Int) ≤ z.cap := by
    have hv2 := valid_bounds (step_valid 2 0 hz)
    cases hf : z.fr with
    | nil => rw [step2_nil hf] at hv2 ⊢; refine ⟨rfl, rfl, by rw [hf]; simp; omega, by omega⟩
    | cons f r =>
      rw [hf] at hb
      simp at hb
      rw [step2_cons hf] at hv2 ⊢
      simp only at hv2 ⊢
      exact ⟨trivial, trivial, by omega, by omega⟩
  generalize hy : (z.step 2 0).1 = y at h2
  cases ha : y.ak with
  | nil =>
    rw [step3_nil ha, putL_room _ (by omega)]
    intro hv
    right
    refine ⟨by simp only; omega, ⟨hv, by simp only [ha]; simp; omega, by simp⟩, .frame _ y.fr [] y.item rfl (by simp only [ha]; simp; omega)⟩
  | cons a r =>
    have hrl : r.length + 1 = y.ak.length := by rw [ha]; simp
    by_cases hl : a = y.label
    · intro _
      left
      subst hl
      rw [step3_hit ha, capI_eq (by omega)]; simp only; omega
    · rw [step3_miss ha hl]
      simp only
      rw [putL_room _ (by omega)]
      intro hv
      right
      refine ⟨by omega, ⟨hv, by simp only; omega, by simp⟩, .frame _ y.fr [] y.item rfl (by simp only; omega)⟩

def cycN : Nat → DL → DL
  | 0, z => z
  | n + 1, z => cyc1 (cycN n z)

theorem cycN_inv {z : DL} (hz : z.valid = true) (n : Nat) (hi : z.item + n ≤ 1073741823) : (cycN n z).valid = true ∧ z.item ≤ (cycN n z).item ∧ (cycN n z).item ≤ z.item + n ∧ (cycN n z).cap = z.cap := by
  induction n with
  | zero => exact ⟨hz, Int.le_refl _, by simp [cycN], rfl⟩
  | succ n ih =>
    obtain ⟨a, b, c, d⟩ := ih (by omega)
    obtain ⟨e, f, g⟩ := cyc1_item a (by omega)
    exact ⟨cyc1_valid a, by simp only [cycN]; omega, by simp only [cycN]; omega, by simp only [cycN]; rw [g, d]⟩

theorem cycN_near {z : DL} (hz : z.valid = true) (N : Nat) (hN : 2 * z.cap.toNat = N) (hi : z.item + N ≤ 1073741823) (n : Nat) (hn : n + 1 ≤ N) :
    z.item < (cycN (n + 1) z).item ∨ ((cycN (n + 1) z).item = z.item ∧ Steady (cycN (n + 1) z) ∧ Near (cycN (n + 1) z) (N - 1 - n)) := by
  induction n with
  | zero =>
    rcases first_cyc hz (by omega) with h | ⟨h1, h2, h3⟩
    · exact .inl h
    · exact .inr ⟨h1, h2, by rw [hN] at h3; exact h3⟩
  | succ n ih =>
    have hinv := cycN_inv hz (n + 1) (by omega)
    rcases ih (by omega) with h | ⟨h1, h2, h3⟩
    · left
      have := (cyc1_item hinv.1 (by omega)).1
      simp only [cycN] at this h ⊢
      omega
    · obtain ⟨m, hm⟩ : ∃ m, N - 1 - n = m + 1 := ⟨N - 1 - (n + 1), by omega⟩
      rw [hm] at h3
      rcases near_step h2 (by omega) h3 with h | ⟨q1, q2, q3⟩
      · left
        show z.item < (cyc1 (cycN (n + 1) z)).item
        omega
      · right
        refine ⟨by show (cyc1 (cycN (n + 1) z)).item = _; omega, q2, ?_⟩
        rw [show N - 1 - (n + 1) = m by omega]
        exact q3

/-- twice the capacity of cycles make the item grow -/
theorem moves_plain {z : DL} (hz : z.valid = true) (hi : z.item ≤ 100000) : z.item < (cycN (2 * z.cap.toNat) z).item := by
  have hb := valid_bounds hz
  obtain ⟨n, hn⟩ : ∃ n, 2 * z.cap.toNat = n + 1 := ⟨2 * z.cap.toNat - 1, by omega⟩
  have := cycN_near hz (n + 1) hn (by omega) n (by omega)
  rw [hn]
  rcases this with h | ⟨_, _, h3⟩
  · exact h
  · exfalso
    rw [show n + 1 - 1 - n = 0 by omega] at h3
    cases h3 with
    | frame p F G d h hp => omega
end Go.Proofs.Ytadefbamjaajfaa
