import Derived.Test.YtcnpplcfabdoaaaGreatEngW
/-! ## the least element of a set -/
set_option linter.unusedVariables false
namespace Go.Eng

def ctzF (s : Nat) : Nat → Nat → Nat
  | 0, i => i
  | n + 1, i => if s.testBit i then i else ctzF s n (i + 1)
def ctz (s : Nat) : Nat := ctzF s 32 0
theorem ctzF_spec (s : Nat) : ∀ n i, (ctzF s n i = i + n ∧ ∀ j, i ≤ j → j < i + n → s.testBit j = false) ∨ (ctzF s n i < i + n ∧ i ≤ ctzF s n i ∧ s.testBit (ctzF s n i) = true ∧ ∀ j, i ≤ j → j < ctzF s n i → s.testBit j = false)
  | 0, i => .inl ⟨rfl, fun j h1 h2 => by omega⟩
  | n + 1, i => by
    by_cases h : s.testBit i = true
    · right
      have e : ctzF s (n + 1) i = i := by rw [ctzF, if_pos h]
      rw [e]
      exact ⟨by omega, Nat.le_refl _, h, fun j h1 h2 => by omega⟩
    · have e : ctzF s (n + 1) i = ctzF s n (i + 1) := by rw [ctzF, if_neg h]
      rw [e]
      have h' : s.testBit i = false := by simpa using h
      rcases ctzF_spec s n (i + 1) with ⟨h1, h2⟩ | ⟨h1, h2, h3, h4⟩
      · exact .inl ⟨by omega, fun j a b => by
          by_cases e : j = i
          · subst e; exact h'
          · exact h2 j (by omega) (by omega)⟩
      · exact .inr ⟨by omega, by omega, h3, fun j a b => by
          by_cases e : j = i
          · subst e; exact h'
          · exact h4 j (by omega) b⟩
theorem bit_high {s j : Nat} (hs : s < 4294967296) (hj : 32 ≤ j) : s.testBit j = false :=
  Nat.testBit_lt_two_pow (Nat.lt_of_lt_of_le hs (Nat.pow_le_pow_right (n := 2) (by omega) hj))
theorem ctz_spec {s : Nat} (h0 : s ≠ 0) (hs : s < 4294967296) : ctz s < 32 ∧ s.testBit (ctz s) = true ∧ ∀ j, j < ctz s → s.testBit j = false := by
  rcases ctzF_spec s 32 0 with ⟨h1, h2⟩ | ⟨h1, h2, h3, h4⟩
  · exfalso
    apply h0
    apply Nat.eq_of_testBit_eq
    intro i
    rw [Nat.zero_testBit]
    by_cases hi : i < 32
    · exact h2 i (by omega) (by omega)
    · exact bit_high hs (by omega)
  · exact ⟨by simpa [ctz] using h1, h3, fun j hj => h4 j (by omega) hj⟩
theorem ctz_unique {s k : Nat} (hk : k < 32) (h1 : s.testBit k = true) (h2 : ∀ j, j < k → s.testBit j = false) : ctz s = k := by
  rcases ctzF_spec s 32 0 with ⟨a, b⟩ | ⟨a, _, b, c⟩
  · rw [b k (by omega) (by omega)] at h1; cases h1
  · show ctzF s 32 0 = k
    rcases Nat.lt_trichotomy (ctzF s 32 0) k with h | h | h
    · rw [h2 _ h] at b; cases b
    · exact h
    · rw [c k (by omega) h] at h1; cases h1

section
variable {s k : Nat} (hk : s.testBit k = true) (hz : ∀ j, j < k → s.testBit j = false)
include hk hz
theorem low_mod : s % 2 ^ (k + 1) = 2 ^ k := by
  apply Nat.eq_of_testBit_eq
  intro i
  rw [Nat.testBit_mod_two_pow, Nat.testBit_two_pow]
  by_cases h : i = k
  · subst h; simp [hk]
  · by_cases h2 : i < k
    · rw [hz i h2]; simp; omega
    · have : ¬ i < k + 1 := by omega
      simp [this]; omega
theorem low_pred (j : Nat) : (s - 1).testBit j = if j < k + 1 then decide (j < k) else s.testBit j := by
  have h1 := low_mod hk hz
  have h2 := Nat.div_add_mod s (2 ^ (k + 1))
  have h3 : s - 1 = 2 ^ (k + 1) * (s / 2 ^ (k + 1)) + (2 ^ k - 1) := by
    have := Nat.two_pow_pos k
    omega
  have hlt : 2 ^ k - 1 < 2 ^ (k + 1) := by
    have := Nat.two_pow_pos k
    have h4 : 2 ^ (k + 1) = 2 * 2 ^ k := by rw [Nat.pow_succ]; omega
    omega
  rw [h3, Nat.testBit_two_pow_mul_add _ hlt]
  by_cases h : j < k + 1
  · rw [if_pos h, if_pos h, Nat.testBit_two_pow_sub_one]
  · rw [if_neg h, if_neg h, Nat.testBit_div_two_pow]
    congr 1; omega
theorem low_rest (j : Nat) : (s &&& (s - 1)).testBit j = (s.testBit j && decide (j ≠ k)) := by
  rw [Nat.testBit_and, low_pred hk hz]
  by_cases h : j < k + 1
  · rw [if_pos h]
    by_cases e : j = k
    · subst e; simp
    · rw [hz j (by omega)]; simp
  · rw [if_neg h]
    have : j ≠ k := by omega
    simp [this]
theorem low_neg (hs : s < 4294967296) (hk32 : k < 32) : s &&& (4294967296 - s) = 2 ^ k := by
  apply Nat.eq_of_testBit_eq
  intro i
  have hpos : 0 < s := by
    rcases Nat.eq_zero_or_pos s with h | h
    · subst h; simp at hk
    · exact h
  have e : (4294967296 : Nat) - s = 2 ^ 32 - ((s - 1) + 1) := by omega
  rw [Nat.testBit_and, e, Nat.testBit_two_pow_sub_succ (by omega), low_pred hk hz, Nat.testBit_two_pow]
  by_cases h : i < k + 1
  · rw [if_pos h]
    by_cases e : i = k
    · subst e; simp [hk, hk32]
    · rw [hz i (by omega)]; simp; omega
  · rw [if_neg h]
    have : ¬ k = i := by omega
    cases s.testBit i <;> simp [this]
end

/-- the elements from b on -/
def upS (s b : Nat) : Nat := nb (fun i => s.testBit i && decide (b ≤ i)) 32
theorem upS_bit {s b : Nat} (hs : s < 4294967296) (i : Nat) : (upS s b).testBit i = (s.testBit i && decide (b ≤ i)) := by
  rw [upS, nb_bit]
  by_cases h : i < 32
  · simp [h]
  · rw [bit_high hs (by omega)]; simp
theorem upS_lt (s b : Nat) : upS s b < 4294967296 := nb_lt _ (Nat.le_refl _)
theorem upS_zero {s : Nat} (hs : s < 4294967296) : upS s 0 = s := Nat.eq_of_testBit_eq fun i => by rw [upS_bit hs]; simp
theorem upS_next {s b : Nat} (hs : s < 4294967296) (h : upS s b ≠ 0) : ctz (upS s b) < 32 ∧ b ≤ ctz (upS s b) ∧ s.testBit (ctz (upS s b)) = true ∧ (∀ j, b ≤ j → j < ctz (upS s b) → s.testBit j = false) ∧ upS s b &&& (upS s b - 1) = upS s (ctz (upS s b) + 1) := by
  obtain ⟨h1, h2, h3⟩ := ctz_spec h (upS_lt s b)
  have h4 := h2
  rw [upS_bit hs, Bool.and_eq_true, decide_eq_true_eq] at h4
  refine ⟨h1, h4.2, h4.1, fun j a b' => ?_, ?_⟩
  · have := h3 j b'
    rw [upS_bit hs] at this
    simpa [a] using this
  · apply Nat.eq_of_testBit_eq
    intro i
    rw [low_rest h2 h3, upS_bit hs, upS_bit hs]
    by_cases e : i = ctz (upS s b)
    · have hd : decide (ctz (upS s b) + 1 ≤ i) = false := by rw [decide_eq_false_iff_not]; omega
      have hd2 : decide (i ≠ ctz (upS s b)) = false := by rw [decide_eq_false_iff_not]; exact fun h => h e
      rw [hd, hd2, Bool.and_false, Bool.and_false]
    · have hd2 : decide (i ≠ ctz (upS s b)) = true := by rw [decide_eq_true_eq]; exact e
      rw [hd2, Bool.and_true]
      by_cases hi : i < ctz (upS s b)
      · have hd : decide (ctz (upS s b) + 1 ≤ i) = false := by rw [decide_eq_false_iff_not]; omega
        have := h3 i hi
        rw [upS_bit hs] at this
        rw [this, hd, Bool.and_false]
      · have hd : decide (ctz (upS s b) + 1 ≤ i) = true := by rw [decide_eq_true_eq]; omega
        have hd3 : decide (b ≤ i) = true := by rw [decide_eq_true_eq]; omega
        rw [hd, hd3]
theorem upS_end {s b : Nat} (hs : s < 4294967296) (h : upS s b = 0) (j : Nat) (hj : b ≤ j) : s.testBit j = false := by
  have := upS_bit (b := b) hs j
  rw [h, Nat.zero_testBit] at this
  simpa [hj] using this.symm

/-- how many elements below n -/
def cnt (s : Nat) : Nat → Nat
  | 0 => 0
  | n + 1 => if s.testBit n then cnt s n + 1 else cnt s n
theorem cnt_le (s : Nat) : ∀ n, cnt s n ≤ n
  | 0 => Nat.le_refl _
  | n + 1 => by have := cnt_le s n; rw [cnt]; split <;> omega
theorem cnt_ext {s t : Nat} : ∀ {n : Nat}, (∀ i, i < n → s.testBit i = t.testBit i) → cnt s n = cnt t n
  | 0, _ => rfl
  | n + 1, h => by rw [cnt, cnt, cnt_ext (fun i hi => h i (by omega)), h n (by omega)]
theorem cnt_zero {s : Nat} : ∀ {n : Nat}, (∀ i, i < n → s.testBit i = false) → cnt s n = 0
  | 0, _ => rfl
  | n + 1, h => by rw [cnt, cnt_zero (fun i hi => h i (by omega)), h n (by omega)]; rfl
theorem cnt_add {s : Nat} (a : Nat) : ∀ b, cnt s (a + b) = cnt s a + cnt (s >>> a) b
  | 0 => rfl
  | b + 1 => by
    rw [← Nat.add_assoc, cnt, cnt, cnt_add a b, Nat.testBit_shiftRight]
    split <;> omega
/-- one element -/
theorem cnt_one {s k : Nat} (hk : s.testBit k = true) (ho : ∀ j, j ≠ k → s.testBit j = false) {n : Nat} (hn : k < n) : cnt s n = 1 := by
  induction n with
  | zero => omega
  | succ n ih =>
    rw [cnt]
    by_cases e : n = k
    · subst e; rw [if_pos hk, cnt_zero (fun i hi => ho i (by omega))]
    · rw [ho n e, if_neg (by simp)]; exact ih (by omega)
theorem cnt_pos {s k : Nat} (hk : s.testBit k = true) : ∀ {n : Nat}, k < n → 1 ≤ cnt s n
  | 0, h => by omega
  | n + 1, h => by
    rw [cnt]
    by_cases e : n = k
    · subst e; rw [if_pos hk]; omega
    · have := cnt_pos hk (n := n) (by omega); split <;> omega
theorem cnt_two {s j k : Nat} (hj : s.testBit j = true) (hk : s.testBit k = true) (hjk : j < k) : ∀ {n : Nat}, k < n → 2 ≤ cnt s n
  | 0, h => by omega
  | n + 1, h => by
    rw [cnt]
    by_cases e : n = k
    · subst e; rw [if_pos hk]; have := cnt_pos hj (n := n) hjk; omega
    · have := cnt_two hj hk hjk (n := n) (by omega); split <;> omega
theorem single_iff {s : Nat} (h0 : s ≠ 0) (hs : s < 4294967296) : s &&& (s - 1) = 0 ↔ cnt s 32 = 1 := by
  obtain ⟨h1, h2, h3⟩ := ctz_spec h0 hs
  constructor
  · intro h
    refine cnt_one h2 (fun j hj => ?_) h1
    have := low_rest h2 h3 j
    rw [h, Nat.zero_testBit] at this
    simpa [hj] using this.symm
  · intro h
    apply Nat.eq_of_testBit_eq
    intro j
    rw [Nat.zero_testBit, low_rest h2 h3]
    by_cases e : j = ctz s
    · simp [e]
    · cases hb : s.testBit j with
      | false => rfl
      | true =>
        exfalso
        have hj32 : j < 32 := by
          rcases Nat.lt_or_ge j 32 with h | h
          · exact h
          · rw [bit_high hs h] at hb; cases hb
        rcases Nat.lt_or_ge j (ctz s) with h' | h'
        · rw [h3 j h'] at hb; cases hb
        · have := cnt_two h2 hb (by omega) hj32; omega
end Go.Eng
