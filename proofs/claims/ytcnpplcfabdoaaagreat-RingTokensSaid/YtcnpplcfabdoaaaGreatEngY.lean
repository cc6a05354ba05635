import Derived.Test.YtcnpplcfabdoaaaGreatEngX
/-! ## the parts of a set, in ascending order -/
set_option linter.unusedVariables false
namespace Go.Eng

theorem add_or {x y : Nat} (hx : x < 4294967296) (hy : y < 4294967296) (h : x &&& y = 0) : x + y = x ||| y := by
  have hb : BitVec.ofNat 33 x &&& BitVec.ofNat 33 y = 0#33 := by
    apply BitVec.eq_of_toNat_eq
    rw [BitVec.toNat_and, BitVec.toNat_ofNat, BitVec.toNat_ofNat, Nat.mod_eq_of_lt (by omega), Nat.mod_eq_of_lt (by omega), h]
    simp
  have := congrArg BitVec.toNat (BitVec.add_eq_or_of_and_eq_zero _ _ hb)
  rw [BitVec.toNat_add, BitVec.toNat_or, BitVec.toNat_ofNat, BitVec.toNat_ofNat, Nat.mod_eq_of_lt (a := x) (by omega), Nat.mod_eq_of_lt (a := y) (by omega), Nat.mod_eq_of_lt (by omega)] at this
  exact this

theorem lt_of_bit {s t k : Nat} (h1 : s.testBit k = false) (h2 : t.testBit k = true) (h3 : ∀ j, k < j → s.testBit j = t.testBit j) : s < t := by
  have hd : s / 2 ^ (k + 1) = t / 2 ^ (k + 1) := by
    apply Nat.eq_of_testBit_eq
    intro i
    rw [Nat.testBit_div_two_pow, Nat.testBit_div_two_pow]
    exact h3 _ (by omega)
  have e1 := Nat.div_add_mod s (2 ^ (k + 1))
  have e2 := Nat.div_add_mod t (2 ^ (k + 1))
  have m1 : s % 2 ^ (k + 1) < 2 ^ k := by
    rw [Nat.mod_pow_succ]
    have : s / 2 ^ k % 2 = 0 := by
      rw [Nat.testBit_eq_decide_div_mod_eq] at h1
      have := of_decide_eq_false h1
      omega
    rw [this]
    have := Nat.mod_lt s (Nat.two_pow_pos k)
    omega
  have m2 : 2 ^ k ≤ t % 2 ^ (k + 1) := by
    rw [Nat.mod_pow_succ]
    have : t / 2 ^ k % 2 = 1 := by
      rw [Nat.testBit_eq_decide_div_mod_eq] at h2
      exact of_decide_eq_true h2
    rw [this]
    omega
  rw [hd] at e1
  omega

def Part (s E : Nat) : Prop := ∀ i, s.testBit i = true → E.testBit i = true
theorem Part.le {s E : Nat} (h : Part s E) : s ≤ E := by
  apply Nat.ge_of_not_lt
  intro hlt
  have : s &&& E = s := Nat.eq_of_testBit_eq fun i => by
    rw [Nat.testBit_and]
    cases e : s.testBit i with
    | false => rfl
    | true => rw [h i e]; rfl
  have := Nat.and_le_right (n := s) (m := E)
  omega
theorem part_and (s E : Nat) : Part (s &&& E) E := fun i h => by rw [Nat.testBit_and, Bool.and_eq_true] at h; exact h.2
theorem part_iff {s E : Nat} (hs : s < 4294967296) : ndiff s E = 0 ↔ Part s E := by
  constructor
  · intro h i hi
    have hi32 : i < 32 := by
      rcases Nat.lt_or_ge i 32 with h | h
      · exact h
      · rw [bit_high hs h] at hi; cases hi
    have := ndiff_bit (a := s) (b := E) hi32
    rw [h, Nat.zero_testBit, hi] at this
    simpa using this.symm
  · intro h
    apply Nat.eq_of_testBit_eq
    intro i
    rw [Nat.zero_testBit]
    by_cases hi : i < 32
    · rw [ndiff_bit hi]
      cases e : s.testBit i with
      | false => rfl
      | true => rw [h i e]; rfl
    · rw [ndiff, Nat.testBit_and, bit_high hs (by omega)]; rfl

def nxt (E s : Nat) : Nat := ((4294967296 + s - E) % 4294967296) &&& E
theorem nxt_lt {E s : Nat} (hE : E < 4294967296) : nxt E s < 4294967296 := Nat.lt_of_le_of_lt Nat.and_le_right hE
theorem nxt_part (E s : Nat) : Part (nxt E s) E := part_and _ _
theorem nxt_self {E : Nat} (hE : E < 4294967296) : nxt E E = 0 := by
  rw [nxt, show (4294967296 + E - E) % 4294967296 = 0 by omega, Nat.zero_and]
theorem nxt_gt {E s : Nat} (hE : E < 4294967296) (hp : Part s E) (hne : s ≠ E) : s < nxt E s := by
  have hsE := hp.le
  have hs : s < 4294967296 := by omega
  have hdis : s &&& ndiff E s = 0 := by
    apply Nat.eq_of_testBit_eq
    intro i
    rw [Nat.zero_testBit, Nat.testBit_and]
    by_cases hi : i < 32
    · rw [ndiff_bit hi]; cases s.testBit i <;> simp
    · rw [bit_high hs (by omega)]; rfl
  have hdlt : ndiff E s < 4294967296 := Nat.lt_of_le_of_lt Nat.and_le_left hE
  have hsum : s + ndiff E s = E := by
    rw [add_or hs hdlt hdis]
    apply Nat.eq_of_testBit_eq
    intro i
    rw [Nat.testBit_or]
    by_cases hi : i < 32
    · rw [ndiff_bit hi]
      cases e : s.testBit i with
      | false => simp
      | true => rw [hp i e]; rfl
    · rw [bit_high hs (by omega), bit_high hdlt (by omega), bit_high hE (by omega)]; rfl
  have hd0 : ndiff E s ≠ 0 := by omega
  obtain ⟨k1, k2, k3⟩ := ctz_spec hd0 hdlt
  have hneg : (4294967296 + s - E) % 4294967296 = 4294967296 - ndiff E s := by omega
  have hbit : ∀ i, i < 32 → (nxt E s).testBit i = ((!(if i < ctz (ndiff E s) + 1 then decide (i < ctz (ndiff E s)) else (ndiff E s).testBit i)) && E.testBit i) := by
    intro i hi
    have e : (4294967296 : Nat) - ndiff E s = 2 ^ 32 - ((ndiff E s - 1) + 1) := by omega
    rw [nxt, hneg, Nat.testBit_and, e, Nat.testBit_two_pow_sub_succ (by omega), low_pred k2 k3]
    simp [hi]
  have hk2 := k2
  rw [ndiff_bit k1, Bool.and_eq_true] at hk2
  refine lt_of_bit (k := ctz (ndiff E s)) (by simpa using hk2.2) ?_ ?_
  · rw [hbit _ k1, if_pos (by omega), hk2.1]; simp
  · intro j hj
    by_cases h32 : j < 32
    · rw [hbit _ h32, if_neg (by omega), ndiff_bit h32]
      cases e : s.testBit j with
      | true => rw [hp j e]; rfl
      | false => cases E.testBit j <;> rfl
    · rw [bit_high hs (by omega), bit_high (nxt_lt hE) (by omega)]

/-- all that is not 0, from s on -/
def subsF (E : Nat) : Nat → Nat → List Nat
  | 0, _ => []
  | f + 1, s => if s = 0 then [] else s :: subsF E f (nxt E s)
theorem subsF_nil (E : Nat) : ∀ f, subsF E f 0 = []
  | 0 => rfl
  | f + 1 => by rw [subsF, if_pos rfl]
theorem subsF_stable {E : Nat} (hE : E < 4294967296) : ∀ f f' s, Part s E → E + 1 - s ≤ f → E + 1 - s ≤ f' → subsF E f s = subsF E f' s
  | 0, f', s, hp, h, _ => by have := hp.le; omega
  | f + 1, 0, s, hp, _, h => by have := hp.le; omega
  | f + 1, f' + 1, s, hp, h1, h2 => by
    rw [subsF, subsF]
    by_cases h0 : s = 0
    · rw [if_pos h0, if_pos h0]
    · rw [if_neg h0, if_neg h0]
      congr 1
      by_cases e : s = E
      · subst e; rw [nxt_self hE, subsF_nil, subsF_nil]
      · have := nxt_gt hE hp e
        have := hp.le
        exact subsF_stable hE f f' _ (nxt_part E s) (by omega) (by omega)
def subs (E s : Nat) : List Nat := subsF E (E + 1 - s) s
theorem subs_zero (E : Nat) : subs E 0 = [] := subsF_nil _ _
theorem subs_cons {E s : Nat} (hE : E < 4294967296) (hp : Part s E) (h0 : s ≠ 0) : subs E s = s :: subs E (nxt E s) := by
  have hle := hp.le
  rw [subs, show E + 1 - s = (E - s) + 1 by omega, subsF, if_neg h0]
  congr 1
  by_cases e : s = E
  · subst e; rw [nxt_self hE, subsF_nil, subs_zero]
  · have := nxt_gt hE hp e
    exact subsF_stable hE _ _ _ (nxt_part E s) (by omega) (by omega)
theorem subs_part {E : Nat} (hE : E < 4294967296) : ∀ f s, Part s E → E - s ≤ f → ∀ t ∈ subs E s, Part t E ∧ t ≠ 0 ∧ s ≤ t
  | f, s, hp, hf, t, ht => by
    by_cases h0 : s = 0
    · subst h0; rw [subs_zero] at ht; cases ht
    · rw [subs_cons hE hp h0] at ht
      rcases List.mem_cons.1 ht with e | e
      · subst e; exact ⟨hp, h0, Nat.le_refl _⟩
      · by_cases hs : s = E
        · subst hs; rw [nxt_self hE, subs_zero] at e; cases e
        · have h1 := nxt_gt hE hp hs
          have h2 := hp.le
          cases f with
          | zero => omega
          | succ f =>
            have := subs_part hE f _ (nxt_part E s) (by omega) t e
            exact ⟨this.1, this.2.1, by omega⟩

/-- the least element alone; 0 of nothing -/
def lowb (s : Nat) : Nat := if s = 0 then 0 else 2 ^ ctz s
theorem lowb_lt (s : Nat) (hs : s < 4294967296) : lowb s < 4294967296 := by
  rw [lowb]; split
  · omega
  · exact pow_lt32 (ctz_spec (by assumption) hs).1
theorem lowb_neg {s : Nat} (hs : s < 4294967296) : s &&& ((4294967296 - s) % 4294967296) = lowb s := by
  rw [lowb]
  by_cases h : s = 0
  · subst h; rfl
  · rw [if_neg h, Nat.mod_eq_of_lt (by omega)]
    obtain ⟨h1, h2, h3⟩ := ctz_spec h hs
    exact low_neg h2 h3 hs h1
theorem lowb_part {s : Nat} (hs : s < 4294967296) : Part (lowb s) s := by rw [← lowb_neg hs, Nat.and_comm]; exact part_and _ _
theorem lowb_ne {s : Nat} (h : s ≠ 0) : lowb s ≠ 0 := by rw [lowb, if_neg h]; exact Nat.ne_of_gt (Nat.two_pow_pos _)

theorem Ar.neg32 {a : Nat} {K : Int → Prop} (ha : a < 4294967296) (hK : K (((4294967296 - a) % 4294967296 : Nat) : Int)) : Ar .u32 (0 - (a : Int)) K := by
  refine ⟨_, ?_, hK⟩
  simp only [IntKind.wrap, IntKind.bits, IntKind.signed, Bool.false_and]
  first | (split <;> omega) | (simp; omega)
theorem Ar.sub32 {a b : Nat} {K : Int → Prop} (ha : a < 4294967296) (hb : b < 4294967296) (hK : K (((4294967296 + a - b) % 4294967296 : Nat) : Int)) : Ar .u32 ((a : Int) - (b : Int)) K := by
  refine ⟨_, ?_, hK⟩
  simp only [IntKind.wrap, IntKind.bits, IntKind.signed, Bool.false_and]
  first | (split <;> omega) | (simp; omega)
end Go.Eng
