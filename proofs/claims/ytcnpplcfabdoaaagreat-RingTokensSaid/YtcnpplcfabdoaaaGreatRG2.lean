import Derived.Test.YtcnpplcfabdoaaaGreatSV5
namespace Go.Proofs.YtcnpplcfabdoaaaGreat
open Go.Eng
set_option maxRecDepth 100000
set_option linter.unusedVariables false

/-! ## the program of the ring -/

def hdT : Tm := .agg 29 (.leaf 12 0)
def ownT : Tm := .leaf 5 0
def pRing : Pr := ⟨ByteArray.mk #[114, 105, 110, 103], vX, [⟨ByteArray.mk #[116, 117, 114, 110], .bin 41 (.leaf 10 0) (.bin 35 ownT hdT), [(0, .bin 32 (.bin 33 ownT (.leaf 1 1)) (.bin 33 (.leaf 6 0) (.leaf 1 1)))]⟩,
  ⟨ByteArray.mk #[99, 111, 112, 121], .bin 41 (.un 19 (.leaf 10 0)) (.bin 36 ownT hdT), [(0, hdT)]⟩]⟩

theorem tru_ne (b : Bool) : (truI b ≠ 0) ↔ b = true := by cases b <;> simp [truI]
theorem tru_eq0 (b : Bool) : (truI b = 0) ↔ b = false := by cases b <;> simp [truI]
def prevN (n v : Nat) : Nat := (v + n - 1) % n
theorem ring_row {g : G} (h : g.rfit = true) {v : Nat} (hv : v < g.ids.length) : (gR g.ports v).length = 2 ∧ (gF (gR g.ports v) 0).1 = (prevN g.ids.length v : Nat) ∧ (gF (gR g.ports v) 1).1 = ((v + 1) % g.ids.length : Nat) := by
  obtain ⟨h1, h2, h3, h4⟩ := rfit_facts h
  simp only [G.rfit, Bool.and_eq_true] at h
  obtain ⟨r1, r2⟩ := ring_iff.1 h.2
  obtain ⟨q1, q2, q3⟩ := fitR_iff.1 (r2 v (by omega))
  refine ⟨q1, ?_, ?_⟩
  · rw [q2, prevN, ← mod_facts hv]
  · rw [q3, Int.tmod_eq_emod_of_nonneg (by omega)]
    norm_cast
theorem hd_sem {g : G} (h : g.rfit = true) (c : Cf) {v : Nat} (hv : v < g.ids.length) (port : Int) : hdT.sem g c v port = x0 c (prevN g.ids.length v) := by
  obtain ⟨h1, h2, h3⟩ := ring_row h hv
  have : (List.range 2).map (fun i : Nat => (Tm.leaf 12 0).sem g c v (i : Nat)) = [gI (gC c (nbV g v 0)) 0, gI (gC c (nbV g v 1)) 0] := rfl
  simp only [hdT, Tm.sem, h1]
  show fldI 29 [gI (gC c (nbV g v 0)) 0, gI (gC c (nbV g v 1)) 0] = _
  show gI (gC c (nbV g v 0)) 0 = _
  simp only [nbV, Int.toNat_zero, h2, Int.toNat_natCast]
theorem own_sem (g : G) (c : Cf) (v : Nat) (port : Int) : ownT.sem g c v port = x0 c v := rfl
theorem ring_gds {g : G} (h : g.rfit = true) (c : Cf) {v : Nat} (hv : v < g.ids.length) : gds pRing g c v = [truI (decide (v = 0) && decide (x0 c v = x0 c (prevN g.ids.length v))), truI (!decide (v = 0) && !decide (x0 c v = x0 c (prevN g.ids.length v)))] := by
  have e1 : (Tm.bin 41 (.leaf 10 0) (.bin 35 ownT hdT)).sem g c v (-1) = truI (decide (v = 0) && decide (x0 c v = x0 c (prevN g.ids.length v))) := by
    simp only [Tm.sem, hd_sem h c hv, own_sem]
    show truI (decide (truI (decide (v = 0)) ≠ 0 ∧ truI (decide (x0 c v = x0 c (prevN g.ids.length v))) ≠ 0)) = _
    congr 1
    simp only [tru_ne, decide_eq_true_eq, Bool.decide_and]
  have e2 : (Tm.bin 41 (.un 19 (.leaf 10 0)) (.bin 36 ownT hdT)).sem g c v (-1) = truI (!decide (v = 0) && !decide (x0 c v = x0 c (prevN g.ids.length v))) := by
    simp only [Tm.sem, hd_sem h c hv, own_sem]
    show truI (decide (truI (decide (truI (decide (v = 0)) = 0)) ≠ 0 ∧ truI (decide (x0 c v ≠ x0 c (prevN g.ids.length v))) ≠ 0)) = _
    congr 1
    simp only [tru_ne, decide_eq_true_eq, Bool.decide_and, tru_eq0, decide_eq_false_iff_not]
    simp
  exact congr (congrArg List.cons e1) (congrArg (fun x => [x]) e2)
theorem ring_rule {g : G} (h : g.rfit = true) (c : Cf) {v : Nat} (hv : v < g.ids.length) : decide (0 ≤ ruleI pRing g c v) = pv c g.ids.length v := by
  rw [ruleI, ring_gds h c hv, pv]
  show decide (0 ≤ idxI 0 _) = (decide (x0 c v = x0 c (prevN g.ids.length v)) == decide (v = 0))
  cases decide (v = 0) <;> cases decide (x0 c v = x0 c (prevN g.ids.length v)) <;> rfl
theorem ring_en {g : G} (h : g.rfit = true) {c : Cf} (hc : g.rconf c = true) : enN pRing g c = g.rpriv c := by
  have hl : c.length = g.ids.length := (conf_small hc).1
  rw [G.rpriv, h, hc, if_pos (by rfl), enN, hl]
  exact nb_ext fun v hv => ring_rule h c hv

/-! ## how many are privileged -/

def cntB (p : Nat → Bool) : Nat → Nat
  | 0 => 0
  | n + 1 => cntB p n + if p n then 1 else 0
theorem cntB_shift (p : Nat → Bool) : ∀ n, cntB p (n + 1) = (if p 0 then 1 else 0) + cntB (fun v => p (v + 1)) n
  | 0 => by simp [cntB]
  | n + 1 => by rw [cntB, cntB_shift p n, cntB]; omega
theorem chg_cnt (c : Cf) : ∀ k, chg c k = cntB (fun v => !decide (x0 c v = x0 c (v + 1))) k
  | 0 => rfl
  | k + 1 => by
    rw [chg, cntB, ← chg_cnt c k]
    by_cases h : x0 c k = x0 c (k + 1) <;> simp [h]
theorem cntB_ext {p q : Nat → Bool} : ∀ {n : Nat}, (∀ v, v < n → p v = q v) → cntB p n = cntB q n
  | 0, _ => rfl
  | n + 1, h => by
    have h1 := cntB_ext (n := n) fun v hv => h v (by omega)
    simp only [cntB, h1, h n (by omega)]
theorem chg_zero {c : Cf} : ∀ {k : Nat}, chg c k = 0 → x0 c 0 = x0 c k
  | 0, _ => rfl
  | k + 1, h => by
    by_cases e : x0 c k = x0 c (k + 1)
    · rw [chg_eq e] at h; exact (chg_zero h).trans e
    · rw [chg_ne e] at h; omega
theorem chg_one {c : Cf} : ∀ {k : Nat}, chg c k = 1 → x0 c 0 ≠ x0 c k
  | 0, h => by simp [chg] at h
  | k + 1, h => by
    by_cases e : x0 c k = x0 c (k + 1)
    · rw [chg_eq e] at h; rw [← e]; exact chg_one h
    · rw [chg_ne e] at h
      have := chg_zero (show chg c k = 0 by omega)
      rw [this]; exact e
theorem priv_cnt {c : Cf} {n : Nat} (hn : 1 ≤ n) : cntB (pv c n) n = (if x0 c 0 = x0 c (n - 1) then 1 else 0) + chg c (n - 1) := by
  obtain ⟨m, rfl⟩ : ∃ m, n = m + 1 := ⟨n - 1, by omega⟩
  rw [cntB_shift, pv_zero (by omega), chg_cnt]
  congr 1
  · simp
  · show cntB _ m = cntB _ m
    refine cntB_ext fun v hv => ?_
    show pv c (m + 1) (v + 1) = _
    rw [pv_pos (by omega) (by omega)]
    show (!decide (x0 c (v + 1) = x0 c v)) = _
    congr 1
    exact decide_eq_decide.2 ⟨fun h => h.symm, fun h => h.symm⟩
theorem priv_one {c : Cf} {n : Nat} (hn : 1 ≤ n) : 1 ≤ cntB (pv c n) n ∧ (cntB (pv c n) n = 1 ↔ chg c (n - 1) ≤ 1) := by
  rw [priv_cnt hn]
  by_cases h0 : chg c (n - 1) = 0
  · rw [if_pos (chg_zero h0)]; omega
  · by_cases h1 : chg c (n - 1) = 1
    · rw [if_neg (chg_one h1)]; omega
    · split <;> omega

/-! ## one bit -/

theorem nb_plus {p : Nat → Bool} {n : Nat} (h : p n = true) : nb p (n + 1) = nb p n + 2 ^ n := by
  have := Nat.two_pow_add_eq_or_of_lt (nb_pow p n) 1
  rw [Nat.mul_one] at this
  rw [nb_yes h, Nat.or_comm, ← this, Nat.add_comm]
theorem nb_cnt0 {p : Nat → Bool} : ∀ {n : Nat}, cntB p n = 0 ↔ nb p n = 0
  | 0 => by simp [cntB, nb]
  | n + 1 => by
    have ih := nb_cnt0 (p := p) (n := n)
    cases e : p n with
    | false => rw [nb_no e, cntB, e]; simpa using ih
    | true =>
      rw [nb_plus e, cntB, e]
      have : 0 < 2 ^ n := Nat.two_pow_pos n
      constructor
      · intro h; simp at h
      · intro h; have : 0 < 2 ^ n := Nat.two_pow_pos n; omega
theorem and_pred_of_low {a k : Nat} (ha : a < 2 ^ k) (h0 : a ≠ 0) : (a + 2 ^ k) &&& (a + 2 ^ k - 1) ≠ 0 := by
  intro h
  have h1 : (a + 2 ^ k).testBit k = true := by
    rw [Nat.add_comm, Nat.testBit_two_pow_add_eq]
    simp [Nat.testBit_lt_two_pow ha]
  have h2 : (a + 2 ^ k - 1).testBit k = true := by
    rw [show a + 2 ^ k - 1 = 2 ^ k + (a - 1) by omega, Nat.testBit_two_pow_add_eq]
    simp [Nat.testBit_lt_two_pow (show a - 1 < 2 ^ k by omega)]
  have : ((a + 2 ^ k) &&& (a + 2 ^ k - 1)).testBit k = true := by rw [Nat.testBit_and, h1, h2]; rfl
  rw [h] at this
  simp at this
theorem nb_single {p : Nat → Bool} : ∀ {n : Nat}, (nb p n &&& (nb p n - 1) = 0 ↔ cntB p n ≤ 1)
  | 0 => by simp [cntB, nb]
  | n + 1 => by
    cases e : p n with
    | false => rw [nb_no e, cntB, e]; simpa using nb_single (p := p) (n := n)
    | true =>
      rw [nb_plus e, cntB, e]
      by_cases h : nb p n = 0
      · have h0 := nb_cnt0.2 h
        rw [h, h0]
        simp only [Nat.zero_add, if_true, Nat.le_refl, iff_true]
        rw [Nat.and_two_pow_sub_one_eq_mod, Nat.mod_self]
      · have hc : cntB p n ≠ 0 := fun h2 => h (nb_cnt0.1 h2)
        constructor
        · intro h2
          exact (and_pred_of_low (nb_pow p n) h h2).elim
        · intro h2; simp at h2; omega
theorem ring_tokens {g : G} (h : g.rfit = true) {c : Cf} (hc : g.rconf c = true) : g.rpriv c ≠ 0 ∧ (g.rlegit c = true ↔ g.rpriv c &&& (g.rpriv c - 1) = 0) := by
  obtain ⟨h1, h2, h3, h4⟩ := rfit_facts h
  have hl : c.length = g.ids.length := (conf_small hc).1
  obtain ⟨p1, p2⟩ := priv_one (c := c) (n := c.length) (by omega)
  have e : g.rpriv c = nb (pv c c.length) c.length := by rw [G.rpriv, h, hc, if_pos (by rfl)]
  rw [e, nb_single, G.rlegit, h, hc, Bool.true_and, Bool.true_and, decide_eq_true_eq]
  refine ⟨fun h0 => ?_, ?_⟩
  · have := nb_cnt0.2 h0; omega
  · omega
end Go.Proofs.YtcnpplcfabdoaaaGreat
