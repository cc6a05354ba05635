import Derived.Test.YtjadlpflhmooaaaDoorDM10
namespace Go.Proofs.YtjadlpflhmooaaaDoor
open Go.Eng
set_option maxRecDepth 100000
set_option linter.unusedVariables false

/-! ## the plain laws -/

theorem zero_bits {s : Nat} : s = 0 ↔ ∀ i, s.testBit i = false := ⟨fun h i => by subst h; simp, fun h => Nat.eq_of_testBit_eq fun i => by rw [h, Nat.zero_testBit]⟩
theorem and_zero_iff {a b : Nat} : a &&& b = 0 ↔ ∀ i, a.testBit i = true → b.testBit i = false := by
  rw [zero_bits]
  constructor
  · intro h i hi
    have := h i
    rw [Nat.testBit_and, hi, Bool.true_and] at this
    exact this
  · intro h i
    rw [Nat.testBit_and]
    cases e : a.testBit i with
    | false => rfl
    | true => rw [h i e]; rfl

def adj (g : G) (u v : Nat) : Bool := (nm (gR g.ports u)).testBit v
theorem adj_iff {g : G} {u v : Nat} : adj g u v = true ↔ ∃ l ∈ gR g.ports u, l.1.toNat = v := by
  rw [adj, nm_bit, List.any_eq_true]; simp
theorem adj_sym {g : G} (hg : g.valid = true) {u v : Nat} (hu : u < g.ports.length) (h : adj g u v = true) : adj g v u = true := by
  obtain ⟨f1, f2, f3, f4, f5, f6, f7⟩ := val_facts hg
  obtain ⟨l, hl, rfl⟩ := adj_iff.1 h
  exact adj_iff.2 ⟨_, f7 u hu l hl, by simp⟩
theorem adj_irr {g : G} (hg : g.valid = true) {u : Nat} (hu : u < g.ports.length) : adj g u u = false := by
  obtain ⟨f1, f2, f3, f4, f5, f6, f7⟩ := val_facts hg
  cases h : adj g u u with
  | false => rfl
  | true =>
    obtain ⟨l, hl, h2⟩ := adj_iff.1 h
    have := (okR_iff.1 (f6 u hu)).1 l hl
    omega
theorem ind_iff {g : G} {s : Nat} : ind g s = true ↔ ∀ v u, v < g.ports.length → s.testBit v = true → adj g v u = true → s.testBit u = false := by
  rw [ind, decide_eq_true_eq]
  constructor
  · intro h v u hv hb ha
    exact and_zero_iff.1 (h v hv hb) u ha
  · intro h v hv hb
    exact and_zero_iff.2 (fun u ha => h v u hv hb ha)
theorem ind_mono {g : G} {s t : Nat} (hp : Part t s) (h : ind g s = true) : ind g t = true := by
  rw [ind_iff] at h ⊢
  intro v u hv hb ha
  have := h v u hv (hp v hb) ha
  cases e : t.testBit u with
  | false => rfl
  | true => rw [hp u e] at this; cases this

theorem single_low {c : Nat} (h0 : c ≠ 0) (hc : c < 4294967296) (h : c &&& (c - 1) = 0) : c = 2 ^ ctz c := by
  obtain ⟨k1, k2, k3⟩ := ctz_spec h0 hc
  apply Nat.eq_of_testBit_eq
  intro j
  have := low_rest k2 k3 j
  rw [h, Nat.zero_testBit] at this
  rw [Nat.testBit_two_pow]
  by_cases e : ctz c = j
  · subst e; rw [k2]; simp
  · rw [decide_eq_false e]
    have hd : decide (j ≠ ctz c) = true := by rw [decide_eq_true_eq]; exact fun x => e x.symm
    rw [hd, Bool.and_true] at this
    exact this.symm
theorem pow_single (k : Nat) : 2 ^ k &&& (2 ^ k - 1) = 0 := by rw [Nat.and_two_pow_sub_one_eq_mod, Nat.mod_self]
theorem low_one (s : Nat) : lowb s &&& (lowb s - 1) = 0 := by
  rw [lowb]; split
  · rfl
  · exact pow_single _
theorem pow_bit {k j : Nat} (h : (2 ^ k : Nat).testBit j = true) : k = j := by rw [Nat.testBit_two_pow, decide_eq_true_eq] at h; exact h
theorem single_ind {g : G} (hg : g.valid = true) {c : Nat} (h0 : c ≠ 0) (hc : c < 4294967296) (h : c &&& (c - 1) = 0) : ind g c = true := by
  rw [ind_iff]
  intro v u hv hb ha
  rw [single_low h0 hc h] at hb ⊢
  have e := pow_bit hb
  subst e
  cases e2 : (2 ^ ctz c : Nat).testBit u with
  | false => rfl
  | true =>
    have e3 := pow_bit e2
    rw [← e3, adj_irr hg hv] at ha
    cases ha

/-! ### Within, parts -/

theorem inner_iff {g : G} {k : Int} {e c : Nat} : inner g k e c = true ↔ c ≠ 0 ∧ ndiff c e = 0 ∧ okC g k e c = true := by
  rw [inner, Bool.and_eq_true, decide_eq_true_eq, and_assoc]
theorem perm_iff {g : G} {k : Int} {e c : Nat} : g.perm k e c = true ↔ g.poss k e = true ∧ c ≠ 0 ∧ ndiff c e = 0 ∧ okC g k e c = true := by
  rw [G.perm, Bool.and_eq_true, inner_iff]
theorem poss_iff {g : G} {k : Int} {e : Nat} : g.poss k e = true ↔ g.valid = true ∧ dk k = true ∧ ndiff e (full g.ports.length) = 0 := by
  rw [G.poss, Bool.and_eq_true, Bool.and_eq_true, decide_eq_true_eq]
theorem okC1 {g : G} {e c : Nat} : okC g 1 e c = true ↔ c &&& (c - 1) = 0 := by rw [okC, if_pos rfl, decide_eq_true_eq]
theorem okC2 {g : G} {e c : Nat} : okC g 2 e c = true ↔ ind g c = true := by rw [okC, if_neg (by decide), if_pos rfl]
theorem okC3 {g : G} {e c : Nat} : okC g 3 e c = true := by rw [okC, if_neg (by decide), if_neg (by decide), if_neg (by decide)]
theorem okC4 {g : G} {e c : Nat} : okC g 4 e c = true ↔ c = e := by rw [okC, if_neg (by decide), if_neg (by decide), if_pos rfl, decide_eq_true_eq]

theorem perm_within {g : G} {a b : Int} {e c : Nat} (hc : c < 4294967296) (hw : wi a b = true) (h : g.perm a e c = true) : g.perm b e c = true := by
  rw [perm_iff] at h ⊢
  obtain ⟨h1, h2, h3, h4⟩ := h
  rw [poss_iff] at h1 ⊢
  rw [wi, decide_eq_true_eq] at hw
  obtain ⟨w1, w2, w3⟩ := hw
  refine ⟨⟨h1.1, dk_iff.2 w2, h1.2.2⟩, h2, h3, ?_⟩
  rcases w3 with rfl | rfl | ⟨rfl, rfl⟩
  · exact h4
  · exact okC3
  · exact okC2.2 (single_ind h1.1 h2 hc (okC1.1 h4))
theorem wi_refl {a : Int} (h : dk a = true) : wi a a = true := by rw [wi, decide_eq_true_eq]; rw [dk_iff] at h; omega
theorem wi_trans {a b c : Int} (h1 : wi a b = true) (h2 : wi b c = true) : wi a c = true := by
  rw [wi, decide_eq_true_eq] at h1 h2 ⊢; omega

theorem perm_part {g : G} {k : Int} {e c p : Nat} (he : e < 4294967296) (hc : c < 4294967296) (hk : k = 2 ∨ k = 3) (h : g.perm k e c = true) (hp : Part p c) (h0 : p ≠ 0) : g.perm k e p = true ∧ g.perm k c p = true := by
  have hpl := hp.le
  have hp32 : p < 4294967296 := by omega
  rw [perm_iff] at h
  obtain ⟨h1, h2, h3, h4⟩ := h
  have hce := (part_iff hc).1 h3
  have hcp : okC g k e p = true ∧ okC g k c p = true := by
    rcases hk with rfl | rfl
    · exact ⟨okC2.2 (ind_mono hp (okC2.1 h4)), okC2.2 (ind_mono hp (okC2.1 h4))⟩
    · exact ⟨okC3, okC3⟩
  obtain ⟨p1, p2, p3⟩ := poss_iff.1 h1
  refine ⟨perm_iff.2 ⟨h1, h0, (part_iff hp32).2 (part_trans hp hce), hcp.1⟩, perm_iff.2 ⟨poss_iff.2 ⟨p1, p2, ?_⟩, h0, (part_iff hp32).2 hp, hcp.2⟩⟩
  exact (part_iff hc).2 (part_trans hce ((part_iff he).1 p3))
theorem perm_none {g : G} {k : Int} {e : Nat} : g.perm k e 0 = false := by
  cases h : g.perm k e 0 with
  | false => rfl
  | true => exact absurd rfl (perm_iff.1 h).2.1

/-! ### Resolve -/

theorem gr_high {g : G} {W b i : Nat} (h : b ≤ i) : (gr g W b).testBit i = false :=
  Nat.testBit_lt_two_pow (Nat.lt_of_lt_of_le (gr_pow g W b) (Nat.pow_le_pow_right (n := 2) (by omega) h))
theorem gr_bit {g : G} {W i : Nat} : ∀ {b : Nat}, i < b → ((gr g W b).testBit i = true ↔ W.testBit i = true ∧ nm (gR g.ports i) &&& gr g W i = 0)
  | b + 1, h => by
    by_cases e : i = b
    · subst e
      rw [gr]
      split
      · rename_i hh; rw [Nat.testBit_or, Nat.testBit_two_pow_self, Bool.or_true]; exact ⟨fun _ => hh, fun _ => rfl⟩
      · rename_i hh; rw [gr_high (Nat.le_refl _)]; exact ⟨fun x => Bool.noConfusion x, fun x => (hh x).elim⟩
    · have ih := gr_bit (g := g) (W := W) (i := i) (b := b) (by omega)
      rw [gr]
      split
      · rw [Nat.testBit_or, Nat.testBit_two_pow, decide_eq_false (by omega), Bool.or_false]; exact ih
      · exact ih
theorem gr_part (g : G) (W b : Nat) : Part (gr g W b) W := fun i hi => by
  by_cases h : i < b
  · exact ((gr_bit h).1 hi).1
  · rw [gr_high (by omega)] at hi; cases hi
theorem gr_later {g : G} {W i b b' : Nat} (h : i < b) (h' : i < b') : (gr g W b).testBit i = (gr g W b').testBit i := by
  rw [Bool.eq_iff_iff, gr_bit h, gr_bit h']
theorem gr_idx {g : G} {W b i : Nat} (h : (gr g W b).testBit i = true) : i < b := by
  rcases Nat.lt_or_ge i b with h' | h'
  · exact h'
  · rw [gr_high h'] at h; cases h
theorem gr_ind {g : G} (hg : g.valid = true) {W : Nat} (hp : Part W (full g.ports.length)) (b : Nat) : ind g (gr g W b) = true := by
  rw [ind_iff]
  intro v u hv hb ha
  cases hu : (gr g W b).testBit u with
  | false => rfl
  | true =>
    exfalso
    have hub := gr_idx hu
    have hvb := gr_idx hb
    rcases Nat.lt_trichotomy u v with h | h | h
    · have h1 := ((gr_bit hvb).1 hb).2
      rw [gr_later hub h] at hu
      rw [and_zero_iff.1 h1 u ha] at hu; cases hu
    · subst h; rw [adj_irr hg hv] at ha; cases ha
    · have h1 := ((gr_bit hub).1 hu).2
      rw [gr_later hvb h] at hb
      rw [and_zero_iff.1 h1 v (adj_sym hg hv ha)] at hb; cases hb
theorem gr_max {g : G} {W v : Nat} (hvn : v < g.ports.length) (hv : v < 32) (h1 : W.testBit v = true) (h2 : (gr g W 32).testBit v = false) : ind g (gr g W 32 ||| 2 ^ v) = false := by
  cases h : ind g (gr g W 32 ||| 2 ^ v) with
  | false => rfl
  | true =>
    exfalso
    have h3 : ¬ nm (gR g.ports v) &&& gr g W v = 0 := fun x => by
      have := (gr_bit hv).2 ⟨h1, x⟩
      rw [h2] at this; cases this
    apply h3
    rw [and_zero_iff]
    intro u ha
    cases hu : (gr g W v).testBit u with
    | false => rfl
    | true =>
      have huv := gr_idx hu
      rw [gr_later huv (b' := 32) (by omega)] at hu
      have := ind_iff.1 h v u hvn (by rw [Nat.testBit_or, Nat.testBit_two_pow_self, Bool.or_true]) ha
      rw [Nat.testBit_or, hu, Bool.true_or] at this
      cases this
theorem gr_fix {g : G} (hn : g.ports.length ≤ 32) {W : Nat} (hp : Part W (full g.ports.length)) (hi : ind g W = true) : gr g W 32 = W := by
  apply Nat.eq_of_testBit_eq
  intro i
  cases h : W.testBit i with
  | false =>
    cases h2 : (gr g W 32).testBit i with
    | false => rfl
    | true => rw [gr_part g W 32 i h2] at h; cases h
  | true =>
    have hin := part_full hp h
    refine (gr_bit (by omega)).2 ⟨h, and_zero_iff.2 fun u ha => ?_⟩
    have := ind_iff.1 hi i u hin h ha
    cases h2 : (gr g W i).testBit u with
    | false => rfl
    | true => rw [gr_part g W i u h2] at this; cases this
theorem gr_ne {g : G} {W : Nat} (h0 : W ≠ 0) (hW : W < 4294967296) : gr g W 32 ≠ 0 := by
  obtain ⟨k1, k2, k3⟩ := ctz_spec h0 hW
  have h1 : gr g W (ctz W) = 0 := gr_skip (b := 0) (Nat.zero_le _) (fun j _ hj => k3 j hj)
  have h2 := (gr_bit (g := g) (W := W) (i := ctz W) (b := 32) k1).2 ⟨k2, by rw [h1, Nat.and_zero]⟩
  intro h
  rw [h, Nat.zero_testBit] at h2; cases h2

theorem wsh_ne {e w : Nat} (h0 : e ≠ 0) : wsh e w ≠ 0 := by
  rw [wsh]; split
  · exact lowb_ne h0
  · assumption
theorem wsh_wish {e w : Nat} (h : w &&& e ≠ 0) : Part (wsh e w) w := by
  rw [wsh, if_neg h, Nat.and_comm]; exact part_and _ _
theorem part_eq {a b : Nat} (h : Part a b) : a &&& b = a := Nat.eq_of_testBit_eq fun i => by
  rw [Nat.testBit_and]
  cases e : a.testBit i with
  | false => rfl
  | true => rw [h i e]; rfl
theorem rs_part {g : G} {k : Int} {e w : Nat} (he : e < 4294967296) : k ≠ 4 → Part (rs g k e w) (wsh e w) := by
  intro hk
  rw [rs]
  split
  · exact lowb_part (wsh_lt he)
  · split
    · exact gr_part _ _ _
    · exact fun i h => h
theorem rs_inner {g : G} (hg : g.valid = true) {k : Int} {e w : Nat} (hk : dk k = true) (he : e < 4294967296) (hp : Part e (full g.ports.length)) (h0 : e ≠ 0) : inner g k e (rs g k e w) = true := by
  have hW := wsh_lt (w := w) he
  have hWe := wsh_part (w := w) he
  have hWp := part_trans hWe hp
  have hW0 := wsh_ne (w := w) h0
  rw [dk_iff] at hk
  rw [inner_iff]
  by_cases h4 : k = 4
  · subst h4
    have e1 : rs g 4 e w = e := by rw [rs, if_neg (by decide), if_neg (by decide), if_pos rfl]
    rw [e1]
    exact ⟨h0, (part_iff he).2 (fun i h => h), okC4.2 rfl⟩
  · have hpt := rs_part (g := g) (w := w) he h4
    have hlt : rs g k e w < 4294967296 := Nat.lt_of_le_of_lt hpt.le hW
    refine ⟨?_, (part_iff hlt).2 (part_trans hpt hWe), ?_⟩
    · rw [rs]; split
      · exact lowb_ne hW0
      · split
        · exact gr_ne hW0 hW
        · exact hW0
    · have hk' : k = 1 ∨ k = 2 ∨ k = 3 := by omega
      rcases hk' with rfl | rfl | rfl
      · rw [okC1, rs, if_pos rfl]; exact low_one _
      · rw [okC2, rs, if_neg (by decide), if_pos rfl]; exact gr_ind hg hWp 32
      · exact okC3
theorem rs_keeps {g : G} (hg : g.valid = true) {k : Int} {e w : Nat} (hk : dk k = true) (he : e < 4294967296) (hw : w < 4294967296) (hp : Part e (full g.ports.length)) (h : inner g k e w = true) : rs g k e w = w := by
  obtain ⟨f1, f2, f3, f4, f5, f6, f7⟩ := val_facts hg
  obtain ⟨h1, h2, h3⟩ := inner_iff.1 h
  have hwe := (part_iff hw).1 h2
  have hws : wsh e w = w := by rw [wsh, part_eq hwe, if_neg h1]
  rw [dk_iff] at hk
  have hk' : k = 1 ∨ k = 2 ∨ k = 3 ∨ k = 4 := by omega
  rcases hk' with rfl | rfl | rfl | rfl
  · rw [rs, if_pos rfl, hws, lowb, if_neg h1]; exact (single_low h1 hw (okC1.1 h3)).symm
  · rw [rs, if_neg (by decide), if_pos rfl, hws]; exact gr_fix (by omega) (part_trans hwe hp) (okC2.1 h3)
  · rw [rs, if_neg (by decide), if_neg (by decide), if_neg (by decide), hws]
  · rw [rs, if_neg (by decide), if_neg (by decide), if_pos rfl]; exact (okC4.1 h3).symm

/-! ### Choices -/

theorem sing_mem {e c : Nat} : ∀ {b : Nat}, c ∈ sing e b ↔ ∃ v, v < b ∧ e.testBit v = true ∧ c = 2 ^ v
  | 0 => by simp [sing]
  | b + 1 => by
    have ih := sing_mem (e := e) (c := c) (b := b)
    rw [sing]
    constructor
    · intro h
      split at h
      · rename_i hb
        rcases List.mem_append.1 h with h | h
        · obtain ⟨v, a, b', c'⟩ := ih.1 h; exact ⟨v, by omega, b', c'⟩
        · exact ⟨b, by omega, hb, by simpa using h⟩
      · obtain ⟨v, a, b', c'⟩ := ih.1 h; exact ⟨v, by omega, b', c'⟩
    · rintro ⟨v, h1, h2, rfl⟩
      by_cases e1 : v = b
      · subst e1; rw [if_pos h2]; simp
      · have := ih.2 ⟨v, by omega, h2, rfl⟩
        split
        · exact List.mem_append_left _ this
        · exact this
theorem sing_sorted {e : Nat} : ∀ b, (sing e b).Pairwise (· < ·)
  | 0 => .nil
  | b + 1 => by
    rw [sing]
    split
    · refine List.pairwise_append.2 ⟨sing_sorted b, by simp, fun x hx y hy => ?_⟩
      obtain ⟨v, h1, _, rfl⟩ := sing_mem.1 hx
      simp only [List.mem_singleton] at hy
      subst hy
      exact Nat.pow_lt_pow_right (by omega) h1
    · exact sing_sorted b

theorem one_bit {j : Nat} (h : j ≠ 0) : (1 : Nat).testBit j = false := by
  have := Nat.testBit_two_pow (n := 0) (m := j)
  rw [Nat.pow_zero] at this
  rw [this, decide_eq_false (by omega)]
/-- the next part is the least greater one -/
theorem nxt_least {E s t : Nat} (hE : E < 4294967296) (hp : Part s E) (hpt : Part t E) (hst : s < t) : nxt E s ≤ t := by
  have hsE := hp.le
  have htE := hpt.le
  have hs : s < 4294967296 := by omega
  have hne : s ≠ E := by omega
  have hd0 : ndiff E s ≠ 0 := by
    intro h
    have := ((part_iff hE).1 h).le
    omega
  have hdlt : ndiff E s < 4294967296 := Nat.lt_of_le_of_lt Nat.and_le_left hE
  obtain ⟨k1, k2, k3⟩ := ctz_spec hd0 hdlt
  have hdis : s &&& ndiff E s = 0 := by
    apply Nat.eq_of_testBit_eq
    intro i
    rw [Nat.zero_testBit, Nat.testBit_and]
    by_cases hi : i < 32
    · rw [ndiff_bit hi]; cases s.testBit i <;> simp
    · rw [bit_high hs (by omega)]; rfl
  have hsum : s + ndiff E s = E := by
    rw [add_or hs hdlt hdis]
    apply Nat.eq_of_testBit_eq
    intro i
    rw [Nat.testBit_or]
    by_cases hi : i < 32
    · rw [ndiff_bit hi]
      cases e : s.testBit i with
      | false => simp
      | true => rw [hp i e]; rfl
    · rw [bit_high hs (by omega), bit_high hdlt (by omega), bit_high hE (by omega)]; rfl
  have hneg : (4294967296 + s - E) % 4294967296 = 4294967296 - ndiff E s := by omega
  generalize hk : ctz (ndiff E s) = k at *
  have hbit : ∀ i, i < 32 → (nxt E s).testBit i = ((!(if i < k + 1 then decide (i < k) else (ndiff E s).testBit i)) && E.testBit i) := by
    intro i hi
    have e : (4294967296 : Nat) - ndiff E s = 2 ^ 32 - ((ndiff E s - 1) + 1) := by omega
    rw [nxt, hneg, Nat.testBit_and, e, Nat.testBit_two_pow_sub_succ (by omega), low_pred k2 k3]
    simp [hi]
  have hk2 := k2
  rw [ndiff_bit k1, Bool.and_eq_true] at hk2
  have hsk : s.testBit k = false := by simpa using hk2.2
  -- below k the part is all of it
  have hlow : ∀ i, i < k → s.testBit i = E.testBit i := fun i hi => by
    have := k3 i hi
    rw [ndiff_bit (by omega)] at this
    cases e : s.testBit i with
    | true => rw [hp i e]
    | false => rw [e] at this; simpa using this.symm
  -- the next one is t's high part at most
  have hlt : s / 2 ^ k < t / 2 ^ k := by
    rcases Nat.lt_or_ge (s / 2 ^ k) (t / 2 ^ k) with h | h
    · exact h
    · exfalso
      have h1 : t / 2 ^ k = s / 2 ^ k := Nat.le_antisymm h (Nat.div_le_div_right (Nat.le_of_lt hst))
      have h2 : t % 2 ^ k ≤ s % 2 ^ k := by
        apply Part.le
        intro i hi
        rw [Nat.testBit_mod_two_pow, Bool.and_eq_true, decide_eq_true_eq] at hi ⊢
        exact ⟨hi.1, by rw [hlow i hi.1]; exact hpt i hi.2⟩
      have a1 := Nat.div_add_mod s (2 ^ k)
      have a2 := Nat.div_add_mod t (2 ^ k)
      rw [h1] at a2
      omega
  have hn : nxt E s = 2 ^ k * (s / 2 ^ k + 1) := by
    have heven : s / 2 ^ k + 1 = s / 2 ^ k ||| 1 := by
      have h1 : (s / 2 ^ k) % 2 = 0 := by
        rw [Nat.testBit_eq_decide_div_mod_eq, decide_eq_false_iff_not] at hsk
        omega
      apply Nat.eq_of_testBit_eq
      intro i
      rw [Nat.testBit_or]
      cases i with
      | zero => simp [Nat.testBit_zero]; omega
      | succ i =>
        rw [Nat.testBit_succ, Nat.testBit_succ, Nat.testBit_succ, show (s / 2 ^ k + 1) / 2 = s / 2 ^ k / 2 by omega]
        simp
    apply Nat.eq_of_testBit_eq
    intro i
    rw [heven, Nat.testBit_two_pow_mul]
    by_cases hi : i < 32
    · rw [hbit i hi]
      by_cases h1 : i < k
      · rw [if_pos (by omega), decide_eq_true h1, decide_eq_false (by omega)]; rfl
      · by_cases h2 : i = k
        · subst h2
          rw [if_pos (by omega), decide_eq_false (by omega), hk2.1]; simp
        · rw [if_neg (by omega), ndiff_bit hi, decide_eq_true (by omega), Nat.testBit_or, Nat.testBit_div_two_pow, show i - k + k = i by omega, one_bit (show i - k ≠ 0 by omega)]
          cases e : s.testBit i with
          | true => rw [hp i e]; rfl
          | false => cases E.testBit i <;> rfl
    · have h3 : (s / 2 ^ k ||| 1).testBit (i - k) = false := by
        rw [Nat.testBit_or, Nat.testBit_div_two_pow, show i - k + k = i by omega, bit_high hs (by omega)]
        rw [one_bit (by omega)]; rfl
      rw [h3, bit_high (nxt_lt hE) (by omega), Bool.and_false]
  rw [hn]
  exact Nat.le_trans (Nat.mul_le_mul_left _ hlt) (Nat.mul_div_le t (2 ^ k))

theorem subs_mem {E t : Nat} (hE : E < 4294967296) (ht : Part t E) (h0 : t ≠ 0) : ∀ f s, Part s E → s ≠ 0 → s ≤ t → t - s ≤ f → t ∈ subs E s
  | f, s, hp, hs0, hst, hf => by
    rw [subs_cons hE hp hs0]
    by_cases e : t = s
    · subst e; simp
    · have htE := ht.le
      have hlt : s < t := by omega
      have h1 := nxt_gt hE hp (by omega)
      have h2 := nxt_least hE hp ht hlt
      cases f with
      | zero => omega
      | succ f => exact List.mem_cons_of_mem _ (subs_mem hE ht h0 f _ (nxt_part E s) (by omega) h2 (by omega))
theorem subs_sorted {E : Nat} (hE : E < 4294967296) : ∀ f s, Part s E → E - s ≤ f → (subs E s).Pairwise (· < ·)
  | f, s, hp, hf => by
    by_cases h0 : s = 0
    · subst h0; rw [subs_zero]; exact .nil
    · rw [subs_cons hE hp h0]
      by_cases hs : s = E
      · subst hs; rw [nxt_self hE, subs_zero]; simp
      · have h1 := nxt_gt hE hp hs
        have h2 := hp.le
        have h3 := (nxt_part E s).le
        refine List.Pairwise.cons (fun t ht => ?_) ?_
        · have := (subs_part hE (E - nxt E s) _ (nxt_part E s) (Nat.le_refl _) t ht).2.2
          omega
        · cases f with
          | zero => omega
          | succ f => exact subs_sorted hE f _ (nxt_part E s) (by omega)
theorem lowb_least {E t : Nat} (hE : E < 4294967296) (ht : Part t E) (h0 : t ≠ 0) : lowb E ≤ t := by
  have htE := ht.le
  have ht32 : t < 4294967296 := by omega
  obtain ⟨k1, k2, k3⟩ := ctz_spec h0 ht32
  obtain ⟨j1, j2, j3⟩ := ctz_spec (s := E) (by omega) hE
  have h1 : ctz E ≤ ctz t := by
    rcases Nat.lt_or_ge (ctz t) (ctz E) with h | h
    · have := j3 _ h
      rw [ht _ k2] at this; cases this
    · exact h
  have h2 : 2 ^ ctz t ≤ t := by
    have := (lowb_part ht32).le
    rw [lowb, if_neg h0] at this
    exact this
  rw [lowb, if_neg (by omega)]
  exact Nat.le_trans (Nat.pow_le_pow_right (n := 2) (by omega) h1) h2

theorem chs_err {g : G} {k : Int} {e : Nat} (hk : dk k = true) (h : (chs g k e).2 ≠ 0) : (chs g k e).2 = 3 ∧ (chs g k e).1 = [] ∧ cnt e 32 > 10 ∧ (k = 2 ∨ k = 3) := by
  rw [dk_iff] at hk
  unfold chs at h ⊢
  split at h
  · exact absurd rfl h
  · split at h
    · exact absurd rfl h
    · split at h
      · exact absurd rfl h
      · split at h
        · rename_i h0 k1 k4 hc
          rw [if_neg h0, if_neg k1, if_neg k4, if_pos hc]
          exact ⟨rfl, rfl, hc, by omega⟩
        · exact absurd rfl h
theorem chs_mem {g : G} {k : Int} {e c : Nat} (hk : dk k = true) (he : e < 4294967296) (hc : c < 4294967296) (h : (chs g k e).2 = 0) : c ∈ (chs g k e).1 ↔ inner g k e c = true := by
  rw [dk_iff] at hk
  rw [inner_iff, part_iff hc]
  unfold chs at h ⊢
  split
  · rename_i h0
    subst h0
    constructor
    · intro x; cases x
    · rintro ⟨a, b, _⟩
      exact absurd (Nat.le_zero.1 b.le) a
  · rename_i h0
    rw [if_neg h0] at h
    split
    · rename_i k1
      subst k1
      rw [okC1]
      show c ∈ sing e 32 ↔ _
      rw [sing_mem]
      constructor
      · rintro ⟨v, h1, h2, rfl⟩
        exact ⟨Nat.ne_of_gt (Nat.two_pow_pos _), fun i hi => by rw [← pow_bit hi]; exact h2, pow_single v⟩
      · rintro ⟨h1, h2, h3⟩
        obtain ⟨j1, j2, j3⟩ := ctz_spec h1 hc
        exact ⟨ctz c, j1, h2 _ j2, single_low h1 hc h3⟩
    · rename_i k1
      rw [if_neg k1] at h
      split
      · rename_i k4
        subst k4
        rw [okC4]
        show c ∈ [e] ↔ _
        rw [List.mem_singleton]
        exact ⟨fun x => by subst x; exact ⟨h0, fun i h => h, rfl⟩, fun x => x.2.2⟩
      · rename_i k4
        rw [if_neg k4] at h
        split
        · rename_i hc'; rw [if_pos hc'] at h; cases h
        · show c ∈ (subs e (lowb e)).filter (okC g k e) ↔ _
          rw [List.mem_filter]
          constructor
          · rintro ⟨h1, h2⟩
            have := subs_part he (e - lowb e) (lowb e) (lowb_part he) (Nat.le_refl _) c h1
            exact ⟨this.2.1, this.1, h2⟩
          · rintro ⟨h1, h2, h3⟩
            exact ⟨subs_mem he h2 h1 _ _ (lowb_part he) (lowb_ne h0) (lowb_least he h2 h1) (Nat.le_refl _), h3⟩
theorem chs_sorted {g : G} {k : Int} {e : Nat} (he : e < 4294967296) : (chs g k e).1.Pairwise (· < ·) := by
  unfold chs
  split
  · exact .nil
  · split
    · exact sing_sorted 32
    · split
      · show [e].Pairwise (· < ·); simp
      · split
        · exact .nil
        · exact (subs_sorted he _ _ (lowb_part he) (Nat.le_refl _)).filter _
theorem chs_lt {g : G} {k : Int} {e : Nat} (he : e < 4294967296) : ∀ c ∈ (chs g k e).1, c < 4294967296 := by
  unfold chs
  split
  · intro c hc; cases hc
  · split
    · intro c hc
      obtain ⟨v, h1, _, rfl⟩ := sing_mem.1 hc
      exact pow_lt32 h1
    · split
      · intro c hc
        have : c = e := by simpa using hc
        omega
      · split
        · intro c hc; cases hc
        · intro c hc
          have hc' : c ∈ (subs e (lowb e)).filter (okC g k e) := hc
          have := (subs_part he (e - lowb e) (lowb e) (lowb_part he) (Nat.le_refl _) c (List.mem_filter.1 hc').1).1.le
          omega
theorem chs_some {g : G} (hg : g.valid = true) {k : Int} {e : Nat} (hk : dk k = true) (he : e < 4294967296) (hp : Part e (full g.ports.length)) (h : (chs g k e).2 = 0) : (chs g k e).1.length > 0 ↔ e ≠ 0 := by
  constructor
  · intro h1 h0
    subst h0
    rw [chs, if_pos rfl] at h1
    simp at h1
  · intro h0
    have h1 := rs_inner hg hk he hp h0 (w := 0)
    have h2 : rs g k e 0 < 4294967296 := by
      obtain ⟨_, a, _⟩ := inner_iff.1 h1
      by_cases h4 : k = 4
      · subst h4; rw [rs, if_neg (by decide), if_neg (by decide), if_pos rfl]; exact he
      · exact Nat.lt_of_le_of_lt (rs_part he h4).le (wsh_lt he)
    exact List.length_pos_of_mem ((chs_mem hk he h2 h).2 h1)
theorem chs_len {g : G} {k : Int} {e : Nat} (he : e < 4294967296) : (chs g k e).1.length ≤ 5000000000 := by
  unfold chs
  split
  · show ([] : List Nat).length ≤ _; simp
  · split
    · have := sing_len e 32; show (sing e 32).length ≤ _; omega
    · split
      · show [e].length ≤ _; simp
      · split
        · show ([] : List Nat).length ≤ _; simp
        · show ((subs e (lowb e)).filter (okC g k e)).length ≤ _
          have h1 := List.length_filter_le (okC g k e) (subs e (lowb e))
          have h2 := subs_len he (e - lowb e) (lowb e) (lowb_part he) (Nat.le_refl _)
          omega
end Go.Proofs.YtjadlpflhmooaaaDoor
