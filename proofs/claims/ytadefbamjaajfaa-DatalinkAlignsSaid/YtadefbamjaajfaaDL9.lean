import Derived.Test.YtadefbamjaajfaaDL7
namespace Go.Proofs.Ytadefbamjaajfaa
open Go.Eng
set_option linter.unusedVariables false

/-! ## the plain law behind DatalinkOnce -/

theorem pigeon (n : Nat) : ∀ (l : List Int) (f : Nat → Int), (∀ i j, i < n → j < n → f i = f j → i = j) → (∀ i, i < n → f i ∈ l) → n ≤ l.length := by
  induction n with
  | zero => intro l f _ _; exact Nat.zero_le _
  | succ n ih =>
    intro l f hinj hm
    have h0 := hm n (by omega)
    have := ih (l.erase (f n)) f (fun i j hi hj => hinj i j (by omega) (by omega)) (fun i hi => by
      have hne : f i ≠ f n := fun e => by have := hinj i n (by omega) (by omega) e; omega
      exact (List.mem_erase_of_ne hne).2 (hm i (by omega)))
    rw [List.length_erase_of_mem h0] at this
    have hpos : 0 < l.length := List.length_pos_of_mem h0
    omega

def lab (x : DL) (i : Int) : Int := (x.label + (i - x.item)) % x.mod

theorem lab_inj {x : DL} (hm : 0 < x.mod) {i j : Int} (h : lab x i = lab x j) (hd : -x.mod < i - j) (hd' : i - j < x.mod) : i = j := by
  unfold lab at h
  have h1 := Int.emod_emod_of_dvd (x.label + (i - x.item)) (Int.dvd_refl x.mod)
  have hs : (x.label + (i - x.item) - (x.label + (j - x.item))) % x.mod = 0 := Int.emod_eq_emod_iff_emod_sub_eq_zero.1 h
  have he : x.label + (i - x.item) - (x.label + (j - x.item)) = i - j := by omega
  rw [he] at hs
  obtain ⟨k, hk⟩ := Int.dvd_of_emod_eq_zero hs
  have hk0 : k = 0 := by
    rcases Int.lt_trichotomy k 0 with h | h | h
    · have : x.mod * k ≤ x.mod * (-1) := Int.mul_le_mul_of_nonneg_left (by omega) (by omega)
      omega
    · exact h
    · have : x.mod * 1 ≤ x.mod * k := Int.mul_le_mul_of_nonneg_left (by omega) (by omega)
      omega
  subst hk0
  omega

theorem lab_self {x : DL} (h : x.valid = true) : lab x x.item = x.label := by
  have hb := valid_bounds h
  unfold lab
  rw [Int.sub_self, Int.add_zero]
  exact Int.emod_eq_of_lt (by omega) (by omega)

theorem lab_succ {x : DL} (h : x.valid = true) (i : Int) : (lab x i + 1).tmod x.mod = lab x (i + 1) := by
  have hb := valid_bounds h
  have h1 := Int.emod_nonneg (x.label + (i - x.item)) (show x.mod ≠ 0 by omega)
  unfold lab
  rw [Int.tmod_eq_emod_of_nonneg (by omega), Int.emod_add_emod]
  congr 1
  omega

/-- an item whose label nobody bears -/
theorem free_item {x : DL} (h : x.valid = true) : ∃ s, x.item ≤ s ∧ s ≤ x.item + x.mod - 1 ∧ (∀ f ∈ x.fr, f.1 ≠ lab x s) ∧ x.last ≠ lab x s ∧ ∀ a ∈ x.ak, a ≠ lab x s := by
  have hb := valid_bounds h
  apply Classical.byContradiction
  intro hno
  have := pigeon x.mod.toNat (x.fr.map (·.1) ++ x.last :: x.ak) (fun k => lab x (x.item + k)) (fun i j hi hj e => by
    have := lab_inj (show 0 < x.mod by omega) e (by omega) (by omega)
    omega) (fun k hk => by
    apply Classical.byContradiction
    intro hm
    simp only [List.mem_append, List.mem_map, List.mem_cons, not_or] at hm
    refine hno ⟨x.item + k, by omega, by omega, fun f hf e => hm.1 ⟨f, hf, e⟩, fun e => hm.2.1 e.symm, fun a ha e => hm.2.2 (e ▸ ha)⟩)
  simp at this
  omega

def upto (s t : Int) : List Int := (List.range (t - s).toNat).map fun k : Nat => s + (k : Int)

theorem upto_self (s : Int) : upto s s = [] := by simp [upto]
theorem upto_succ {s t : Int} (h : s ≤ t) : upto s (t + 1) = upto s t ++ [t] := by
  have : (t + 1 - s).toNat = (t - s).toNat + 1 := by omega
  simp only [upto, this, List.range_succ, List.map_append, List.map_cons, List.map_nil]
  congr 2
  omega

structure Base (x z : DL) : Prop where
  valid : z.valid = true
  mod : z.mod = x.mod
  label : z.label = lab x z.item
  item : x.item ≤ z.item

def PhaseA (x : DL) (s : Int) (z : DL) (ds : List Int) : Prop :=
  z.item < s ∧ (∀ f ∈ z.fr, f.1 ≠ lab x s ∧ f.2 < s) ∧ z.last ≠ lab x s ∧ (∀ a ∈ z.ak, a ≠ lab x s) ∧ ∀ d ∈ ds, d < s

def ge (s d : Int) : Bool := decide (s ≤ d)

def PhaseB (s : Int) (z : DL) (ds : List Int) : Prop :=
  s ≤ z.item ∧ ∃ F G, z.fr = F ++ G ∧ (∀ g ∈ G, g = (z.label, z.item)) ∧ (∀ f ∈ F, f.1 ≠ z.label) ∧ ((∀ f ∈ F, f.1 = z.last) ∨ ∀ f ∈ F, f.2 < s) ∧
    ((z.last ≠ z.label ∧ (∀ a ∈ z.ak, a ≠ z.label) ∧ ds.filter (ge s) = upto s z.item) ∨
     (z.last = z.label ∧ F = [] ∧ (∃ A B, z.ak = A ++ B ∧ (∀ a ∈ A, a ≠ z.label) ∧ ∀ b ∈ B, b = z.label) ∧ ds.filter (ge s) = upto s (z.item + 1)))

theorem erase_app {α : Type} (F G : List α) (i : Nat) : ∃ F' G', (F ++ G).eraseIdx i = F' ++ G' ∧ (∀ f ∈ F', f ∈ F) ∧ (∀ g ∈ G', g ∈ G) ∧ (F = [] → F' = []) := by
  by_cases h : i < F.length
  · exact ⟨F.eraseIdx i, G, List.eraseIdx_append_of_lt_length h G, fun f hf => List.mem_of_mem_eraseIdx hf, fun g hg => hg, fun e => by subst e; simp at h⟩
  · exact ⟨F, G.eraseIdx (i - F.length), List.eraseIdx_append_of_length_le (by omega) G, fun f hf => hf, fun g hg => List.mem_of_mem_eraseIdx hg, fun e => e⟩

theorem lose_app {α : Type} (F G : List α) (i : Int) : ∃ F' G', loseL (F ++ G) i = F' ++ G' ∧ (∀ f ∈ F', f ∈ F) ∧ (∀ g ∈ G', g ∈ G) ∧ (F = [] → F' = []) := by
  unfold loseL
  split
  · exact ⟨F, G, rfl, fun _ h => h, fun _ h => h, fun h => h⟩
  · split
    · exact ⟨F, G, rfl, fun _ h => h, fun _ h => h, fun h => h⟩
    · exact erase_app F G _

theorem put_app {α : Type} (l : List α) (y : α) (c : Int) : ∃ B, putL l y c = l ++ B ∧ ∀ b ∈ B, b = y := by
  unfold putL
  split
  · exact ⟨[], by simp, by simp⟩
  · exact ⟨[y], rfl, by simp⟩

theorem lose0 {α : Type} {l : List α} (h : ¬ (l.length : Int) = 0) : ∃ f r, l = f :: r ∧ loseL l 0 = r := by
  cases l with
  | nil => simp at h
  | cons f r =>
    refine ⟨f, r, rfl, ?_⟩
    unfold loseL
    rw [if_neg (by omega), if_neg (by simp only [List.length_cons]; omega)]
    rfl

def nextDs (z : DL) (e : Int × Int) (ds : List Int) : List Int := if (z.step e.1 e.2).2.2 then ds ++ [(z.step e.1 e.2).2.1] else ds

theorem base_step {x z : DL} (hx : x.valid = true) (h : Base x z) (e : Int × Int) (hi : z.item + 1 ≤ 1073741824) :
    Base x (z.step e.1 e.2).1 ∧ (z.step e.1 e.2).1.item ≤ z.item + 1 := by
  have hv := step_valid e.1 e.2 h.valid
  obtain ⟨h1, h2, h3, h4⟩ := h
  have hb := valid_bounds h1
  revert hv
  unfold DL.step
  split
  · exact fun hv => ⟨⟨hv, h2, h3, h4⟩, by simp only; omega⟩
  split
  · split
    · exact fun hv => ⟨⟨hv, h2, h3, h4⟩, by simp only; omega⟩
    split
    · exact fun hv => ⟨⟨hv, h2, h3, h4⟩, by simp only; omega⟩
    · exact fun hv => ⟨⟨hv, h2, h3, h4⟩, by simp only; omega⟩
  split
  · split
    · exact fun hv => ⟨⟨hv, h2, h3, h4⟩, by simp only; omega⟩
    split
    · intro hv
      have hc : capI (z.item + 1) = z.item + 1 := by unfold capI; rw [if_neg (by omega)]
      refine ⟨⟨hv, h2, ?_, ?_⟩, ?_⟩
      · simp only [hc, h2, h3]; exact lab_succ hx z.item
      · simp only [hc]; omega
      · simp only [hc]; omega
    · exact fun hv => ⟨⟨hv, h2, h3, h4⟩, by simp only; omega⟩
  split
  · exact fun hv => ⟨⟨hv, h2, h3, h4⟩, by simp only; omega⟩
  split
  · exact fun hv => ⟨⟨hv, h2, h3, h4⟩, by simp only; omega⟩
  · exact fun hv => ⟨⟨hv, h2, h3, h4⟩, by simp only; omega⟩
theorem filter_ge_snoc {s d : Int} (ds : List Int) (h : s ≤ d) : (ds ++ [d]).filter (ge s) = ds.filter (ge s) ++ [d] := by
  rw [List.filter_append]
  simp [ge, h]
theorem filter_lt_snoc {s d : Int} (ds : List Int) (h : d < s) : (ds ++ [d]).filter (ge s) = ds.filter (ge s) := by
  rw [List.filter_append]
  simp [ge, h]

theorem phaseA_step {x z : DL} {s : Int} {ds : List Int} (hx : x.valid = true) (h : Base x z) (e : Int × Int) (hi : z.item + 1 ≤ 1073741824) (hs : s ≤ x.item + x.mod - 1) (hA : PhaseA x s z ds) :
    PhaseA x s (z.step e.1 e.2).1 (nextDs z e ds) ∨ PhaseB s (z.step e.1 e.2).1 (nextDs z e ds) := by
  have hb := valid_bounds h.valid
  have hbx := valid_bounds hx
  have hbs := (base_step hx h e hi).1
  obtain ⟨a1, a2, a3, a4, a5⟩ := hA
  have hne : z.label ≠ lab x s := by
    rw [h.label]
    intro e
    have := lab_inj (show 0 < x.mod by omega) e (by have := h.item; omega) (by omega)
    omega
  revert hbs
  unfold nextDs DL.step
  split
  · intro _
    left
    obtain ⟨B, hB, hB'⟩ := put_app z.fr (z.label, z.item) z.cap
    refine ⟨a1, fun f hf => ?_, a3, a4, a5⟩
    simp only [hB, List.mem_append] at hf
    rcases hf with hf | hf
    · exact a2 f hf
    · rw [hB' f hf]; exact ⟨hne, a1⟩
  split
  · split
    · exact fun _ => .inl ⟨a1, a2, a3, a4, a5⟩
    · rename_i hl
      obtain ⟨f, r, hf, hr⟩ := lose0 hl
      have hg : gF z.fr 0 = f := by rw [hf]; rfl
      have hfm := a2 f (by rw [hf]; simp)
      obtain ⟨B, hB, hB'⟩ := put_app z.ak f.1 z.cap
      have hak : ∀ a ∈ putL z.ak f.1 z.cap, a ≠ lab x s := by
        intro a ha
        rw [hB, List.mem_append] at ha
        rcases ha with ha | ha
        · exact a4 a ha
        · rw [hB' a ha]; exact hfm.1
      rw [hg, hr]
      split
      · intro _
        left
        exact ⟨a1, fun g hgm => a2 g (by rw [hf]; simp [hgm]), a3, hak, a5⟩
      · intro _
        left
        refine ⟨a1, fun g hgm => a2 g (by rw [hf]; simp [hgm]), hfm.1, hak, ?_⟩
        intro d hd
        simp only [if_true, List.mem_append, List.mem_singleton] at hd
        rcases hd with hd | hd
        · exact a5 d hd
        · rw [hd]; exact hfm.2
  split
  · split
    · exact fun _ => .inl ⟨a1, a2, a3, a4, a5⟩
    · rename_i hl
      split
      · intro hbs
        have hc : capI (z.item + 1) = z.item + 1 := by unfold capI; rw [if_neg (by omega)]
        have hlab := hbs.label
        simp only [hc] at hlab
        by_cases hlt : z.item + 1 < s
        · left
          refine ⟨by simp only [hc]; exact hlt, a2, a3, fun a ha => a4 a (mem_loseL (i := 0) ha), a5⟩
        · right
          have hse : z.item + 1 = s := by omega
          refine ⟨by simp only [hc]; omega, z.fr, [], by simp, by simp, fun f hf => ?_, .inr fun f hf => (a2 f hf).2, .inl ⟨?_, fun a ha => ?_, ?_⟩⟩
          · simp only [hlab, hse]; exact (a2 f hf).1
          · simp only [hlab, hse]; exact a3
          · simp only [hlab, hse]; exact a4 a (mem_loseL (i := 0) ha)
          · show ds.filter (ge s) = upto s (capI (z.item + 1))
            rw [hc, hse, upto_self, List.filter_eq_nil_iff]
            intro d hd
            have := a5 d hd
            simp [ge]; omega
      · exact fun _ => .inl ⟨a1, a2, a3, fun a ha => a4 a (mem_loseL (i := 0) ha), a5⟩
  split
  · exact fun _ => .inl ⟨a1, fun f hf => a2 f (mem_loseL (i := e.2) hf), a3, a4, a5⟩
  split
  · exact fun _ => .inl ⟨a1, a2, a3, fun a ha => a4 a (mem_loseL (i := e.2) ha), a5⟩
  · exact fun _ => .inl ⟨a1, a2, a3, a4, a5⟩

theorem phaseB_step {x z : DL} {s : Int} {ds : List Int} (hx : x.valid = true) (h : Base x z) (e : Int × Int) (hi : z.item + 1 ≤ 1073741824) (hB0 : PhaseB s z ds) :
    PhaseB s (z.step e.1 e.2).1 (nextDs z e ds) := by
  have hb := valid_bounds h.valid
  have hbs := (base_step hx h e hi).1
  obtain ⟨b1, F, G, b2, b3, b4, b5, b6⟩ := hB0
  revert hbs
  unfold nextDs DL.step
  split
  · intro _
    obtain ⟨B, hB, hB'⟩ := put_app z.fr (z.label, z.item) z.cap
    refine ⟨b1, F, G ++ B, by show putL z.fr (z.label, z.item) z.cap = _; rw [hB, b2, List.append_assoc], fun g hg => ?_, b4, b5, b6⟩
    rcases List.mem_append.1 hg with hg | hg
    · exact b3 g hg
    · exact hB' g hg
  split
  · split
    · exact fun _ => ⟨b1, F, G, b2, b3, b4, b5, b6⟩
    · rename_i hl
      obtain ⟨f, r, hf, hr⟩ := lose0 hl
      have hg : gF z.fr 0 = f := by rw [hf]; rfl
      obtain ⟨B, hB, hB'⟩ := put_app z.ak f.1 z.cap
      rw [hg, hr]
      cases F with
      | cons f' F' =>
        have hff : f' = f ∧ r = F' ++ G := by
          rw [hf] at b2
          simp at b2
          exact ⟨b2.1.symm, b2.2⟩
        obtain ⟨rfl, hr'⟩ := hff
        rcases b6 with ⟨c1, c2, c3⟩ | ⟨_, c2, _⟩
        · have hfl := b4 f' (by simp)
          have hak : ∀ a ∈ putL z.ak f'.1 z.cap, a ≠ z.label := by
            intro a ha
            rw [hB, List.mem_append] at ha
            rcases ha with ha | ha
            · exact c2 a ha
            · rw [hB' a ha]; exact hfl
          split
          · rename_i hfe
            intro _
            refine ⟨b1, F', G, hr', b3, fun g hg => b4 g (by simp [hg]), ?_, .inl ⟨c1, hak, c3⟩⟩
            rcases b5 with b5 | b5
            · exact .inl fun g hg => b5 g (by simp [hg])
            · exact .inr fun g hg => b5 g (by simp [hg])
          · rename_i hfe
            intro _
            rcases b5 with b5 | b5
            · exact (hfe (b5 f' (by simp))).elim
            · refine ⟨b1, F', G, hr', b3, fun g hg => b4 g (by simp [hg]), .inr fun g hg => b5 g (by simp [hg]), .inl ⟨hfl, hak, ?_⟩⟩
              simp only [if_true]
              rw [filter_lt_snoc ds (b5 f' (by simp))]
              exact c3
        · cases c2
      | nil =>
        simp only [List.nil_append] at b2
        have hfm : f = (z.label, z.item) := b3 f (by rw [← b2, hf]; simp)
        have hG : ∀ g ∈ r, g = (z.label, z.item) := fun g hg => b3 g (by rw [← b2, hf]; simp [hg])
        subst hfm
        split
        · rename_i hfe
          intro _
          simp only at hfe
          rcases b6 with ⟨c1, _⟩ | ⟨c1, c2, ⟨A, A', c3, c4, c5⟩, c6⟩
          · exact (c1 hfe.symm).elim
          · refine ⟨b1, [], r, rfl, hG, by simp, .inr (by simp), .inr ⟨c1, rfl, ⟨A, A' ++ B, ?_, c4, fun b hb => ?_⟩, c6⟩⟩
            · rw [hB, c3, List.append_assoc]
            · rcases List.mem_append.1 hb with hb | hb
              · exact c5 b hb
              · exact hB' b hb
        · rename_i hfe
          intro _
          simp only at hfe
          rcases b6 with ⟨c1, c2, c3⟩ | ⟨c1, _⟩
          · refine ⟨b1, [], r, rfl, hG, by simp, .inr (by simp), .inr ⟨rfl, rfl, ⟨z.ak, B, hB, c2, hB'⟩, ?_⟩⟩
            simp only [if_true]
            rw [filter_ge_snoc ds b1, c3, upto_succ b1]
          · exact (hfe c1.symm).elim
  split
  · split
    · exact fun _ => ⟨b1, F, G, b2, b3, b4, b5, b6⟩
    · rename_i hl
      obtain ⟨a, r, ha, hr⟩ := lose0 hl
      have hg : gI z.ak 0 = a := by rw [ha]; rfl
      rw [hg, hr]
      split
      · rename_i hal
        intro hbs
        have hc : capI (z.item + 1) = z.item + 1 := by unfold capI; rw [if_neg (by omega)]
        have hlab := hbs.label
        simp only [hc] at hlab
        have hne : z.label ≠ (z.label + 1).tmod z.mod := by
          rw [hlab, h.label]
          intro e
          have := lab_inj (show 0 < x.mod by have := h.mod; omega) e (by have := h.mod; omega) (by have := h.mod; omega)
          omega
        rcases b6 with ⟨c1, c2, c3⟩ | ⟨c1, c2, ⟨A, A', c3, c4, c5⟩, c6⟩
        · exact (c2 a (by rw [ha]; simp) hal).elim
        · cases A with
          | cons a' A =>
            rw [ha] at c3
            simp at c3
            exact (c4 a' (by simp) (by rw [← c3.1, hal])).elim
          | nil =>
            simp only [List.nil_append] at c3
            subst c2
            simp only [List.nil_append] at b2
            refine ⟨by simp only [hc]; omega, z.fr, [], by simp, by simp, fun f hf => ?_, .inl fun f hf => ?_, .inl ⟨?_, fun b hb => ?_, ?_⟩⟩
            · rw [b3 f (b2 ▸ hf)]; exact hne
            · rw [b3 f (b2 ▸ hf)]; exact c1.symm
            · rw [show z.last = z.label from c1]; exact hne
            · rw [c5 b (by rw [← c3, ha]; simp [hb])]; exact hne
            · simp only [hc]; exact c6
      · rename_i hal
        intro _
        rcases b6 with ⟨c1, c2, c3⟩ | ⟨c1, c2, ⟨A, A', c3, c4, c5⟩, c6⟩
        · exact ⟨b1, F, G, b2, b3, b4, b5, .inl ⟨c1, fun b hb => c2 b (by rw [ha]; simp [hb]), c3⟩⟩
        · refine ⟨b1, F, G, b2, b3, b4, b5, .inr ⟨c1, c2, ?_, c6⟩⟩
          cases A with
          | cons a' A =>
            rw [ha] at c3
            simp at c3
            exact ⟨A, A', c3.2, fun b hb => c4 b (by simp [hb]), c5⟩
          | nil =>
            simp only [List.nil_append] at c3
            exact (hal (c5 a (by rw [← c3, ha]; simp))).elim
  split
  · intro _
    obtain ⟨F', G', e1, e2, e3, e4⟩ := lose_app F G e.2
    refine ⟨b1, F', G', by show loseL z.fr e.2 = _; rw [b2, e1], fun g hg => b3 g (e3 g hg), fun f hf => b4 f (e2 f hf), ?_, ?_⟩
    · rcases b5 with b5 | b5
      · exact .inl fun f hf => b5 f (e2 f hf)
      · exact .inr fun f hf => b5 f (e2 f hf)
    · rcases b6 with b6 | ⟨c1, c2, c3⟩
      · exact .inl b6
      · exact .inr ⟨c1, e4 c2, c3⟩
  split
  · intro _
    refine ⟨b1, F, G, b2, b3, b4, b5, ?_⟩
    rcases b6 with ⟨c1, c2, c3⟩ | ⟨c1, c2, ⟨A, A', c3, c4, c5⟩, c6⟩
    · exact .inl ⟨c1, fun a ha => c2 a (mem_loseL (i := e.2) ha), c3⟩
    · obtain ⟨B, B', e1, e2, e3, _⟩ := lose_app A A' e.2
      exact .inr ⟨c1, c2, ⟨B, B', by show loseL z.ak e.2 = _; rw [c3, e1], fun a ha => c4 a (e2 a ha), fun b hb => c5 b (e3 b hb)⟩, c6⟩
  · exact fun _ => ⟨b1, F, G, b2, b3, b4, b5, b6⟩
theorem filter_filter_ge {s t : Int} (h : s ≤ t) (ds : List Int) : (ds.filter (ge s)).filter (ge t) = ds.filter (ge t) := by
  rw [List.filter_filter]
  congr 1
  funext d
  simp only [ge]
  by_cases h1 : t ≤ d
  · simp [h1, show s ≤ d by omega]
  · simp [h1]

theorem filter_upto {s t D : Int} (h : s ≤ t) (hD : s ≤ D) : (upto s D).filter (ge t) = upto t (if t ≤ D then D else t) := by
  obtain ⟨n, rfl⟩ : ∃ n : Nat, D = s + n := ⟨(D - s).toNat, by omega⟩
  clear hD
  induction n with
  | zero =>
    simp only [Int.natCast_zero, Int.add_zero]
    rw [upto_self]
    split
    · have : s = t := by omega
      subst this; simp [upto_self]
    · simp [upto_self]
  | succ n ih =>
    have e : s + ((n + 1 : Nat) : Int) = s + n + 1 := by omega
    rw [e, upto_succ (by omega), List.filter_append, ih]
    by_cases h1 : t ≤ s + n
    · rw [if_pos h1, if_pos (by omega), upto_succ h1]
      simp [ge, h1]
    · rw [if_neg h1, upto_self]
      have hg : List.filter (ge t) [s + (n : Int)] = [] := by simp [ge]; omega
      rw [hg]
      split
      · have : s + (n : Int) + 1 = t := by omega
        rw [this, upto_self]; rfl
      · rw [upto_self]; rfl

theorem runs_inv {x : DL} (hx : x.valid = true) (hneg : ∀ f ∈ x.fr, f.2 < 0) (hit : x.item ≤ 1000) {s : Int} (h1 : x.item ≤ s) (h2 : s ≤ x.item + x.mod - 1) (h3 : ∀ f ∈ x.fr, f.1 ≠ lab x s) (h4 : x.last ≠ lab x s) (h5 : ∀ a ∈ x.ak, a ≠ lab x s)
    (l : List (Int × Int)) (i : Nat) (hl : i ≤ 100000) :
    Base x (x.runs (l.take i)).1 ∧ (x.runs (l.take i)).1.item ≤ x.item + i ∧ (PhaseA x s (x.runs (l.take i)).1 (x.runs (l.take i)).2 ∨ PhaseB s (x.runs (l.take i)).1 (x.runs (l.take i)).2) := by
  have hb := valid_bounds hx
  induction i with
  | zero =>
    have e : x.runs (l.take 0) = (x, []) := rfl
    rw [e]
    refine ⟨⟨hx, rfl, (lab_self hx).symm, Int.le_refl _⟩, by simp, ?_⟩
    by_cases hlt : x.item < s
    · exact .inl ⟨hlt, fun f hf => ⟨h3 f hf, by have := hneg f hf; omega⟩, h4, h5, by simp⟩
    · right
      have hse : s = x.item := by omega
      subst hse
      rw [lab_self hx] at h3 h4 h5
      exact ⟨Int.le_refl _, x.fr, [], by simp, by simp, h3, .inr fun f hf => by have := hneg f hf; omega, .inl ⟨h4, h5, by simp [upto_self]⟩⟩
  | succ i ih =>
    obtain ⟨ih1, ih2, ih3⟩ := ih (by omega)
    by_cases hi : i < l.length
    · have e := runs_snoc x (l.take i) (gF l i)
      rw [← take_snocF l i hi] at e
      rw [e]
      obtain ⟨s1, s2⟩ := base_step hx ih1 (gF l i) (by omega)
      refine ⟨s1, by simp only; omega, ?_⟩
      rcases ih3 with hA | hB
      · exact phaseA_step hx ih1 (gF l i) (by omega) h2 hA
      · exact .inr (phaseB_step hx ih1 (gF l i) (by omega) hB)
    · rw [List.take_of_length_le (show l.length ≤ i + 1 by omega)]
      rw [List.take_of_length_le (show l.length ≤ i by omega)] at ih1 ih2 ih3
      exact ⟨ih1, by omega, ih3⟩

theorem once_plain {x : DL} (hx : x.valid = true) (hneg : ∀ f ∈ x.fr, f.2 < 0) (hit : x.item ≤ 1000) (l : List (Int × Int)) (hl : l.length ≤ 100000) :
    ∃ t, (x.runs l).2.filter (ge (x.item + x.mod - 1)) = upto (x.item + x.mod - 1) t ∧ x.item + x.mod - 1 ≤ t ∧ ((x.runs l).1.item ≤ x.item + x.mod - 1 → t ≤ x.item + x.mod) ∧
      (x.item + x.mod - 1 < (x.runs l).1.item → t = (x.runs l).1.item ∨ t = (x.runs l).1.item + 1) := by
  obtain ⟨s, h1, h2, h3, h4, h5⟩ := free_item hx
  have := runs_inv hx hneg hit h1 h2 h3 h4 h5 l l.length hl
  rw [List.take_of_length_le (Nat.le_refl _)] at this
  obtain ⟨hB, _, hP⟩ := this
  rcases hP with ⟨a1, _, _, _, a5⟩ | ⟨b1, F, G, _, _, _, _, b6⟩
  · refine ⟨x.item + x.mod - 1, ?_, Int.le_refl _, fun _ => by omega, fun h => by omega⟩
    rw [upto_self, List.filter_eq_nil_iff]
    intro d hd
    have := a5 d hd
    simp [ge]; omega
  · obtain ⟨D, hD, hf⟩ : ∃ D, (D = (x.runs l).1.item ∨ D = (x.runs l).1.item + 1) ∧ (x.runs l).2.filter (ge s) = upto s D := by
      rcases b6 with ⟨_, _, c⟩ | ⟨_, _, _, c⟩
      · exact ⟨_, .inl rfl, c⟩
      · exact ⟨_, .inr rfl, c⟩
    refine ⟨if x.item + x.mod - 1 ≤ D then D else x.item + x.mod - 1, ?_, by split <;> omega, ?_, ?_⟩
    · rw [← filter_filter_ge h2, hf, filter_upto h2 (by omega)]
    · intro h; split <;> omega
    · intro h; rw [if_pos (by omega)]; exact hD
end Go.Proofs.Ytadefbamjaajfaa
