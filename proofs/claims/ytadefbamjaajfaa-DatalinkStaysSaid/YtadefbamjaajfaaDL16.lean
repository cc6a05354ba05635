import Derived.Test.YtadefbamjaajfaaDL9
import Derived.Test.YtadefbamjaajfaaDL14
namespace Go.Proofs.Ytadefbamjaajfaa
open Go.Eng
set_option linter.unusedVariables false

/-! ## the plain laws behind DatalinkStays and DatalinkAligns -/

theorem pw_all {R : Int → Int → Prop} : ∀ {l : List Int}, (∀ a ∈ l, ∀ b ∈ l, R a b) → l.Pairwise R
  | [], _ => List.Pairwise.nil
  | x :: r, h => List.pairwise_cons.2 ⟨fun b hb => h x (by simp) b (by simp [hb]), pw_all fun a ha b hb => h a (by simp [ha]) b (by simp [hb])⟩

theorem al_true {c p : Int} (h : c ≠ p) : ∀ (l : List Int), (al c p l true).isSome = true ↔ ∀ y ∈ l, y = p
  | [] => by simp [al]
  | y :: r => by
    simp only [al, if_true, List.forall_mem_cons]
    split
    · rename_i e
      subst e
      simp [h]
    · split
      · rename_i e
        rw [al_true h r]
        simp [e]
      · rename_i e
        simp [e]

theorem al_false {c p : Int} (h : c ≠ p) : ∀ (l : List Int), (al c p l false).isSome = true ↔ (∀ y ∈ l, y = c ∨ y = p) ∧ l.Pairwise (fun y z => z = c → y = c)
  | [] => by simp [al]
  | y :: r => by
    simp only [al, List.forall_mem_cons, List.pairwise_cons]
    split
    · rename_i e
      subst e
      simp only [Bool.false_eq_true, if_false]
      rw [al_false h r]
      simp
    · rename_i e1
      split
      · rename_i e
        rw [al_true h r]
        constructor
        · intro hr
          refine ⟨⟨.inr e, fun z hz => .inr (hr z hz)⟩, fun z hz hzc => ?_, pw_all ?_⟩
          · rw [hr z hz] at hzc; exact (h hzc.symm).elim
          · intro a ha b hb hbc
            rw [hr b hb] at hbc; exact (h hbc.symm).elim
        · rintro ⟨⟨_, h1⟩, h2, _⟩ z hz
          rcases h1 z hz with hc | hc
          · exact (e1 (h2 z hz hc)).elim
          · exact hc
      · rename_i e
        constructor
        · intro hh; simp at hh
        · rintro ⟨⟨h1, _⟩, _⟩
          rcases h1 with h1 | h1
          · exact (e1 h1).elim
          · exact (e h1).elim

/-- the labels, the oldest one first -/
def DL.seq (x : DL) : List Int := x.ak ++ x.last :: x.fr.map (·.1)
theorem labs_seq (x : DL) : x.labs = x.seq.reverse := by simp [DL.labs, DL.seq]

theorem prev_eq {x : DL} (h : x.valid = true) : x.prev = if x.label = 0 then x.mod - 1 else x.label - 1 := by
  have hb := valid_bounds h
  unfold DL.prev
  rw [Int.tmod_eq_emod_of_nonneg (by omega)]
  split
  · rw [show x.label + x.mod - 1 = x.mod - 1 by omega]
    exact Int.emod_eq_of_lt (by omega) (by omega)
  · rw [show x.label + x.mod - 1 = x.label - 1 + x.mod by omega, Int.add_emod_right]
    exact Int.emod_eq_of_lt (by omega) (by omega)

theorem prev_ne {x : DL} (h : x.valid = true) : x.label ≠ x.prev := by
  have hb := valid_bounds h
  rw [prev_eq h]
  split <;> omega

structure Gd (c p : Int) (l : List Int) : Prop where
  two : ∀ y ∈ l, y = c ∨ y = p
  pw : l.Pairwise (fun y z => y = c → z = c)

theorem aligned_iff {x : DL} (h : x.valid = true) : x.aligned = true ↔ Gd x.label x.prev x.seq := by
  rw [DL.aligned, h, Bool.true_and, labs_seq, al_false (prev_ne h), List.pairwise_reverse]
  simp only [List.mem_reverse]
  exact ⟨fun h => ⟨h.1, h.2⟩, fun h => ⟨h.1, h.2⟩⟩

theorem Gd.sub {c p : Int} {l m : List Int} (h : Gd c p l) (hs : m.Sublist l) : Gd c p m := ⟨fun y hy => h.two y (hs.subset hy), h.pw.sublist hs⟩

theorem loseL_sub {α : Type} (l : List α) (i : Int) : (loseL l i).Sublist l := by
  unfold loseL
  split
  · exact List.Sublist.refl _
  · split
    · exact List.Sublist.refl _
    · exact List.eraseIdx_sublist _ _

theorem next_prev {x : DL} (h : x.valid = true) : ((x.label + 1).tmod x.mod + x.mod - 1).tmod x.mod = x.label ∧ (x.label + 1).tmod x.mod ≠ x.label := by
  have hb := valid_bounds h
  have e1 : (x.label + 1).tmod x.mod = (x.label + 1) % x.mod := Int.tmod_eq_emod_of_nonneg (by omega)
  by_cases e : x.label + 1 = x.mod
  · have e2 : (x.label + 1) % x.mod = 0 := by rw [e, Int.emod_self]
    rw [e1, e2, Int.tmod_eq_emod_of_nonneg (by omega), Int.emod_eq_of_lt (by omega) (by omega)]
    omega
  · have e2 : (x.label + 1) % x.mod = x.label + 1 := Int.emod_eq_of_lt (by omega) (by omega)
    rw [e1, e2, Int.tmod_eq_emod_of_nonneg (by omega), show x.label + 1 + x.mod - 1 = x.label + x.mod by omega, Int.add_emod_right, Int.emod_eq_of_lt (by omega) (by omega)]
    omega

theorem gd_const {c p : Int} (h : c ≠ p) {l : List Int} (hl : ∀ y ∈ l, y = p) : Gd c p l :=
  ⟨fun y hy => .inr (hl y hy), pw_all fun a ha b hb e => by rw [hl a ha] at e; exact (h e.symm).elim⟩

theorem gd_step {z : DL} (hv : z.valid = true) (k a : Int) (h : Gd z.label z.prev z.seq) : Gd (z.step k a).1.label (z.step k a).1.prev (z.step k a).1.seq := by
  unfold DL.step
  split
  · obtain ⟨B, hB, hB'⟩ := put_app z.fr (z.label, z.item) z.cap
    show Gd z.label z.prev (z.ak ++ z.last :: (putL z.fr (z.label, z.item) z.cap).map (·.1))
    have e : z.ak ++ z.last :: (putL z.fr (z.label, z.item) z.cap).map (·.1) = z.seq ++ B.map (·.1) := by rw [hB]; simp [DL.seq]
    rw [e]
    have hb : ∀ y ∈ B.map (·.1), y = z.label := by
      intro y hy
      obtain ⟨b, hb, rfl⟩ := List.mem_map.1 hy
      rw [hB' b hb]
    refine ⟨fun y hy => ?_, List.pairwise_append.2 ⟨h.pw, pw_all fun x _ y hy _ => hb y hy, fun x _ y hy _ => hb y hy⟩⟩
    rcases List.mem_append.1 hy with hy | hy
    · exact h.two y hy
    · exact .inl (hb y hy)
  split
  · split
    · exact h
    · rename_i hl
      obtain ⟨f, r, hf, hr⟩ := lose0 hl
      have hg : gF z.fr 0 = f := by rw [hf]; rfl
      obtain ⟨B, hB, hB'⟩ := put_app z.ak f.1 z.cap
      have hseq : z.seq = z.ak ++ z.last :: f.1 :: r.map (·.1) := by rw [DL.seq, hf]; rfl
      have key : Gd z.label z.prev (z.ak ++ B ++ f.1 :: r.map (·.1)) := by
        have h1 : Gd z.label z.prev (z.ak ++ f.1 :: r.map (·.1)) := h.sub (by rw [hseq]; exact (List.Sublist.refl _).append (List.sublist_cons_self _ _))
        refine ⟨fun y hy => ?_, ?_⟩
        · simp only [List.mem_append, List.mem_cons] at hy
          rcases hy with (hy | hy) | hy
          · exact h1.two y (by simp [hy])
          · rw [hB' y hy]; exact h1.two _ (by simp)
          · exact h1.two y (by simp only [List.mem_append, List.mem_cons]; exact .inr hy)
        · have h2 := List.pairwise_append.1 h1.pw
          have h3 := List.pairwise_cons.1 h2.2.1
          refine List.pairwise_append.2 ⟨List.pairwise_append.2 ⟨h2.1, pw_all fun x hx y hy e => ?_, fun x hx y hy e => ?_⟩, h2.2.1, fun x hx y hy e => ?_⟩
          · rw [hB' y hy]; rwa [hB' x hx] at e
          · rw [hB' y hy]; exact h2.2.2 x hx _ (by simp) e
          · rcases List.mem_append.1 hx with hx | hx
            · exact h2.2.2 x hx y hy e
            · rw [hB' x hx] at e
              rcases List.mem_cons.1 hy with hy | hy
              · rw [hy]; exact e
              · exact h3.1 y hy e
      rw [hg, hr]
      split
      · rename_i e
        show Gd z.label z.prev (putL z.ak f.1 z.cap ++ z.last :: r.map (·.1))
        rw [hB, ← e]; exact key
      · show Gd z.label z.prev (putL z.ak f.1 z.cap ++ f.1 :: r.map (·.1))
        rw [hB]; exact key
  split
  · split
    · exact h
    · rename_i hl
      obtain ⟨b, r, ha, hr⟩ := lose0 hl
      have hg : gI z.ak 0 = b := by rw [ha]; rfl
      have hseq : z.seq = b :: (r ++ z.last :: z.fr.map (·.1)) := by rw [DL.seq, ha]; rfl
      rw [hg, hr]
      split
      · rename_i e
        obtain ⟨n1, n2⟩ := next_prev hv
        have hall : ∀ y ∈ r ++ z.last :: z.fr.map (·.1), y = z.label := fun y hy => by
          have := h.pw
          rw [hseq] at this
          exact (List.pairwise_cons.1 this).1 y hy e
        show Gd ((z.label + 1).tmod z.mod) (((z.label + 1).tmod z.mod + z.mod - 1).tmod z.mod) (r ++ z.last :: z.fr.map (·.1))
        rw [n1]
        exact gd_const n2 hall
      · show Gd z.label z.prev (r ++ z.last :: z.fr.map (·.1))
        exact h.sub (by rw [hseq]; exact List.sublist_cons_self _ _)
  split
  · show Gd z.label z.prev (z.ak ++ z.last :: (loseL z.fr a).map (·.1))
    exact h.sub ((List.Sublist.refl _).append (((loseL_sub z.fr a).map _).cons_cons _))
  split
  · show Gd z.label z.prev (loseL z.ak a ++ z.last :: z.fr.map (·.1))
    exact h.sub ((loseL_sub z.ak a).append (List.Sublist.refl _))
  · exact h

theorem stays {z : DL} (hv : z.valid = true) (k a : Int) (h : z.aligned = true) : (z.step k a).1.aligned = true := by
  rw [aligned_iff (step_valid k a hv)]
  exact gd_step hv k a ((aligned_iff hv).1 h)

/-- when the item grows behind the free one, all labels are the present one -/
theorem grow_aligned {z : DL} {s : Int} {ds : List Int} (hv : z.valid = true) (e : Int × Int) (hB : PhaseB s z ds) (hne : (z.step e.1 e.2).1.item ≠ z.item) : (z.step e.1 e.2).1.aligned = true := by
  rw [aligned_iff (step_valid e.1 e.2 hv)]
  obtain ⟨b1, F, G, b2, b3, b4, b5, b6⟩ := hB
  revert hne
  unfold DL.step
  split
  · intro hne; exact (hne rfl).elim
  split
  · split
    · intro hne; exact (hne rfl).elim
    split
    · intro hne; exact (hne rfl).elim
    · intro hne; exact (hne rfl).elim
  split
  · split
    · intro hne; exact (hne rfl).elim
    · rename_i hl
      obtain ⟨b, r, ha, hr⟩ := lose0 hl
      have hg : gI z.ak 0 = b := by rw [ha]; rfl
      rw [hg, hr]
      split
      · rename_i hal
        intro _
        obtain ⟨n1, n2⟩ := next_prev hv
        show Gd ((z.label + 1).tmod z.mod) (((z.label + 1).tmod z.mod + z.mod - 1).tmod z.mod) (r ++ z.last :: z.fr.map (·.1))
        rw [n1]
        refine gd_const n2 fun y hy => ?_
        rcases b6 with ⟨c1, c2, c3⟩ | ⟨c1, c2, ⟨A, A', c3, c4, c5⟩, c6⟩
        · exact (c2 b (by rw [ha]; simp) hal).elim
        · cases A with
          | cons a' A =>
            rw [ha] at c3
            simp at c3
            exact (c4 a' (by simp) (by rw [← c3.1, hal])).elim
          | nil =>
            simp only [List.nil_append] at c3
            subst c2
            simp only [List.nil_append] at b2
            simp only [List.mem_append, List.mem_cons, List.mem_map] at hy
            rcases hy with hy | hy | ⟨f, hf, rfl⟩
            · exact c5 y (by rw [← c3, ha]; simp [hy])
            · rw [hy]; exact c1
            · rw [b3 f (b2 ▸ hf)]
      · intro hne; exact (hne rfl).elim
  split
  · intro hne; exact (hne rfl).elim
  split
  · intro hne; exact (hne rfl).elim
  · intro hne; exact (hne rfl).elim

theorem aligns {x : DL} (hx : x.valid = true) (hneg : ∀ f ∈ x.fr, f.2 < 0) (hit : x.item ≤ 1000) (l : List (Int × Int)) (i : Nat) (hl : i ≤ 100000) (hi : (x.runs (l.take i)).1.item - x.item ≥ x.mod) : (x.runs (l.take i)).1.aligned = true := by
  obtain ⟨s, h1, h2, h3, h4, h5⟩ := free_item hx
  have hb := valid_bounds hx
  have key : ∀ i, i ≤ 100000 → s < (x.runs (l.take i)).1.item → (x.runs (l.take i)).1.aligned = true := by
    intro i
    induction i with
    | zero =>
      intro _ hs
      have e : x.runs (l.take 0) = (x, []) := rfl
      rw [e] at hs
      simp only at hs
      omega
    | succ i ih =>
      intro hl hs
      by_cases hil : i < l.length
      · obtain ⟨i1, i2, i3⟩ := runs_inv hx hneg hit h1 h2 h3 h4 h5 l i (by omega)
        have e := runs_snoc x (l.take i) (gF l i)
        rw [← take_snocF l i hil] at e
        rw [e] at hs ⊢
        simp only at hs ⊢
        obtain ⟨s1, s2⟩ := base_step hx i1 (gF l i) (by omega)
        by_cases hlt : s < (x.runs (l.take i)).1.item
        · exact stays i1.valid _ _ (ih (by omega) hlt)
        · rcases i3 with ⟨a1, _⟩ | hB
          · omega
          · exact grow_aligned i1.valid _ hB (by omega)
      · rw [List.take_of_length_le (show l.length ≤ i + 1 by omega)] at hs ⊢
        have := ih (by omega)
        rw [List.take_of_length_le (show l.length ≤ i by omega)] at this
        exact this hs
  exact key i hl (by omega)
end Go.Proofs.Ytadefbamjaajfaa
