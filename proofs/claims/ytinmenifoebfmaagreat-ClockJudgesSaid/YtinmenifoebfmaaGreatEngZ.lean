import Derived.Test.YtinmenifoebfmaaGreatEngU
/-! ## sets of nodes: the laws of the operations -/
namespace Go.Eng

/-- A call of what hands back a plain X, the arguments lent. -/
theorem call_lend {P : Program} {f : FuncId} {args args0 : List V} {X : V} {own : Own} {ks : List Nat} {K : V → Own → List Nat → Prop} (h : Ret P f args0 X) (hx : X.flat = true)
    (hb : bors own args fun args' => LLe args' args0) (hK : K X own ks) : CallF P f args own ks K := by
  obtain ⟨args', hle, hl, hs⟩ := bors_sound hb
  constructor
  intro M w σ us hlen hd hh
  obtain ⟨d1, d2⟩ := hle.dens (M := lent M w σ own) (w := w) (us := us) (by omega) (fun i v' u hv' hu => by
    have hi : i < args.length := by rw [← hl]; exact (List.getElem?_eq_some_iff.1 hv').1
    exact hs M w σ hh.own i args[i] v' u (by simp [hi]) hv' (hd i args[i] u (by simp [hi]) hu))
  refine ((h [] KS).out (lent M w σ own) w Sg.none us d1 d2 (hsim_nothing KS KS_nodup)).mono ?_
  rintro e w' ⟨M', σ', v, own', ks', u, rfl, hv, hh', tr, _, rfl, rfl, rfl⟩
  have hfr := hsim_frame (M'' := fun b => (b < w.heap.size ∧ M b) ∨ (w.heap.size ≤ b ∧ M' b)) hh tr
    (fun b hb => by constructor <;> intro h; (rcases h with h | h; exact h.2; omega); exact .inl ⟨hb, h⟩)
  exact ⟨_, σ, _, own, ks, u, rfl, hv.flat hx, hfr.1, hfr.2, Kd.refl _ _ _, hK⟩
end Go.Eng

/-! ## calls that read the package's table -/
namespace Go.Eng

/-- a call that leaves everything as it was and hands back X, where the table is at hand -/
def RetG (P : Program) (G : Blk) (f : FuncId) (args : List V) (X : V) : Prop := ∀ own ks, look own 999 = some G → CallF P f args own ks fun v o k => v = X ∧ o = own ∧ k = ks
theorem Ret.g {P : Program} {f : FuncId} {args : List V} {X : V} (h : Ret P f args X) (G : Blk) : RetG P G f args X := fun own ks _ => h own ks

end Go.Eng

/-! ## the least element of a set -/
set_option linter.unusedVariables false
namespace Go.Eng

section
variable {s k : Nat} (hk : s.testBit k = true) (hz : ∀ j, j < k → s.testBit j = false)
include hk hz
end

end Go.Eng

/-! ## the parts of a set, in ascending order -/
set_option linter.unusedVariables false
namespace Go.Eng

def Part (s E : Nat) : Prop := ∀ i, s.testBit i = true → E.testBit i = true
theorem Part.le {s E : Nat} (h : Part s E) : s ≤ E := by
  apply Nat.ge_of_not_lt
  intro hlt
  have : s &&& E = s := Nat.eq_of_testBit_eq fun i => by
    rw [Nat.testBit_and]
    cases e : s.testBit i with
    | false => rfl
    | true => rw [h i e]; rfl
  have := Nat.and_le_right (n := s) (m := E)
  omega
end Go.Eng

/-! ## rows of a family: opened under a name, closed again -/
set_option linter.unusedVariables false
namespace Go.Eng

theorem Opn.hd {i i' q : Nat} {r : List (Nat × Nat)} {len : Nat → Nat} {K : Nat → Nat → Prop} (h : i' = i) (hK : K q (len i')) : Opn ((i', q) :: r) len i K := ⟨q, len i', look_here h, by rw [h], hK⟩
theorem Opn.hdl {i i' q l : Nat} {r : List (Nat × Nat)} {len : Nat → Nat} {K : Nat → Nat → Prop} (h : i' = i) (hl : len i' = l) (hK : K q l) : Opn ((i', q) :: r) len i K := ⟨q, l, look_here h, by rw [← h, hl], hK⟩
theorem OpnSet.hd {i i' q q0 : Nat} {r : List (Nat × Nat)} {K : Nat → List (Nat × Nat) → Prop} (h : i' = i) (hK : K i' ((i', q) :: r)) : OpnSet ((i', q0) :: r) i q K :=
  ⟨i', _, h, by rw [look_here h]; simp, look_here h, fun j hj => by rw [look_there (fun e => hj (by omega)), look_there (fun e => hj (by omega))], hK⟩
/-- a change of what is owned that leaves the blocks as they are -/
structure OwnStep (own own' : Own) : Prop where
  out : ∀ M w σ ks, HSim M w σ own ks → HSim M w σ own' ks ∧ (∀ m, owned w σ own' m → owned w σ own m)
  keys : ∀ k, k ∈ own'.map (·.1) → k ∈ own.map (·.1)
theorem OwnStep.refl (own : Own) : OwnStep own own := ⟨fun _ _ _ _ h => ⟨h, fun _ h => h⟩, fun _ h => h⟩
theorem OwnStep.trans {a b c : Own} (h : OwnStep a b) (h' : OwnStep b c) : OwnStep a c :=
  ⟨fun M w σ ks x => let ⟨y, z⟩ := h.out M w σ ks x; let ⟨y', z'⟩ := h'.out M w σ ks y; ⟨y', fun m e => z m (z' m e)⟩, fun k e => h.keys k (h'.keys k e)⟩

theorem Weak.trans {N : Nat} {chg : List Nat} {a b c : St} (h : Weak N chg a b) (h' : Weak N chg b c) (hk : ∀ k, k ∈ b.ks → k ∈ c.ks ∨ k ∈ chg) : Weak N chg a c :=
  ⟨fun B M w σ act s => by
    obtain ⟨M1, σ1, s1, t1, q1⟩ := h.out B M w σ act s
    obtain ⟨M2, σ2, s2, t2, q2⟩ := h'.out B M1 w σ1 act s1
    refine ⟨M2, σ2, s2, t1.trans t2, fun k e1 e2 => ?_⟩
    rw [q2 k e1 e2, q1 k (fun e => (hk k e).elim e1 e2) e2]⟩

end Go.Eng

