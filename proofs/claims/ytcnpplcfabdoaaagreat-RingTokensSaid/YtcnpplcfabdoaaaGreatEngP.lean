/-
  The engine, part P: loops by their variables; branches by plain facts.
-/
import Derived.Test.YtcnpplcfabdoaaaGreatEngO
namespace Go.Eng

theorem Br.dec {p : Prop} [Decidable p] {A B : Prop} (h1 : p → A) (h2 : ¬ p → B) : Br (decide p) A B := ⟨fun h => h1 (of_decide_eq_true h), fun h => h2 (of_decide_eq_false h)⟩
theorem Br.beq {a b : Int} {A B : Prop} (h1 : a = b → A) (h2 : a ≠ b → B) : Br (a == b) A B := ⟨fun h => h1 (by simpa using h), fun h => h2 (by simpa using h)⟩
theorem Br.bne {a b : Int} {A B : Prop} (h1 : a ≠ b → A) (h2 : a = b → B) : Br (a != b) A B := ⟨fun h => h1 (by simpa using h), fun h => h2 (by simpa using h)⟩
theorem Br.nbeq {a b : Nat} {A B : Prop} (h1 : a = b → A) (h2 : a ≠ b → B) : Br (Nat.beq a b) A B := ⟨fun h => h1 (Nat.eq_of_beq_eq_true h), fun h => h2 (Nat.ne_of_beq_eq_false h)⟩
theorem Br.nble {a b : Nat} {A B : Prop} (h1 : a ≤ b → A) (h2 : b < a → B) : Br (Nat.ble a b) A B := ⟨fun h => h1 (Nat.le_of_ble_eq_true h), fun h => h2 (Nat.lt_of_not_le fun hh => by rw [Nat.ble_eq_true_of_le hh] at h; cases h)⟩
theorem Br.any {b : Bool} {A B : Prop} (h1 : b = true → A) (h2 : b = false → B) : Br b A B := ⟨h1, h2⟩

theorem Bd.nat {m n : Nat} {K : Nat → Prop} (h : m ≤ n) (hK : K m) : Bd (m : Int) n K := ⟨m, rfl, h, hK⟩
theorem Bd.int {i : Int} {n : Nat} {K : Nat → Prop} (h0 : 0 ≤ i) (h : i ≤ n) (hK : K i.toNat) : Bd i n K := ⟨i.toNat, by omega, by omega, hK⟩
theorem Ix.ofNat {m n : Nat} {K : Nat → Prop} (h : m < n) (hK : K m) : Ix (Int.ofNat m) n K := ⟨m, rfl, h, hK⟩

/-- entries of an environment -/
def selE (env : Env) : List Nat → Env
  | [] => []
  | t :: r => match look env t with
    | some v => (t, v) :: selE env r
    | none => selE env r

theorem loop_var {P : Program} (hm : P.follows .mixedOrders = true) {N : Nat} {bk : List Nat} {b : SC} {env : Env} {own : Own} {ks : List Nat} {K : Out → Prop} (live chg ks0 : List Nat) {α : Type} (vals : α → Env) (ownf : α → Own) (I : Nat → α → Prop) (n0 : Nat) (x0 : α)
    (h0 : I n0 x0)
    (hchg : (chg.all fun k => memN k bk && (memN k (own.map (·.1)) || memN k ks)) = true) (hks0 : (ks0.all fun k => memN k ks) = true) (okeys : List Nat) (hok : (okeys.all fun k => memN k (own.map (·.1)) || memN k ks) = true)
    (hkeys : ∀ x, (ownf x).map (·.1) = okeys)
    (hw0 : Weak N chg ⟨env, own, ks⟩ ⟨vals x0 ++ selE env live, ownf x0, ks0⟩)
    (step : ∀ n x, I n x → vc P N bk b (vals x ++ selE env live) (ownf x) ks0 fun o => match o with
      | .normal st => ∃ m st', m < n ∧ Weak N chg st st' ∧ ∃ x, I m x ∧ st' = ⟨vals x ++ selE env live, ownf x, ks0⟩
      | o => K o) : LoopI P N bk b env own ks K := by
  simp only [List.all_eq_true, Bool.and_eq_true, Bool.or_eq_true, memN_iff] at hchg hks0 hok
  refine loop_rule hm chg okeys ks0 hchg hks0 hok (fun n st => ∃ x, I n x ∧ st = ⟨vals x ++ selE env live, ownf x, ks0⟩) n0 _ hw0 ⟨x0, h0, rfl⟩ ?_ ?_
  · rintro n st ⟨x, _, rfl⟩
    exact ⟨rfl, fun k hk => by simp only [hkeys] at hk; exact hk⟩
  · rintro n env' own' ks' ⟨x, hI, he⟩
    cases he
    exact step n x hI

/-- a loop that leaves what is owned as it was -/
theorem loop_ro {P : Program} (hm : P.follows .mixedOrders = true) {N : Nat} {bk : List Nat} {b : SC} {env : Env} {own : Own} {ks : List Nat} {K : Out → Prop} (live : List Nat) {α : Type} (vals : α → Env) (I : Nat → α → Prop) (n0 : Nat) (x0 : α)
    (h0 : I n0 x0)
    (hw0 : Weak N [] ⟨env, own, ks⟩ ⟨vals x0 ++ selE env live, own, ks⟩)
    (step : ∀ n x, I n x → vc P N bk b (vals x ++ selE env live) own ks fun o => match o with
      | .normal st => ∃ m st', m < n ∧ Weak N [] st st' ∧ ∃ x, I m x ∧ st' = ⟨vals x ++ selE env live, own, ks⟩
      | o => K o) : LoopI P N bk b env own ks K :=
  loop_var hm live [] ks vals (fun _ => own) I n0 x0 h0 rfl (by simp [memN_iff]) (own.map (·.1)) (by simp only [List.all_eq_true, Bool.or_eq_true, memN_iff]; exact fun k hk => .inl hk) (fun _ => rfl) hw0 step

end Go.Eng
