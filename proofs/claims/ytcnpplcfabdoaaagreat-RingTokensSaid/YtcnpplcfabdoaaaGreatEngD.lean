/-
  The engine, part D: loads, new blocks, stores.
-/
import Derived.Test.YtcnpplcfabdoaaaGreatEngC
namespace Go.Eng

def V.force (v : V) (K : V → Prop) : Prop :=
  match v with
  | .bool b => K (.bool b)
  | .int k n => K (.int k n)
  | .str s => K (.str s)
  | .nilptr => K .nilptr | .nilslice => K .nilslice | .nilmap => K .nilmap | .nilfunc => K .nilfunc | .niliface => K .niliface
  | .loc k off => K (.loc k off)
  | .oel k s i j => K (.oel k s i j)
  | .vec k s lo len => K (.vec k s lo len)
  | .fz n s full f => K (.fz n s full f)
  | .fe n s f i j => K (.fe n s f i j)
  | .map k => K (.map k)
  | .yld k => K (.yld k)
  | .fn f b cap => K (.fn f b cap)
  | .iface t v => K (.iface t v)
  | .agg cs => K (.agg cs)
  | .tup vs => K (.tup vs)
  | .raw v => K (.raw v)
  | .anyb => K .anyb
  | .top => K .top

theorem V.force_sound {v : V} {K : V → Prop} (h : v.force K) : K v := by cases v <;> exact h

/-- a loaded bool is decided -/
def litK (v : V) (K : V → Prop) : Prop :=
  match v with
  | .bool b => cmpK b K
  | .raw _ => False
  | v => K v

theorem litK_sound {v : V} {K : V → Prop} (h : litK v K) : K v ∧ ∀ u, v ≠ .raw u := by
  unfold litK at h
  split at h
  · exact ⟨cmpK_sound h, fun _ e => by cases e⟩
  · exact h.elim
  · rename_i h2 h3
    exact ⟨h, fun u e => h3 u e⟩

def forceN (g : Nat → V) : Nat → Nat → (List V → Prop) → Prop
  | _, 0, K => K []
  | j, n + 1, K => (g j).force fun v => forceN g (j + 1) n fun vs => K (v :: vs)

theorem forceN_sound (g : Nat → V) : ∀ (n j : Nat) (K : List V → Prop), forceN g j n K → ∃ l, K l ∧ l.length = n ∧ ∀ i, i < n → l[i]? = some (g (j + i))
  | 0, j, K, h => ⟨[], h, rfl, fun i hi => by omega⟩
  | n + 1, j, K, h => by
    obtain ⟨l, h1, h2, h3⟩ := forceN_sound g n (j + 1) _ (V.force_sound h)
    refine ⟨_, h1, by simp [h2], ?_⟩
    intro i hi
    cases i with
    | zero => simp
    | succ i => rw [List.getElem?_cons_succ, h3 i (by omega)]; congr 2; omega

inductive Ltn (i n : Nat) (K : Prop) : Prop where
  | mk (h : i < n) (hK : K) : Ltn i n K
inductive Len (i n : Nat) (K : Prop) : Prop where
  | mk (h : i ≤ n) (hK : K) : Len i n K

/-- the name under which a row is open -/
inductive Opn (op : List (Nat × Nat)) (len : Nat → Nat) (i : Nat) (K : Nat → Nat → Prop) : Prop where
  | mk (q l : Nat) (h : look op i = some q) (hl : len i = l) (hK : K q l) : Opn op len i K
theorem look_here {α : Type} {i j : Nat} {x : α} {r : List (Nat × α)} (h : i = j) : look ((i, x) :: r) j = some x := by subst h; simp [look]
theorem look_there {α : Type} {i j : Nat} {x : α} {r : List (Nat × α)} (h : i ≠ j) : look ((i, x) :: r) j = look r j := by
  have : Nat.beq i j = false := by
    cases e : Nat.beq i j with
    | false => rfl
    | true => exact (h (Nat.eq_of_beq_eq_true e)).elim
  simp [look, this]

def vloadL (own : Own) (sz : Option Nat) (k off : Nat) (K : V → Prop) : Prop :=
  match look own k with
  | some (.cells cs) => match sz with
    | none => match nth cs off with | some v => K v | none => False
    | some n => takeK cs off n fun l => K (.agg l)
  | _ => False

def vloadR (own : Own) (sz : Option Nat) (p : V) (K : V → Prop) : Prop :=
  match p with
  | .loc k off => vloadL own sz k off K
  | .oel k s i j => match look own k with
    | some (.vec n s' f) => match Nat.beq s s' with
      | true => Ltn i n (match sz with
        | none => match Nat.ble (j + 1) s with | true => (f i j).force K | false => False
        | some m => match Nat.ble (j + m) s with | true => forceN (f i) j m fun l => K (.agg l) | false => False)
      | false => False
    | some (.cells _) => vloadL own sz k (i * s + j) K
    | some (.fam n s' len _ op) => match Nat.beq s 1, Nat.beq j 0, sz with
      | true, true, none => Ltn i n (Opn op len i fun q l => K (.vec q s' 0 l))
      | _, _, _ => False
    | _ => False
  | .fe _ s f i j => match sz with
    | none => match Nat.ble (j + 1) s with | true => (f i j).force K | false => False
    | some m => match Nat.ble (j + m) s with | true => forceN (f i) j m fun l => K (.agg l) | false => False
  | _ => False

def vload (own : Own) (sz : Option Nat) (p : V) (K : V → Prop) : Prop := vloadR own sz p fun v => litK v K

/-- the owned block that a load reads -/
def V.readKey : V → Option Nat
  | .loc k _ => some k
  | .oel k _ _ _ => some k
  | _ => none

theorem loadCells_den {P : Program} {M : Nat → Prop} {w : World} {σ : Sg} (b off n : Nat) (g : Nat → V)
    (h : ∀ i, i < n → ∃ u, w.cell? ⟨b, off + i, none⟩ = some u ∧ Den M w σ (g i) u) :
    ∃ us : List Value, us.length = n ∧ (∀ i u, us[i]? = some u → Den M w σ (g i) u) ∧ (loadCells ⟨b, off, none⟩ n).run P w = .ok us.toArray w := by
  let F : Nat → Value := fun i => if hi : i < n then Classical.choose (h i hi) else undef
  have hF : ∀ i, i < n → w.cell? ⟨b, off + i, none⟩ = some (F i) ∧ Den M w σ (g i) (F i) := fun i hi => by
    simp only [F, hi, dite_true]
    exact Classical.choose_spec (h i hi)
  refine ⟨(List.range n).map F, by simp, ?_, run_loadCells w ⟨b, off, none⟩ n F (fun j hj => by rw [addr_add]; exact (hF j hj).1)⟩
  intro i u hu
  rw [List.getElem?_map] at hu
  have hi : i < n := by
    rcases Nat.lt_or_ge i n with h | h
    · exact h
    · simp [List.getElem?_eq_none (l := List.range n) (by simpa using h)] at hu
  simp [List.getElem?_range hi] at hu
  subst hu
  exact (hF i hi).2

theorem run_loadAt_cell {P : Program} {T : TypeId} {w : World} {a : Addr} {u : Value} (h : szAgg P T = some none) (hc : w.cell? a = some u) :
    (Instr.loadAt T (.pointer (some a))).run P w = .ok u w := by
  unfold szAgg at h
  split at h
  · simp at h
  · rename_i hag
    simp [Instr.loadAt, Instr.sureAddr, loadVar, Sem.run_bind, run_isAggB hag, run_load, hc, go_sem]
  · simp at h

theorem run_loadAt_agg {P : Program} {T : TypeId} {w : World} {a : Addr} {n : Nat} {us : List Value} (h : szAgg P T = some (some n)) (hc : (loadCells a n).run P w = .ok us.toArray w) :
    (Instr.loadAt T (.pointer (some a))).run P w = .ok (.agg us.toArray) w := by
  unfold szAgg at h
  split at h
  · rename_i hag
    simp only [Option.map_eq_some_iff, Option.some.injEq] at h
    obtain ⟨m, h1, h2⟩ := h
    subst h2
    unfold loadCells at hc
    simp [Instr.loadAt, Instr.sureAddr, loadVar, Sem.run_bind, run_isAggB hag, run_szOf h1, hc, go_sem]
  · simp at h
  · simp at h

/-- the common end of all loads -/
theorem load_end {P : Program} {T : TypeId} {sz : Option Nat} (hz : szAgg P T = some sz) {M : Nat → Prop} {w : World} {σ : Sg} {b off : Nat} {g : Nat → V} :
    match sz with
    | none => (∃ u, w.cell? ⟨b, off, none⟩ = some u ∧ Den M w σ (g 0) u) → ∃ r, (Instr.loadAt T (.pointer (some ⟨b, off, none⟩))).run P w = .ok r w ∧ Den M w σ (g 0) r
    | some n => (∀ i, i < n → ∃ u, w.cell? ⟨b, off + i, none⟩ = some u ∧ Den M w σ (g i) u) → ∀ l : List V, l.length = n → (∀ i, i < n → l[i]? = some (g i)) →
        ∃ r, (Instr.loadAt T (.pointer (some ⟨b, off, none⟩))).run P w = .ok r w ∧ Den M w σ (.agg l) r := by
  cases sz with
  | none => rintro ⟨u, h1, h2⟩; exact ⟨u, run_loadAt_cell hz h1, h2⟩
  | some n =>
    intro h l hl hg
    obtain ⟨us, h1, h2, h3⟩ := loadCells_den (P := P) b off n g h
    refine ⟨_, run_loadAt_agg hz h3, .agg _ _ _ (by omega) ?_⟩
    intro i v u hv hu
    have hi : i < n := by rw [← hl]; exact (List.getElem?_eq_some_iff.1 hv).1
    rw [hg i hi] at hv
    cases hv
    exact h2 i u hu

theorem vloadL_sound {P : Program} {T : TypeId} {sz : Option Nat} (hz : szAgg P T = some sz) {own : Own} {k off : Nat} {K : V → Prop} (h : vloadL own sz k off K) :
    ∃ v, K v ∧ ∀ M w σ u, Den M w σ (.loc k off) u → (∀ k' b, V.readKey (.loc k off) = some k' → look own k' = some b → BlkSim M w σ k' b) → ∃ r, (Instr.loadAt T u).run P w = .ok r w ∧ Den M w σ v r := by
  unfold vloadL at h
  split at h
  · rename_i cs hlook
    have cells : ∀ M w σ u, Den M w σ (.loc k off) u → (∀ k' b, V.readKey (.loc k off) = some k' → look own k' = some b → BlkSim M w σ k' b) → ∃ b, u = .pointer (some ⟨b, off, none⟩) ∧
        ∀ i v, cs[i]? = some v → ∃ x, w.cell? ⟨b, i, none⟩ = some x ∧ Den M w σ v x := by
      intro M w σ u hd ho
      obtain ⟨b, κ, ty, us, h1, h2, h3, h4, h5⟩ := ho k _ rfl hlook
      cases hd with
      | loc _ _ _ b' base κ' hk =>
        rw [h1] at hk
        simp only [Option.some.injEq, Prod.mk.injEq] at hk
        obtain ⟨e1, e2, _⟩ := hk
        subst e1 e2
        refine ⟨b, by simp, ?_⟩
        intro i v hv
        have hi : i < us.size := by rw [h4]; exact (List.getElem?_eq_some_iff.1 hv).1
        exact ⟨us[i], by simp [World.cell?, h3, hi], h5 i v _ hv (by simp [hi])⟩
    split at h
    · split at h
      · rename_i v hn
        rw [nth_eq] at hn
        refine ⟨v, h, fun M w σ u hd ho => ?_⟩
        obtain ⟨b, rfl, hc⟩ := cells M w σ u hd ho
        exact load_end (g := fun _ => v) hz (hc off v hn)
      · exact h.elim
    · rename_i n
      obtain ⟨r, hr1, hr2, hr3, hr4⟩ := takeK_sound _ _ _ _ h
      refine ⟨_, hr1, fun M w σ u hd ho => ?_⟩
      obtain ⟨b, rfl, hc⟩ := cells M w σ u hd ho
      refine load_end (g := fun i => r.getD i default) hz (fun i hi => ?_) r hr2 (fun i hi => ?_)
      · refine hc _ _ ?_
        rw [← hr4 i hi]
        simp [List.getD, hr2, hi]
      · simp [List.getD, hr2, hi]
  · exact h.elim

theorem vloadR_sound {P : Program} {T : TypeId} {sz : Option Nat} (hz : szAgg P T = some sz) {own : Own} {p : V} {K : V → Prop} (h : vloadR own sz p K) :
    ∃ v, K v ∧ ∀ M w σ u, Den M w σ p u → (∀ k b, p.readKey = some k → look own k = some b → BlkSim M w σ k b) → ∃ r, (Instr.loadAt T u).run P w = .ok r w ∧ Den M w σ v r := by
  unfold vloadR at h
  split at h
  · exact vloadL_sound hz h
  · rename_i k s i j
    split at h
    · rename_i n s' f hlook
      split at h
      · rename_i hss
        have e := Nat.eq_of_beq_eq_true hss
        subst e
        obtain ⟨hi, h⟩ := h
        have cells : ∀ M w σ u, Den M w σ (.oel k s i j) u → (∀ k' b, V.readKey (.oel k s i j) = some k' → look own k' = some b → BlkSim M w σ k' b) → ∃ b o, u = .pointer (some ⟨b, o + j, none⟩) ∧
            ∀ jj, jj < s → ∃ x, w.cell? ⟨b, o + jj, none⟩ = some x ∧ Den M w σ (f i jj) x := by
          intro M w σ u hd ho
          obtain ⟨bo, base, κ, h1, h2, h3⟩ := ho k _ rfl hlook
          cases hd with
          | oel _ _ _ _ _ b' base' κ' hk =>
            rw [h1] at hk
            simp only [Option.some.injEq, Prod.mk.injEq] at hk
            obtain ⟨e1, e2, _⟩ := hk
            subst e1 e2
            rcases h3 with ⟨_, h⟩ | ⟨b, ty, us, e, hM, h4, h5, h6⟩
            · cases h
            · cases e
              refine ⟨b', base + i * s, by rw [Nat.add_assoc], ?_⟩
              intro jj hj
              obtain ⟨x, hx1, _, hx2⟩ := h6 i jj hi hj
              refine ⟨x, ?_, hx2.mono ⟨fun n hn hM => ⟨hM, rfl⟩, Nat.le_refl _⟩ (fun k x h => by cases h)⟩
              rw [Nat.add_assoc]
              simp [World.cell?, h4, hx1]
        split at h
        · split at h
          · rename_i hjs
            have hj := Nat.le_of_ble_eq_true hjs
            refine ⟨f i j, V.force_sound h, fun M w σ u hd ho => ?_⟩
            obtain ⟨b, o, rfl, hc⟩ := cells M w σ u hd ho
            exact load_end (g := fun _ => f i j) hz (hc j (by omega))
          · exact h.elim
        · rename_i m
          split at h
          · rename_i hjs
            have hj := Nat.le_of_ble_eq_true hjs
            obtain ⟨l, h1, h2, h3⟩ := forceN_sound _ _ _ _ h
            refine ⟨_, h1, fun M w σ u hd ho => ?_⟩
            obtain ⟨b, o, rfl, hc⟩ := cells M w σ u hd ho
            refine load_end (g := fun jj => f i (j + jj)) hz (fun jj hjj => ?_) l h2 h3
            rw [Nat.add_assoc]
            exact hc (j + jj) (by omega)
          · exact h.elim
      · exact h.elim
    · obtain ⟨v, hK, hv⟩ := vloadL_sound hz h
      refine ⟨v, hK, fun M w σ u hd ho => hv M w σ u ?_ fun k' b hk hl => ho k' b hk hl⟩
      cases hd with
      | oel _ _ _ _ _ b base κ hk => exact .loc _ _ _ _ _ _ hk
    · rename_i n s' len f op hlook
      split at h
      · rename_i e1 e2
        have e1 := Nat.eq_of_beq_eq_true e1
        have e2 := Nat.eq_of_beq_eq_true e2
        subst e1 e2
        obtain ⟨hi, q, l, hq, rfl, hK⟩ := h
        refine ⟨_, hK, fun M w σ u hd ho => ?_⟩
        obtain ⟨bo, base, κ, h1, h2, h3⟩ := ho k _ rfl hlook
        cases hd with
        | oel _ _ _ _ _ b' base' κ' hk =>
          rw [h1] at hk
          simp only [Option.some.injEq, Prod.mk.injEq] at hk
          obtain ⟨e1, e2, _⟩ := hk
          subst e1 e2
          rcases h3 with ⟨_, h⟩ | ⟨b, ty, us, e, hM, h4, h5, h6, _⟩
          · cases h
          · cases e
            obtain ⟨x, x1, _, _, _, _, x2, _⟩ := h6 i hi
            refine load_end (g := fun _ => .vec q s' 0 (len i)) hz ⟨x, ?_, x2 q hq⟩
            simp [World.cell?, h4, x1]
      · exact h.elim
    · exact h.elim
  · rename_i n s f i j
    have cells : ∀ M w σ u, Den M w σ (.fe n s f i j) u → (∀ k' b, V.readKey (.fe n s f i j) = some k' → look own k' = some b → BlkSim M w σ k' b) → ∃ b o, u = .pointer (some ⟨b, o + j, none⟩) ∧
        ∀ jj, jj < s → ∃ x, w.cell? ⟨b, o + jj, none⟩ = some x ∧ Den M w σ (f i jj) x := by
      intro M w σ u hd ho
      cases hd with
      | fe _ _ _ _ _ _ b off uu hi hM hb hcell _ hd =>
        refine ⟨b, off + i * s, by rw [Nat.add_assoc], ?_⟩
        intro jj hj
        refine ⟨uu i jj, ?_, (hd i jj hi hj).mono ⟨fun n hn hM => ⟨hM, rfl⟩, Nat.le_refl _⟩ (fun k x h => by cases h)⟩
        rw [Nat.add_assoc]
        exact hcell i jj hi hj
    split at h
    · split at h
      · rename_i hjs
        have hj := Nat.le_of_ble_eq_true hjs
        refine ⟨f i j, V.force_sound h, fun M w σ u hd ho => ?_⟩
        obtain ⟨b, o, rfl, hc⟩ := cells M w σ u hd ho
        exact load_end (g := fun _ => f i j) hz (hc j (by omega))
      · exact h.elim
    · rename_i m
      split at h
      · rename_i hjs
        have hj := Nat.le_of_ble_eq_true hjs
        obtain ⟨l, h1, h2, h3⟩ := forceN_sound _ _ _ _ h
        refine ⟨_, h1, fun M w σ u hd ho => ?_⟩
        obtain ⟨b, o, rfl, hc⟩ := cells M w σ u hd ho
        refine load_end (g := fun jj => f i (j + jj)) hz (fun jj hjj => ?_) l h2 h3
        rw [Nat.add_assoc]
        exact hc (j + jj) (by omega)
      · exact h.elim
  · exact h.elim

theorem takeK_det {α : Type} : ∀ (l : List α) (o n : Nat) (K : List α → Prop), takeK l o n K → ∃ r, K r ∧ ∀ K' : List α → Prop, K' r → takeK l o n K'
  | l, o, 0, K, h => ⟨[], by cases l <;> cases o <;> exact h, fun K' h' => by cases l <;> cases o <;> exact h'⟩
  | [], o, n + 1, K, h => by cases o <;> exact h.elim
  | x :: l, 0, n + 1, K, h => by
    obtain ⟨r, h1, h2⟩ := takeK_det l 0 n _ h
    exact ⟨x :: r, h1, fun K' h' => h2 _ h'⟩
  | x :: l, o + 1, n + 1, K, h => by
    obtain ⟨r, h1, h2⟩ := takeK_det l o (n + 1) _ h
    exact ⟨r, h1, fun K' h' => h2 _ h'⟩

theorem force_iff {v : V} {K : V → Prop} : v.force K ↔ K v := by cases v <;> exact Iff.rfl

theorem forceN_det (g : Nat → V) : ∀ (n j : Nat) (K : List V → Prop), forceN g j n K → ∃ r, K r ∧ ∀ K' : List V → Prop, K' r → forceN g j n K'
  | 0, j, K, h => ⟨[], h, fun _ h' => h'⟩
  | n + 1, j, K, h => by
    obtain ⟨r, h1, h2⟩ := forceN_det g n (j + 1) _ (V.force_sound h)
    exact ⟨_, h1, fun K' h' => force_iff.2 (h2 _ h')⟩

theorem vloadL_det {own : Own} {sz : Option Nat} {k off : Nat} {K : V → Prop} (h : vloadL own sz k off K) : ∃ v, K v ∧ ∀ K' : V → Prop, K' v → vloadL own sz k off K' := by
  simp only [vloadL] at h ⊢
  split at h
  · rename_i cs hl
    cases sz with
    | none =>
      simp only at h ⊢
      split at h
      · rename_i v hv; exact ⟨v, h, fun K' h' => h'⟩
      · exact h.elim
    | some n =>
      obtain ⟨r, h1, h2⟩ := takeK_det _ _ _ _ h
      exact ⟨_, h1, fun K' h' => h2 _ h'⟩
  · exact h.elim

theorem vloadR_det {own : Own} {sz : Option Nat} {p : V} {K : V → Prop} (h : vloadR own sz p K) : ∃ v, K v ∧ ∀ K' : V → Prop, K' v → vloadR own sz p K' := by
  cases p <;> try exact h.elim
  case loc k off =>
    exact vloadL_det h
  case oel k s i j =>
    simp only [vloadR] at h ⊢
    split at h
    · rename_i n s' f hl
      split at h
      · rename_i hs
        obtain ⟨hi, h⟩ := h
        cases sz with
        | none =>
          simp only at h ⊢
          split at h
          · exact ⟨_, V.force_sound h, fun K' h' => ⟨hi, force_iff.2 h'⟩⟩
          · exact h.elim
        | some m =>
          simp only at h ⊢
          split at h
          · obtain ⟨r, h1, h2⟩ := forceN_det _ _ _ _ h
            exact ⟨_, h1, fun K' h' => ⟨hi, h2 _ h'⟩⟩
          · exact h.elim
      · exact h.elim
    · exact vloadL_det h
    · split at h
      · obtain ⟨hi, q, l, hq, hl, hK⟩ := h
        exact ⟨_, hK, fun K' h' => ⟨hi, q, l, hq, hl, h'⟩⟩
      · exact h.elim
    · exact h.elim
  case fe n s f i j =>
    simp only [vloadR] at h ⊢
    cases sz with
    | none =>
      simp only at h ⊢
      split at h
      · exact ⟨_, V.force_sound h, fun K' h' => force_iff.2 h'⟩
      · exact h.elim
    | some m =>
      simp only at h ⊢
      split at h
      · obtain ⟨r, h1, h2⟩ := forceN_det _ _ _ _ h
        exact ⟨_, h1, fun K' h' => h2 _ h'⟩
      · exact h.elim

/-- a load's fact -/
def LFact (P : Program) (T : TypeId) (p v : V) (own : Own) : Prop :=
  ∀ M w σ u, Den M w σ p u → (∀ k b, p.readKey = some k → look own k = some b → BlkSim M w σ k b) → ∃ r, (Instr.loadAt T u).run P w = .ok r w ∧ Den M w σ v r

theorem vload_sound {P : Program} {T : TypeId} {sz : Option Nat} (hz : szAgg P T = some sz) {own : Own} {p : V} {K : V → Prop} (h : vload own sz p K) :
    ∃ v, K v ∧ LFact P T p v own ∧ ∀ u, v ≠ .raw u := by
  obtain ⟨v, h1, h2⟩ := vloadR_sound hz h
  exact ⟨v, (litK_sound h1).1, h2, (litK_sound h1).2⟩

theorem lfact_of {P : Program} {T : TypeId} {sz : Option Nat} (hz : szAgg P T = some sz) {own : Own} {p v : V} (h : vloadR own sz p (· = v)) : LFact P T p v own := by
  obtain ⟨v', e, h2⟩ := vloadR_sound hz h
  subst e
  exact h2

end Go.Eng
