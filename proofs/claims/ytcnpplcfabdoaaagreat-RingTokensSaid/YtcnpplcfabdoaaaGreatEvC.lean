/-
  Closed states are run, part C: memory.
-/
import Derived.Test.YtcnpplcfabdoaaaGreatEvB
namespace Go.Eng

/-! ## values that are one cell, values without keys -/

def cellC : C → Bool
  | .agg _ | .tup _ | .unit => false
  | _ => true
theorem cellC_eq (c : C) : c.v.cellB = cellC c := by cases c <;> simp [C.v, V.cellB, cellC]
noncomputable def allC (p : C → Bool) (l : List C) : Bool := @List.rec C (fun _ => Bool) true (fun c _ ih => @Bool.rec (fun _ => Bool) false ih (p c)) l
theorem allC_cons (p : C → Bool) (c : C) (r : List C) : allC p (c :: r) = (p c && allC p r) := by
  show @Bool.rec (fun _ => Bool) false (allC p r) (p c) = _
  cases p c <;> rfl
theorem allB_vs {q : V → Bool} {p : C → Bool} (h : ∀ c, q c.v = p c) : ∀ (l : List C), allB q (C.vs l) = allC p l
  | [] => rfl
  | c :: r => by
    rw [allC_cons]
    simp only [C.vs, allB, h, allB_vs h r]
    cases p c <;> rfl
def kf1C : C → Bool
  | .bool _ | .int _ _ | .str _ _ | .nilptr | .nilslice | .nilmap | .nilfunc | .niliface | .fz _ _ _ _ _ | .fe _ _ _ _ _ _ | .unit => true
  | _ => false
theorem kf1C_eq (c : C) : c.v.kf1 = kf1C c := by cases c <;> simp [C.v, V.kf1, kf1C]
noncomputable def kf2C : C → Bool
  | .agg cs => allC kf1C cs
  | .iface _ v => kf1C v
  | .fn _ _ cap => allC kf1C cap
  | v => kf1C v
theorem kf2C_eq (c : C) : c.v.kf2 = kf2C c := by
  cases c <;> simp [C.v, V.kf2, kf2C, allB_vs kf1C_eq, kf1C_eq] <;> simp [V.kf1, kf1C]

noncomputable def ln {α : Type} (l : List α) : Nat := @List.rec α (fun _ => Nat) 0 (fun _ _ ih => Nat.succ ih) l
theorem ln_eq {α : Type} (l : List α) : ln l = l.length := by
  induction l with
  | nil => rfl
  | cons x r ih => show Nat.succ (ln r) = _; rw [ih]; rfl

def cellsC : C → Option (List C)
  | .agg cs => some cs
  | .tup _ | .unit => none
  | v => some [v]
theorem cellsC_ok {v : C} {vs : List C} {K : List V → Prop} (h : cellsC v = some vs) (hK : K (C.vs vs)) : v.v.cellsK K := by
  cases v <;> first
    | (cases h; done)
    | (cases h; simp only [C.v]; simp only [C.vs, C.v] at hK; exact hK)
    | (cases h; simp only [C.v]; exact hK)

/-- a value of sz cells, each of one cell -/
noncomputable def cellsN (sz : Nat) (v : C) : Option (List C) := match cellsC v with
  | some vs => match Nat.beq (ln vs) sz with
    | true => match allC cellC vs with | true => some vs | false => none
    | false => none
  | none => none
theorem cellsN_ok {sz : Nat} {v : C} {vs : List C} (h : cellsN sz v = some vs) : cellsC v = some vs ∧ vs.length = sz ∧ Nat.beq (C.vs vs).length sz = true ∧ allB V.cellB (C.vs vs) = true := by
  unfold cellsN at h
  split at h
  · rename_i vs' h1
    split at h
    · rename_i h2
      split at h
      · rename_i h3
        cases h
        rw [ln_eq] at h2
        exact ⟨h1, Nat.eq_of_beq_eq_true h2, by rw [C.vs_length]; exact h2, by rw [allB_vs cellC_eq]; exact h3⟩
      · cases h
    · cases h
  · cases h

/-! ## loads -/

theorem V.force_ok {v : V} {K : V → Prop} (h : K v) : v.force K := by cases v <;> exact h
theorem forceN_ok (g : Nat → V) : ∀ (n j : Nat) (l : List V) (K : List V → Prop), l.length = n → (∀ t, t < n → l[t]? = some (g (j + t))) → K l → forceN g j n K
  | 0, j, l, K, hl, _, h => by
    have : l = [] := List.length_eq_zero_iff.1 hl
    subst this; exact h
  | n + 1, j, [], K, hl, _, h => by simp at hl
  | n + 1, j, x :: l, K, hl, hg, h => by
    have h0 := hg 0 (by omega)
    simp at h0
    subst h0
    simp only [forceN]
    refine V.force_ok (forceN_ok g n (j + 1) l _ (by simpa using hl) (fun t ht => ?_) h)
    have := hg (t + 1) (by omega)
    simp only [List.getElem?_cons_succ] at this
    rw [this]; congr 2; omega

theorem tabz_row {z : List C} {rows : List (List C)} {i : Nat} {row : List C} (h : nt rows i = some row) (j : Nat) : tabz (C.vs z) (C.vss rows) i j = (C.vs row).getD j (lastV (C.vs z)) := by
  rw [nt_eq, nth_get] at h
  simp [tabz, List.getD_eq_getElem?_getD, C.vss_get, h]

/-- some cells of an element -/
noncomputable def rowC (s : Nat) (rows : List (List C)) (sz : Option Nat) (i j : Nat) : Option C := match nt rows i with
  | some row => match sz with
    | none => match Nat.ble (Nat.succ j) s with | true => nt row j | false => none
    | some m => match Nat.ble (j + m) s with | true => aggC row j m | false => none
  | none => none
def rowK (s : Nat) (f : Nat → Nat → V) (i j : Nat) (K : V → Prop) (sz : Option Nat) : Prop :=
  match sz with
  | none => match Nat.ble (j + 1) s with | true => (f i j).force K | false => False
  | some m => match Nat.ble (j + m) s with | true => forceN (f i) j m fun l => K (.agg l) | false => False
theorem rowC_ok {s : Nat} (z : List C) {rows : List (List C)} {sz : Option Nat} {i j : Nat} {c : C} {K : V → Prop} (h : rowC s rows sz i j = some c) (hK : K c.v) : rowK s (tabz (C.vs z) (C.vss rows)) i j K sz := by
  unfold rowK
  unfold rowC at h
  split at h
  · rename_i row hr
    cases sz with
    | none =>
      simp only at h
      split at h
      · rename_i hb
        simp only [hb]
        refine V.force_ok ?_
        rw [tabz_row hr]
        rw [nt_eq, nth_get] at h
        simpa [List.getD_eq_getElem?_getD, C.vs_get, h] using hK
      · cases h
    | some m =>
      simp only at h
      split at h
      · rename_i hb
        simp only [hb]
        unfold aggC at h
        rw [tk_eq, dr_eq] at h
        split at h
        · rename_i hl
          cases h
          simp only [C.v] at hK
          refine forceN_ok _ _ _ _ _ ?_ (fun t ht => ?_) hK
          · rw [C.vs_length, List.length_take]; omega
          · rw [tabz_row hr, C.vs_get, List.getElem?_take, if_pos ht, List.getElem?_drop]
            simp only [List.length_drop] at hl
            have hlt : j + t < row.length := by omega
            simp [List.getD_eq_getElem?_getD, C.vs_get, hlt]
        · cases h
      · cases h
  · cases h

noncomputable def cloadL (own : COwn) (sz : Option Nat) (k off : Nat) : Option C :=
  match lk own k with
  | some (.cells cs) => match sz with
    | none => nt cs off
    | some n => aggC cs off n
  | _ => none
theorem cloadL_ok {own : COwn} {sz : Option Nat} {k off : Nat} {c : C} {K : V → Prop} (h : cloadL own sz k off = some c) (hK : K c.v) : vloadL (ownV own) sz k off K := by
  unfold cloadL at h
  unfold vloadL
  split at h
  · rename_i cs hl
    rw [look_ownV hl]
    simp only [CB.b]
    cases sz with
    | none => simp only at h ⊢; rw [nth_vs h]; exact hK
    | some n => simp only at h ⊢; exact aggC_ok h hK
  · cases h

noncomputable def cloadR (own : COwn) (sz : Option Nat) (p : C) : Option C :=
  match p with
  | .loc k off => cloadL own sz k off
  | .oel k s i j => match lk own k with
    | some (.vec n s' _ rows) => match Nat.beq s s' with
      | true => match Nat.blt i n with
        | true => rowC s rows sz i j
        | false => none
      | false => none
    | some (.cells _) => cloadL own sz k (i * s + j)
    | _ => none
  | .fe _ s _ rows i j => rowC s rows sz i j
  | _ => none
theorem cloadR_ok {own : COwn} {sz : Option Nat} {p c : C} {K : V → Prop} (h : cloadR own sz p = some c) (hK : K c.v) : vloadR (ownV own) sz p.v K := by
  unfold cloadR at h
  split at h
  · simp only [C.v, vloadR]; exact cloadL_ok h hK
  · rename_i k s i j
    simp only [C.v, vloadR]
    split at h
    · rename_i n s' z rows hl
      rw [look_ownV hl]
      simp only [CB.b]
      split at h
      · rename_i hs
        simp only [hs]
        split at h
        · rename_i hi
          have := rowC_ok z h hK
          exact ⟨Nat.le_of_ble_eq_true hi, by cases sz <;> exact this⟩
        · cases h
      · cases h
    · rename_i cs hl
      rw [look_ownV hl]
      simp only [CB.b]
      exact cloadL_ok h hK
    · cases h
  · rename_i n s z rows i j
    have := rowC_ok z h hK
    simp only [C.v, vloadR]
    cases sz <;> exact this
  · cases h

noncomputable def litC (c : C) : Option C := match c with
  | .unit => none
  | c => some c
theorem litC_ok {c d : C} {K : V → Prop} (h : litC c = some d) (hK : K d.v) : litK c.v K := by
  cases c <;> simp only [litC, Option.some.injEq, reduceCtorEq] at h <;> subst h <;> simp only [C.v] at hK <;> simp only [C.v, litK] <;> first | exact hK | exact cmp_ok hK
noncomputable def cload (own : COwn) (sz : Option Nat) (p : C) : Option C := match cloadR own sz p with
  | some c => litC c
  | none => none
theorem cload_ok {own : COwn} {sz : Option Nat} {p c : C} {K : V → Prop} (h : cload own sz p = some c) (hK : K c.v) : vload (ownV own) sz p.v K := by
  unfold cload at h
  split at h
  · rename_i d hd
    exact cloadR_ok hd (litC_ok h hK)
  · cases h

/-! ## lists that are changed -/

noncomputable def stC {α β : Type} (l : List α) : Nat → List α → (List α → Option β) → Option β :=
  @List.rec α (fun _ => Nat → List α → (List α → Option β) → Option β)
    (fun _ vs K => match vs with | [] => K [] | _ :: _ => none)
    (fun x r ih o vs K => match vs with
      | [] => K (x :: r)
      | v :: vs => @Nat.rec (fun _ => Option β) (ih 0 vs fun l => K (v :: l)) (fun o _ => ih o (v :: vs) fun l => K (x :: l)) o) l
theorem stC_ok {α β : Type} : ∀ (l : List α) (o : Nat) (vs : List α) (K : List α → Option β) (out : β), stC l o vs K = some out →
    ∃ l', K l' = some out ∧ l'.length = l.length ∧ (vs ≠ [] → o + vs.length ≤ l.length) ∧ l' = l.take o ++ vs ++ l.drop (o + vs.length) ∧ ∀ {γ : Type} (f : α → γ) (Kp : List γ → Prop), Kp (l'.map f) → setK (l.map f) o (vs.map f) Kp
  | [], o, [], K, out, h => ⟨[], h, rfl, fun h => (h rfl).elim, by simp, fun f Kp hK => by cases o <;> exact hK⟩
  | [], o, v :: vs, K, out, h => by cases h
  | x :: r, o, [], K, out, h => ⟨x :: r, h, rfl, fun h => (h rfl).elim, by simp, fun f Kp hK => by cases o <;> exact hK⟩
  | x :: r, 0, v :: vs, K, out, h => by
    obtain ⟨l', a1, a2, a3, a4, a5⟩ := stC_ok r 0 vs (fun l => K (v :: l)) out h
    refine ⟨v :: l', a1, by simp [a2], fun _ => ?_, by rw [a4]; simp [Nat.add_comm], fun f Kp hK => a5 f _ (by simpa using hK)⟩
    cases vs with
    | nil => simp
    | cons y ys => have := a3 (by simp); simp at this ⊢; omega
  | x :: r, o + 1, v :: vs, K, out, h => by
    obtain ⟨l', a1, a2, a3, a4, a5⟩ := stC_ok r o (v :: vs) (fun l => K (x :: l)) out h
    refine ⟨x :: l', a1, by simp [a2], fun _ => by have := a3 (by simp); simp at this ⊢; omega, ?_, fun f Kp hK => a5 f _ (by simpa using hK)⟩
    rw [a4]
    simp [show o + 1 + (vs.length + 1) = o + (vs.length + 1) + 1 by omega]

noncomputable def upC {β : Type} (t : Nat) (x : CB) (l : COwn) : (COwn → Option β) → Option β :=
  @List.rec (Nat × CB) (fun _ => (COwn → Option β) → Option β) (fun K => K [])
    (fun p r ih K => @Prod.rec Nat CB (fun _ => Option β) (fun k v => @Bool.rec (fun _ => Option β) (ih fun r' => K ((k, v) :: r')) (K ((k, x) :: r)) (Nat.beq k t)) p) l
theorem upC_ok {β : Type} {t : Nat} {x : CB} : ∀ {l : COwn} {K : COwn → Option β} {out : β}, upC t x l K = some out →
    ∃ l', K l' = some out ∧ ∀ Kp : Own → Prop, Kp (ownV l') → updK t x.b (ownV l) Kp
  | [], K, out, h => ⟨[], h, fun Kp hK => hK⟩
  | (k, v) :: r, K, out, h => by
    have h : @Bool.rec (fun _ => Option β) (upC t x r fun r' => K ((k, v) :: r')) (K ((k, x) :: r)) (Nat.beq k t) = some out := h
    cases hb : Nat.beq k t with
    | true =>
      rw [hb] at h
      exact ⟨_, h, fun Kp hK => by simp only [ownV, List.map_cons, updK, hb]; exact hK⟩
    | false =>
      rw [hb] at h
      obtain ⟨l', a1, a2⟩ := upC_ok (K := fun r' => K ((k, v) :: r')) h
      exact ⟨_, a1, fun Kp hK => by simp only [ownV, List.map_cons, updK, hb]; exact a2 _ hK⟩

noncomputable def deC {β : Type} (t : Nat) (l : COwn) : (COwn → Option β) → Option β :=
  @List.rec (Nat × CB) (fun _ => (COwn → Option β) → Option β) (fun K => K [])
    (fun p r ih K => @Prod.rec Nat CB (fun _ => Option β) (fun k v => @Bool.rec (fun _ => Option β) (ih fun r' => K ((k, v) :: r')) (K r) (Nat.beq k t)) p) l
theorem deC_ok {β : Type} {t : Nat} : ∀ {l : COwn} {K : COwn → Option β} {out : β}, deC t l K = some out →
    ∃ l', K l' = some out ∧ ∀ Kp : Own → Prop, Kp (ownV l') → delK t (ownV l) Kp
  | [], K, out, h => ⟨[], h, fun Kp hK => hK⟩
  | (k, v) :: r, K, out, h => by
    have h : @Bool.rec (fun _ => Option β) (deC t r fun r' => K ((k, v) :: r')) (K r) (Nat.beq k t) = some out := h
    cases hb : Nat.beq k t with
    | true =>
      rw [hb] at h
      exact ⟨_, h, fun Kp hK => by simp only [ownV, List.map_cons, delK, hb]; exact hK⟩
    | false =>
      rw [hb] at h
      obtain ⟨l', a1, a2⟩ := deC_ok (K := fun r' => K ((k, v) :: r')) h
      exact ⟨_, a1, fun Kp hK => by simp only [ownV, List.map_cons, delK, hb]; exact a2 _ hK⟩

/-! ## freezing -/

theorem tab_tabz (rows : List (List V)) : tab rows = tabz [] rows := rfl

noncomputable def cbor0 (own : COwn) (v : C) : Option C :=
  match v with
  | .vec k s lo len => match lk own k with
    | some (.vec n s' z rows) => match Nat.beq s s' with
      | true => match Nat.ble (lo + len) n with
        | true => fH (dr rows lo) fun q => some (.fz len s false z q)
        | false => none
      | false => none
    | _ => none
  | v => match kf2C v with
    | true => some v
    | false => none
theorem cbor0_ok {own : COwn} {v c : C} {K : V → Prop} (h : cbor0 own v = some c) (hK : K c.v) : bor0 (ownV own) v.v K := by
  have other : (∀ k s lo len, v ≠ .vec k s lo len) → kf2C v = true → K v.v → bor0 (ownV own) v.v K := by
    intro hne hk hK
    have := kf2C_eq v
    rw [hk] at this
    cases v <;> first
      | exact (hne _ _ _ _ rfl).elim
      | (simp only [C.v] at this hK ⊢
         simp only [bor0, this]
         exact hK)
  unfold cbor0 at h
  split at h
  · rename_i k s lo len
    simp only [C.v, bor0]
    split at h
    · rename_i n s' z rows hl
      rw [look_ownV hl]
      simp only [CB.b]
      split at h
      · rename_i hs
        simp only [hs]
        split at h
        · rename_i hle
          refine ⟨Nat.le_of_ble_eq_true hle, ?_⟩
          rw [fH_eq] at h
          cases h
          rw [shiftF_tabzC]
          simp only [C.v, dr_eq] at hK
          exact hK
        · cases h
      · cases h
    · cases h
  · rename_i hne
    split at h
    · rename_i hk
      cases h
      exact other hne hk hK
    · cases h

noncomputable def cborL0 (own : COwn) : List C → Option (List C)
  | [] => some []
  | v :: r => match cbor0 own v with
    | some c => match cborL0 own r with
      | some l => some (c :: l)
      | none => none
    | none => none
theorem cborL0_ok {own : COwn} : ∀ {l cs : List C} {K : List V → Prop}, cborL0 own l = some cs → K (C.vs cs) → borL0 (ownV own) (C.vs l) K
  | [], cs, K, h, hK => by simp only [cborL0, Option.some.injEq] at h; subst h; simpa [C.vs, borL0] using hK
  | v :: r, cs, K, h, hK => by
    unfold cborL0 at h
    split at h
    · rename_i c hc
      split at h
      · rename_i l hl
        cases h
        simp only [C.vs, borL0]
        exact cbor0_ok hc (cborL0_ok hl (by simpa [C.vs] using hK))
      · cases h
    · cases h

theorem chunk_vs (s : Nat) : ∀ (n : Nat) (l : List C), chunk s n (C.vs l) = C.vss (chunk s n l)
  | 0, l => by simp [chunk, C.vss]
  | n + 1, l => by
    simp only [chunk, C.vss]
    rw [← chunk_vs s n, C.vs_map, C.vs_map, C.vs_map]
    simp

noncomputable def cbor1 (own : COwn) (v : C) : Option C :=
  match v with
  | .vec k s 0 len => match lk own k with
    | some (.cells cs) => match Nat.beq (len * s) (ln cs) with
      | true => match allC cellC cs with
        | true => match cborL0 own cs with
          | some cs' => some (.fz len s false [] (chunk s len cs'))
          | none => none
        | false => none
      | false => none
    | _ => cbor0 own (.vec k s 0 len)
  | v => cbor0 own v
theorem cbor1_ok {own : COwn} {v c : C} {K : V → Prop} (h : cbor1 own v = some c) (hK : K c.v) : bor1 (ownV own) v.v K := by
  unfold cbor1 at h
  split at h
  · rename_i k s len
    split at h
    · rename_i cs hl
      split at h
      · rename_i hlen
        split at h
        · rename_i hc
          split at h
          · rename_i cs' hcs
            cases h
            have hlen := Nat.eq_of_beq_eq_true hlen
            rw [ln_eq] at hlen
            have hcb : allB V.cellB (C.vs cs) = true := by rw [allB_vs cellC_eq]; exact hc
            have hK' : borL0 (ownV own) (C.vs cs) fun cs' => K (.fz len s false (tab (chunk s len cs'))) := by
              refine cborL0_ok hcs ?_
              rw [chunk_vs, tab_tabz]
              simpa [C.v, C.vs] using hK
            by_cases h1 : s = 1
            · subst h1
              simp only [C.v, bor1, look_ownV hl, CB.b, hcb]
              have e : Nat.beq len (C.vs cs).length = true := by rw [C.vs_length, ← hlen]; simp
              simp only [e]
              exact hK'
            · have e : Nat.beq (len * s) (C.vs cs).length = true := by rw [C.vs_length, ← hlen]; simp
              simp only [C.v]
              unfold bor1
              split
              · rename_i e1; cases e1; exact (h1 rfl).elim
              · rename_i e1
                cases e1
                rw [look_ownV hl]
                simp only [CB.b, hcb, e]
                exact hK'
              · rename_i hne2
                exact (hne2 _ _ _ rfl).elim
          · cases h
        · cases h
      · cases h
    · rename_i hne
      have hb := cbor0_ok h hK
      simp only [C.v] at hb ⊢
      have nocell : ∀ cs, look (ownV own) k ≠ some (.cells cs) := by
        intro cs e
        rw [ownV, look_map, ← lk_eq] at e
        cases hl : lk own k with
        | none => rw [hl] at e; cases e
        | some b => cases b with
          | cells cs' => exact hne cs' hl
          | vec n s z rows => rw [hl] at e; cases e
          | map mk es => rw [hl] at e; cases e
          | mapS es => rw [hl] at e; cases e
      have nofam : ∀ n s l f op, look (ownV own) k ≠ some (.fam n s l f op) := by
        intro n s l f op e
        rw [ownV, look_map, ← lk_eq] at e
        cases hl : lk own k with
        | none => rw [hl] at e; cases e
        | some b => cases b <;> (rw [hl] at e; cases e)
      unfold bor1
      split
      · rename_i e1
        cases e1
        split
        · rename_i cs hl; exact (nocell cs hl).elim
        · rename_i n s l f op hl; exact (nofam _ _ _ _ _ hl).elim
        · exact hb
      · rename_i e1
        cases e1
        split
        · rename_i cs hl; exact (nocell cs hl).elim
        · exact hb
      · exact hb
  · rename_i hne
    have hb := cbor0_ok h hK
    unfold bor1
    split
    · rename_i e1
      cases v <;> simp only [C.v, V.vec.injEq, reduceCtorEq] at e1
      obtain ⟨rfl, rfl, rfl, rfl⟩ := e1
      exact (hne _ _ _ rfl).elim
    · rename_i e1
      cases v <;> simp only [C.v, V.vec.injEq, reduceCtorEq] at e1
      obtain ⟨rfl, rfl, rfl, rfl⟩ := e1
      exact (hne _ _ _ rfl).elim
    · exact hb

noncomputable def cborL (own : COwn) : List C → Option (List C)
  | [] => some []
  | v :: r => match cbor1 own v with
    | some c => match cborL own r with
      | some l => some (c :: l)
      | none => none
    | none => none
theorem cborL_ok {own : COwn} : ∀ {l cs : List C} {K : List V → Prop}, cborL own l = some cs → K (C.vs cs) → borL (ownV own) (C.vs l) K
  | [], cs, K, h, hK => by simp only [cborL, Option.some.injEq] at h; subst h; simpa [C.vs, borL] using hK
  | v :: r, cs, K, h, hK => by
    unfold cborL at h
    split at h
    · rename_i c hc
      split at h
      · rename_i l hl
        cases h
        simp only [C.vs, borL]
        exact cbor1_ok hc (cborL_ok hl (by simpa [C.vs] using hK))
      · cases h
    · cases h
noncomputable def cbor (own : COwn) (v : C) : Option C :=
  match v with
  | .agg cs => match cborL own cs with
    | some l => some (.agg l)
    | none => none
  | .loc _ _ => none
  | v => cbor1 own v
theorem cbor_ok {own : COwn} {v c : C} {K : V → Prop} (h : cbor own v = some c) (hK : K c.v) : bor (ownV own) v.v K := by
  unfold cbor at h
  split at h
  · split at h
    · rename_i l hl
      cases h
      simp only [C.v, bor]
      exact cborL_ok hl (by simpa [C.v] using hK)
    · cases h
  · cases h
  · rename_i hne hne2
    have hb := cbor1_ok h hK
    cases v <;> first
      | exact (hne _ rfl).elim
      | exact (hne2 _ _ rfl).elim
      | (simp only [C.v] at hb ⊢; simp only [bor]; exact hb)

/-! ## what is frozen when it is put away -/

def keysLC : List C → List Nat
  | [] => []
  | v :: r => match v with
    | .vec k _ _ _ => k :: keysLC r
    | _ => keysLC r
theorem keysLC_eq : ∀ (l : List C), keysL (C.vs l) = keysLC l
  | [] => rfl
  | v :: r => by
    simp only [C.vs, keysL, keysLC, keysLC_eq r]
    cases v <;> simp [C.v, V.key1]
noncomputable def frzKeysC (own : COwn) (v : C) : List Nat :=
  match v with
  | .vec k _ _ _ => match lk own k with
    | some (.cells cs) => k :: keysLC cs
    | _ => [k]
  | .agg cs => keysLC cs
  | _ => []
theorem frzKeysC_eq (own : COwn) (v : C) : frzKeys (ownV own) v.v = frzKeysC own v := by
  cases v <;> simp [C.v, frzKeys, frzKeysC, keysLC_eq]
  rename_i k s lo len
  rw [ownV, look_map, ← lk_eq]
  cases hl : lk own k with
  | none => rfl
  | some b => cases b <;> simp [CB.b, keysLC_eq]
noncomputable def dropC (ks : List Nat) : COwn → COwn
  | [] => []
  | (k, b) :: r => match memN k ks with | true => dropC ks r | false => (k, b) :: dropC ks r
noncomputable def keepC (ks : List Nat) : COwn → COwn
  | [] => []
  | (k, b) :: r => match memN k ks with | true => (k, b) :: keepC ks r | false => keepC ks r
theorem dropC_eq (ks : List Nat) : ∀ (o : COwn), dropK ks (ownV o) = ownV (dropC ks o)
  | [] => rfl
  | (k, b) :: r => by
    have ih := dropC_eq ks r
    simp only [ownV, List.map_cons, dropK, dropC] at ih ⊢
    cases memN k ks <;> simp [ih]
theorem keepC_eq (ks : List Nat) : ∀ (o : COwn), keepK ks (ownV o) = ownV (keepC ks o)
  | [] => rfl
  | (k, b) :: r => by
    have ih := keepC_eq ks r
    simp only [ownV, List.map_cons, keepK, keepC] at ih ⊢
    cases memN k ks <;> simp [ih]
noncomputable def fOwn {β : Type} (o : COwn) : (COwn → β) → β := @List.rec (Nat × CB) (fun _ => (COwn → β) → β) (fun K => K []) (fun p _ ih K => ih fun r => K (p :: r)) o
theorem fOwn_eq {β : Type} : ∀ (o : COwn) (K : COwn → β), fOwn o K = K o
  | [], K => rfl
  | p :: r, K => fOwn_eq r fun r => K (p :: r)
noncomputable def cfrz {β : Type} (own : COwn) (v : C) (K : C → COwn → Option β) : Option β :=
  match cbor (keepC (frzKeysC own v) own) v with
  | some v' => fOwn (dropC (frzKeysC own v) own) fun own' => K v' own'
  | none => none
theorem cfrz_ok {β : Type} {own : COwn} {v : C} {K : C → COwn → Option β} {out : β} (h : cfrz own v K = some out) :
    ∃ v' o', K v' o' = some out ∧ ∀ Kp : V → Own → Prop, Kp v'.v (ownV o') → frzV (ownV own) v.v Kp := by
  unfold cfrz at h
  split at h
  · rename_i v' hv
    rw [fOwn_eq] at h
    refine ⟨v', _, h, fun Kp hK => ?_⟩
    unfold frzV
    rw [frzKeysC_eq, keepC_eq, dropC_eq]
    exact cbor_ok hv hK
  · cases h

/-! ## stores -/

theorem fset_tabz {z : List C} {rows : List (List C)} {i j : Nat} {row vs : List C} (h : rows[i]? = some row) (hj : j + vs.length ≤ row.length) :
    fset (tabz (C.vs z) (C.vss rows)) i j (C.vs vs) = tabz (C.vs z) (C.vss (rows.take i ++ [row.take j ++ vs ++ row.drop (j + vs.length)] ++ rows.drop (i + 1))) := by
  have hi := (List.getElem?_eq_some_iff.1 h).1
  funext i' j'
  have hrow : ∀ q, (rows.take i ++ [q] ++ rows.drop (i + 1))[i']? = if i' = i then some q else rows[i']? := by
    intro q
    have := splice_get rows [q] i (by simp only [List.length_singleton]; omega) i'
    simp only [List.length_singleton] at this
    rw [this]
    by_cases h1 : i' < i
    · rw [if_pos h1, if_neg (by omega)]
    · rw [if_neg h1]
      by_cases h2 : i' = i
      · subst h2; simp
      · rw [if_neg (by omega), if_neg h2]
  simp only [fset, tabz, List.getD_eq_getElem?_getD, C.vss_get, hrow, C.vs_length]
  by_cases e : i' = i
  · subst e
    simp only [if_true, h, Option.map_some, Option.getD_some, true_and, C.vs_get]
    rw [splice_get row vs j hj j']
    by_cases h1 : j' < j
    · rw [if_neg (by omega), if_pos h1]
    · rw [if_neg h1]
      by_cases h2 : j' < j + vs.length
      · rw [if_pos ⟨by omega, h2⟩, if_pos h2]
        have : j' - j < vs.length := by omega
        simp [this]
      · rw [if_neg (by omega), if_neg h2]
  · simp only [e, false_and, if_false]

noncomputable def cstoreL {β : Type} (own : COwn) (sz k off : Nat) (v : C) (K : COwn → Option β) : Option β :=
  match lk own k with
  | some (.cells cs) => match cellsN sz v with
    | some vs => stC cs off vs fun cs' => upC k (.cells cs') own K
    | none => none
  | _ => none
theorem cstoreL_ok {β : Type} {own : COwn} {sz k off : Nat} {v : C} {K : COwn → Option β} {out : β} (h : cstoreL own sz k off v K = some out) :
    ∃ o', K o' = some out ∧ ∀ Kp : Own → Prop, Kp (ownV o') → vstoreL (ownV own) sz k off v.v Kp := by
  unfold cstoreL at h
  split at h
  · rename_i cs hl
    split at h
    · rename_i vs hv
      obtain ⟨a1, a2, a3, a4⟩ := cellsN_ok hv
      obtain ⟨cs', b1, b2, b3, b4, b5⟩ := stC_ok _ _ _ _ _ h
      obtain ⟨o', c1, c2⟩ := upC_ok b1
      refine ⟨o', c1, fun Kp hK => ?_⟩
      unfold vstoreL
      rw [look_ownV hl]
      simp only [CB.b]
      refine cellsC_ok a1 ?_
      simp only [a3, a4]
      rw [C.vs_map, C.vs_map]
      refine b5 C.v _ ?_
      have := c2 Kp hK
      simpa [CB.b, C.vs_map] using this
    · cases h
  · cases h

noncomputable def cstore {β : Type} (own : COwn) (sz : Nat) (p v : C) (K : COwn → Option β) : Option β :=
  match p with
  | .loc k off => cstoreL own sz k off v K
  | .oel k s i j => match lk own k with
    | some (.vec n s' z rows) => match cellsN sz v with
      | some vs => match allC kf1C vs with
        | true => match Nat.beq s s' with
          | true => match Nat.ble (j + sz) s with
            | true => match Nat.blt i n with
              | true => match Nat.ble 1 sz with
                | true => match nt rows i with
                  | some row => stC row j vs fun row' => stC rows i [row'] fun rows' => upC k (.vec n s z rows') own K
                  | none => none
                | false => none
              | false => none
            | false => none
          | false => none
        | false => none
      | none => none
    | some (.cells _) => cstoreL own sz k (i * s + j) v K
    | _ => none
  | _ => none
theorem cstore_ok {β : Type} {own : COwn} {sz : Nat} {p v : C} {K : COwn → Option β} {out : β} (h : cstore own sz p v K = some out) :
    ∃ o', K o' = some out ∧ ∀ Kp : Own → Prop, Kp (ownV o') → vstore (ownV own) sz p.v v.v Kp := by
  unfold cstore at h
  split at h
  · simp only [C.v, vstore]; exact cstoreL_ok h
  · rename_i k s i j
    split at h
    · rename_i n s' z rows hl
      split at h
      · rename_i vs hv
        obtain ⟨a1, a2, a3, a4⟩ := cellsN_ok hv
        split at h
        · rename_i hkf
          split at h
          · rename_i hs
            split at h
            · rename_i hj
              split at h
              · rename_i hi
                split at h
                case h_2 => cases h
                rename_i h0
                split at h
                · rename_i row hr
                  obtain ⟨row', b1, b2, b3, b4, b5⟩ := stC_ok _ _ _ _ _ h
                  obtain ⟨rows', d1, d2, d3, d4, d5⟩ := stC_ok _ _ _ _ _ b1
                  obtain ⟨o', c1, c2⟩ := upC_ok d1
                  refine ⟨o', c1, fun Kp hK => ?_⟩
                  have e := Nat.eq_of_beq_eq_true hs
                  subst e
                  simp only [C.v, vstore]
                  rw [look_ownV hl]
                  simp only [CB.b]
                  refine cellsC_ok a1 ?_
                  have hkf' : allB V.kf1 (C.vs vs) = true := by rw [allB_vs kf1C_eq]; exact hkf
                  simp only [a3, a4, hkf', hs, hj]
                  refine ⟨Nat.le_of_ble_eq_true hi, ?_⟩
                  have := c2 Kp hK
                  rw [nt_eq, nth_get] at hr
                  have hfit : j + vs.length ≤ row.length := b3 (by
                    intro e
                    rw [e] at a2
                    have := Nat.le_of_ble_eq_true h0
                    simp at a2
                    omega)
                  rw [fset_tabz hr hfit]
                  simp only [CB.b, d4, b4, List.length_singleton] at this
                  exact this
                · cases h
              · cases h
            · cases h
          · cases h
        · cases h
      · cases h
    · rename_i cs hl
      simp only [C.v, vstore]
      rw [look_ownV hl]
      simp only [CB.b]
      exact cstoreL_ok h
    · cases h
  · cases h

noncomputable def keyedC : C → Bool
  | .vec _ _ _ _ => true
  | .agg cs => match keysLC cs with | [] => false | _ :: _ => true
  | _ => false
theorem keyedC_eq (v : C) : v.v.keyed = keyedC v := by
  cases v <;> simp only [C.v, V.keyed, keyedC, keysLC_eq]
  rename_i cs
  cases keysLC cs <;> rfl

noncomputable def cstoreF {β : Type} (own : COwn) (sz : Nat) (p v : C) (K : COwn → Option β) : Option β :=
  match p with
  | .oel k s i j => match lk own k with
    | some (.vec _ _ _ _) => match keyedC v with
      | true => cfrz own v fun v' own' => cstore own' sz (.oel k s i j) v' K
      | false => cstore own sz (.oel k s i j) v K
    | _ => cstore own sz (.oel k s i j) v K
  | p => cstore own sz p v K
theorem cstoreF_ok {β : Type} {own : COwn} {sz : Nat} {p v : C} {K : COwn → Option β} {out : β} (h : cstoreF own sz p v K = some out) :
    ∃ o', K o' = some out ∧ ∀ Kp : Own → Prop, Kp (ownV o') → vstoreF (ownV own) sz p.v v.v Kp := by
  unfold cstoreF at h
  split at h
  · rename_i k s i j
    split at h
    · rename_i n s' z rows hl
      split at h
      · rename_i hk
        obtain ⟨v', o1, a1, a2⟩ := cfrz_ok h
        obtain ⟨o', b1, b2⟩ := cstore_ok a1
        refine ⟨o', b1, fun Kp hK => ?_⟩
        simp only [C.v, vstoreF]
        rw [look_ownV hl, keyedC_eq, hk]
        simp only [CB.b]
        refine a2 _ ?_
        have := b2 Kp hK
        simpa only [C.v] using this
      · rename_i hk
        obtain ⟨o', b1, b2⟩ := cstore_ok h
        refine ⟨o', b1, fun Kp hK => ?_⟩
        simp only [C.v, vstoreF]
        rw [look_ownV hl, keyedC_eq, hk]
        simp only [CB.b]
        have := b2 Kp hK
        simpa only [C.v] using this
    · rename_i hne
      obtain ⟨o', b1, b2⟩ := cstore_ok h
      refine ⟨o', b1, fun Kp hK => ?_⟩
      have := b2 Kp hK
      simp only [C.v] at this
      simp only [C.v, vstoreF]
      split
      · rename_i n s' f hl
        exfalso
        rw [ownV, look_map, ← lk_eq] at hl
        cases hq : lk own k with
        | none => rw [hq] at hl; cases hl
        | some b => cases b with
          | vec n s z rows => exact hne _ _ _ _ hq
          | _ => rw [hq] at hl; cases hl
      · exact this
  · rename_i hne
    obtain ⟨o', b1, b2⟩ := cstore_ok h
    refine ⟨o', b1, fun Kp hK => ?_⟩
    have := b2 Kp hK
    cases p <;> first
      | exact (hne _ _ _ _ rfl).elim
      | (simp only [C.v] at this ⊢; simp only [vstoreF]; exact this)

/-! ## appending -/

/-- what a slice reads as: how many elements, and its rows -/
noncomputable def csrc (own : COwn) (s : Nat) (y : C) : Option (Nat × List C × List (List C)) :=
  match y with
  | .fz m s' _ z rows => match Nat.beq s s' with | true => some (m, z, rows) | false => none
  | .vec k s' lo len => match lk own k with
    | some (.vec n s'' z rows) => match Nat.beq s s' with
      | true => match Nat.beq s s'' with
        | true => match Nat.ble (lo + len) n with
          | true => fH (dr rows lo) fun q => some (len, z, q)
          | false => none
        | false => none
      | false => none
    | _ => none
  | _ => none
theorem csrc_ok {own : COwn} {s : Nat} {y : C} {m : Nat} {z : List C} {rows : List (List C)} {K : Nat → (Nat → Nat → V) → Prop} (h : csrc own s y = some (m, z, rows)) (hK : K m (tabz (C.vs z) (C.vss rows))) : vsrc (ownV own) s y.v K := by
  unfold csrc at h
  split at h
  · split at h
    · rename_i hs
      cases h
      simp only [C.v, vsrc, hs]
      exact hK
    · cases h
  · rename_i k s' lo len
    simp only [C.v, vsrc]
    split at h
    · rename_i n s'' z' rows' hl
      rw [look_ownV hl]
      simp only [CB.b]
      split at h
      · rename_i h1
        split at h
        · rename_i h2
          split at h
          · rename_i h3
            rw [fH_eq] at h
            cases h
            simp only [h1, h2]
            refine ⟨Nat.le_of_ble_eq_true h3, ?_⟩
            rw [shiftF_tabzC]
            rw [dr_eq] at hK
            exact hK
          · cases h
        · cases h
      · cases h
    · cases h
  · cases h

/-- the same lies beside -/
def lastC : List C → Option C
  | [] => some (.bool false)
  | [v] => some v
  | _ :: r => lastC r
theorem lastC_ok : ∀ (z : List C), (lastC z).map C.v = some (lastV (C.vs z))
  | [] => by simp [lastC, lastV, C.vs, C.v]; rfl
  | [v] => by simp [lastC, lastV, C.vs]
  | _ :: b :: r => by simpa [lastC, lastV, C.vs] using lastC_ok (b :: r)
def sameL (z z' : List C) : Bool := match lastC z with
  | some (.int k a) => match lastC z' with
    | some (.int k' b) => match kEq k k' with | true => ieq a b | false => false
    | _ => false
  | some (.bool a) => match lastC z' with
    | some (.bool b) => a == b
    | _ => false
  | some .nilslice => match lastC z' with
    | some .nilslice => true
    | _ => false
  | _ => false
theorem sameL_ok {z z' : List C} (h : sameL z z' = true) : lastV (C.vs z) = lastV (C.vs z') := by
  have h1 := lastC_ok z
  have h2 := lastC_ok z'
  have key : lastC z = lastC z' := by
    unfold sameL at h
    split at h
    · rename_i e1
      split at h
      · rename_i e2
        split at h
        · rename_i e3
          rw [ieq_eq, beq_iff_eq] at h
          rw [e1, e2, kEq_ok e3, h]
        · cases h
      · cases h
    · rename_i e1
      split at h
      · rename_i e2
        rw [beq_iff_eq] at h
        rw [e1, e2, h]
      · cases h
    · rename_i e1
      split at h
      · rename_i e2
        rw [e1, e2]
      · cases h
    · cases h
  rw [key, h2] at h1
  exact (Option.some.inj h1).symm

theorem fapp_tabz {z z' : List C} {rows rows' : List (List C)} {lo len : Nat} (h : lo + len ≤ rows.length) (hz : lastV (C.vs z) = lastV (C.vs z')) :
    fapp (shiftF lo (tabz (C.vs z) (C.vss rows))) len (tabz (C.vs z') (C.vss rows')) = tabz (C.vs z') (C.vss ((rows.drop lo).take len ++ rows')) := by
  funext i j
  have hlen : ((rows.drop lo).take len).length = len := by simp; omega
  by_cases hi : i < len
  · rw [fapp_lt hi, shiftF_eq]
    simp only [tabz, List.getD_eq_getElem?_getD, C.vss_get]
    rw [List.getElem?_append_left (by omega), List.getElem?_take, if_pos hi, List.getElem?_drop]
    have : lo + i < rows.length := by omega
    simp [this, hz]
  · rw [fapp_ge hi]
    simp only [tabz, List.getD_eq_getElem?_getD, C.vss_get]
    rw [List.getElem?_append_right (by omega), hlen]
theorem fput_tabz {z z' : List C} {rows rows' : List (List C)} {p m : Nat} (h : p + m ≤ rows.length) (h' : m ≤ rows'.length) (hz : lastV (C.vs z) = lastV (C.vs z')) :
    fput (tabz (C.vs z) (C.vss rows)) p m (tabz (C.vs z') (C.vss rows')) = tabz (C.vs z) (C.vss (rows.take p ++ rows'.take m ++ rows.drop (p + m))) := by
  funext i j
  have hl : (rows'.take m).length = m := by simp; omega
  have hs := splice_get rows (rows'.take m) p (by omega) i
  rw [hl] at hs
  simp only [fput, tabz, List.getD_eq_getElem?_getD, C.vss_get, hs]
  by_cases h1 : i < p
  · rw [if_neg (by omega), if_pos h1]
  · by_cases h2 : i < p + m
    · rw [if_pos ⟨by omega, h2⟩, if_neg h1, if_pos h2, List.getElem?_take, if_pos (by omega)]
      have : i - p < rows'.length := by omega
      simp [this, hz]
    · rw [if_neg (by omega), if_neg h1, if_neg h2]

/-- l behind the first n of another list -/
noncomputable def apK {α β : Type} (n : Nat) : List α → List α → (List α → Option β) → Option β :=
  @Nat.rec (fun _ => List α → List α → (List α → Option β) → Option β) (fun _ l K => K l) (fun _ ih q l K => @List.rec α (fun _ => Option β) none (fun x r _ => ih r l fun o => K (x :: o)) q) n
theorem apK_eq {α β : Type} (n : Nat) (q l : List α) (K : List α → Option β) : apK n q l K = if n ≤ q.length then K (q.take n ++ l) else none := by
  induction n generalizing q K with
  | zero => simp only [Nat.zero_le, if_true, List.take_zero, List.nil_append]; rfl
  | succ n ih => cases q with
    | nil => rfl
    | cons x r =>
      show apK n r l (fun o => K (x :: o)) = _
      rw [ih]
      simp

structure R where
  v : C
  o : COwn
  k : Nat

/-- the supply of names -/
def KB : Nat := 1000000
def ksV (k : Nat) : List Nat := List.range' k (KB - k)
theorem ksV_cons {k : Nat} (h : k < KB) : ksV k = k :: ksV (k + 1) := by
  unfold ksV
  rw [show KB - k = (KB - (k + 1)) + 1 by omega, List.range'_succ]
noncomputable def frC {β : Type} (k : Nat) (K : Nat → Nat → Option β) : Option β := match Nat.blt k KB with
  | true => fN (Nat.succ k) fun k' => K k k'
  | false => none
theorem frC_ok {β : Type} {k : Nat} {K : Nat → Nat → Option β} {out : β} (h : frC k K = some out) : K k (k + 1) = some out ∧ ∀ Kp : Nat → List Nat → Prop, Kp k (ksV (k + 1)) → fresh (ksV k) Kp := by
  unfold frC at h
  split at h
  · rename_i hb
    rw [fN_eq] at h
    refine ⟨h, fun Kp hK => ?_⟩
    rw [ksV_cons (Nat.le_of_ble_eq_true hb)]
    exact hK
  · cases h

noncomputable def bigC (n bytes : Nat) {β : Type} (K : Option β) : Option β := match Nat.ble (n * bytes) 140737488355328 with
  | true => match Nat.ble n 9223372036854775807 with | true => K | false => none
  | false => none
theorem bigC_ok {n bytes : Nat} {β : Type} {K : Option β} {out : β} (h : bigC n bytes K = some out) : n * bytes ≤ 140737488355328 ∧ n ≤ 9223372036854775807 ∧ K = some out := by
  unfold bigC at h
  split at h
  · rename_i h1
    split at h
    · rename_i h2
      exact ⟨Nat.le_of_ble_eq_true h1, Nat.le_of_ble_eq_true h2, h⟩
    · cases h
  · cases h

noncomputable def cappg (own : COwn) (ks s bytes k lo len m : Nat) (rows : List (List C)) (z' : List C) (rows' : List (List C)) : Option R :=
  bigC (len + m) bytes (frC ks fun k' ks => deC k own fun own' => apK len (dr rows lo) rows' fun q => fN (len + m) fun n => some ⟨.vec k' s 0 n, (k', .vec n s z' q) :: own', ks⟩)

noncomputable def capp (own : COwn) (ks s bytes : Nat) (x y : C) : Option R :=
  match csrc own s y with
  | some (m, z', rows') => match x with
    | .nilslice => bigC m bytes (frC ks fun k' ks => some ⟨.vec k' s 0 m, (k', .vec m s z' rows') :: own, ks⟩)
    | .fz 0 _ true _ _ => bigC m bytes (frC ks fun k' ks => some ⟨.vec k' s 0 m, (k', .vec m s z' rows') :: own, ks⟩)
    | .vec k s' lo len => match lk own k with
      | some (.vec n s'' z rows) => match Nat.beq s s' with
        | true => match Nat.beq s s'' with
          | true => match Nat.ble (lo + len) n with
            | true => match sameL z z' with
             | false => none
             | true => match Nat.beq (lo + len) n with
              | true => cappg own ks s bytes k lo len m rows z' rows'
              | false => match Nat.ble (lo + len + m) n with
                | true => match Nat.ble 1 m with
                  | true => tk m rows' fun q => stC rows (lo + len) q fun rows2 => upC k (.vec n s z rows2) own fun own' => fN (len + m) fun n' => some ⟨.vec k s lo n', own', ks⟩
                  | false => none
                | false => cappg own ks s bytes k lo len m rows z' rows'
            | false => none
          | false => none
        | false => none
      | _ => none
    | _ => none
  | none => none

theorem cappg_ok {own : COwn} {ks s bytes k lo len n m : Nat} {z : List C} {rows : List (List C)} {z' : List C} {rows' : List (List C)} {r : R} {K : V → Own → List Nat → Prop} (hle : lo + len ≤ n) (hz : lastV (C.vs z) = lastV (C.vs z'))
    (h : cappg own ks s bytes k lo len m rows z' rows' = some r) (hK : K r.v.v (ownV r.o) (ksV r.k)) :
    vappg (ownV own) (ksV ks) s bytes k lo len n m (tabz (C.vs z) (C.vss rows)) (tabz (C.vs z') (C.vss rows')) K := by
  unfold cappg at h
  obtain ⟨a1, a2, h⟩ := bigC_ok h
  obtain ⟨h, b1⟩ := frC_ok h
  obtain ⟨o', h, c1⟩ := deC_ok h
  rw [apK_eq] at h
  split at h
  · rename_i hl
    rw [fN_eq] at h
    cases h
    rw [dr_eq, List.length_drop] at hl
    unfold vappg
    refine ⟨hle, a1, a2, b1 _ (c1 _ ?_)⟩
    by_cases h0 : len = 0
    · subst h0
      simp only [fapp]
      simpa [C.v, ownV, CB.b, dr_eq] using hK
    · rw [fapp_tabz (by omega) hz]
      simpa [C.v, ownV, CB.b, dr_eq] using hK
  · cases h

theorem capp_ok {own : COwn} {ks s bytes : Nat} {x y : C} {r : R} {K : V → Own → List Nat → Prop} (h : capp own ks s bytes x y = some r) (hK : K r.v.v (ownV r.o) (ksV r.k)) : vapp (ownV own) (ksV ks) s bytes x.v y.v K := by
  unfold capp at h
  split at h
  · rename_i m z' rows' hsrc
    refine csrc_ok hsrc ?_
    split at h
    · obtain ⟨a1, a2, h⟩ := bigC_ok h
      obtain ⟨h, b1⟩ := frC_ok h
      cases h
      simp only [C.v]
      exact ⟨a1, a2, b1 _ (by simpa [C.v, ownV, CB.b] using hK)⟩
    · obtain ⟨a1, a2, h⟩ := bigC_ok h
      obtain ⟨h, b1⟩ := frC_ok h
      cases h
      simp only [C.v]
      exact ⟨a1, a2, b1 _ (by simpa [C.v, ownV, CB.b] using hK)⟩
    · rename_i k s' lo len
      simp only [C.v]
      split at h
      · rename_i n s'' z rows hl
        rw [look_ownV hl]
        simp only [CB.b]
        split at h
        · rename_i h1
          split at h
          · rename_i h2
            simp only [h1, h2]
            split at h
            · rename_i h3
              have h3 := Nat.le_of_ble_eq_true h3
              split at h
              · cases h
              rename_i hz
              have hz := sameL_ok hz
              split at h
              · rename_i h4
                exact ⟨fun _ => cappg_ok h3 hz h hK, fun e => by rw [h4] at e; cases e⟩
              · rename_i h4
                refine ⟨fun e => (by rw [h4] at e; cases e), fun _ => ?_⟩
                split at h
                · rename_i h5
                  refine ⟨fun _ => ?_, fun e => (by rw [h5] at e; cases e)⟩
                  split at h
                  · rename_i h6
                    have h6 := Nat.le_of_ble_eq_true h6
                    have e1 := Nat.eq_of_beq_eq_true h1
                    subst e1
                    rw [tk_eq] at h
                    split at h
                    · rename_i h7
                      obtain ⟨rows2, g1, g2, g3, g4, g5⟩ := stC_ok _ _ _ _ _ h
                      obtain ⟨o', c1, c2⟩ := upC_ok g1
                      rw [fN_eq] at c1
                      cases c1
                      have hl : (rows'.take m).length = m := by simp; omega
                      have g3 := g3 (fun e => by rw [e] at hl; simp at hl; omega)
                      rw [hl] at g3 g4
                      rw [fput_tabz g3 h7 hz]
                      have := c2 (fun own' => K (.vec k s lo (len + m)) own' (ksV ks)) (by simpa [C.v] using hK)
                      simp only [CB.b, g4] at this
                      exact this
                    · cases h
                  · cases h
                · rename_i h5
                  exact ⟨fun e => (by rw [h5] at e; cases e), fun _ => cappg_ok h3 hz h hK⟩
            · cases h
          · cases h
        · cases h
      · cases h
    · cases h
  · cases h

noncomputable def cappF (own : COwn) (ks s bytes : Nat) (x y : C) : Option R :=
  match y with
  | .vec k s' lo len => match lk own k with
    | some (.cells _) => cfrz own (.vec k s' lo len) fun y' own' => capp own' ks s bytes x y'
    | _ => capp own ks s bytes x (.vec k s' lo len)
  | y => capp own ks s bytes x y
theorem cappF_ok {own : COwn} {ks s bytes : Nat} {x y : C} {r : R} {K : V → Own → List Nat → Prop} (h : cappF own ks s bytes x y = some r) (hK : K r.v.v (ownV r.o) (ksV r.k)) : vappF (ownV own) (ksV ks) s bytes x.v y.v K := by
  unfold cappF at h
  split at h
  · rename_i k s' lo len
    split at h
    · rename_i cs hl
      obtain ⟨v', o1, a1, a2⟩ := cfrz_ok h
      simp only [C.v, vappF]
      rw [look_ownV hl]
      simp only [CB.b]
      have := a2 (fun y' own' => vapp own' (ksV ks) s bytes x.v y' K) (capp_ok a1 hK)
      simpa only [C.v] using this
    · rename_i hne
      have := capp_ok h hK
      simp only [C.v] at this
      simp only [C.v, vappF]
      split
      · rename_i cs hl
        exfalso
        rw [ownV, look_map, ← lk_eq] at hl
        cases hq : lk own k with
        | none => rw [hq] at hl; cases hl
        | some b => cases b with
          | cells cs => exact hne _ hq
          | _ => rw [hq] at hl; cases hl
      · exact this
  · rename_i hne
    have := capp_ok h hK
    cases y <;> first
      | exact (hne _ _ _ _ rfl).elim
      | (simp only [C.v] at this ⊢; simp only [vappF]; exact this)

end Go.Eng
