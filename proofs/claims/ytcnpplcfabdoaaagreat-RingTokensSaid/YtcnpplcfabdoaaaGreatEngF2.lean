/-
  The engine, part F2: what is lent or frozen.
-/
import Derived.Test.YtcnpplcfabdoaaaGreatEngF
namespace Go.Eng

def memN (n : Nat) : List Nat → Bool
  | [] => false
  | x :: r => match Nat.beq x n with | true => true | false => memN n r
theorem memN_iff {n : Nat} : ∀ {l : List Nat}, memN n l = true ↔ n ∈ l
  | [] => by simp [memN]
  | x :: r => by
    unfold memN
    split
    · rename_i h
      have := Nat.eq_of_beq_eq_true h
      subst this
      simp
    · rename_i h
      have hne : x ≠ n := fun e => by subst e; simp at h
      rw [memN_iff, List.mem_cons]
      constructor
      · exact .inr
      · rintro (e | e)
        · exact (hne e.symm).elim
        · exact e

theorem Sg.none_le (σ : Sg) : Sg.none.le σ := fun _ _ h => by cases h

/-- what is handed to a callee that only reads -/
def bor0 (own : Own) (v : V) (K : V → Prop) : Prop :=
  match v with
  | .vec k s lo len => match look own k with
    | some (.vec n s' f) => match Nat.beq s s' with
      | true => Len (lo + len) n (K (.fz len s false (shiftF lo f)))
      | false => False
    | _ => False
  | v => match v.kf2 with
    | true => K v
    | false => False

def borL0 (own : Own) : List V → (List V → Prop) → Prop
  | [], K => K []
  | v :: r, K => bor0 own v fun v => borL0 own r fun r => K (v :: r)

/-- rows of elements -/
def tab (rows : List (List V)) : Nat → Nat → V := fun i j => (rows.getD i []).getD j default
/-- the cells of n elements -/
def chunk {α : Type} (s : Nat) : Nat → List α → List (List α)
  | 0, _ => []
  | n + 1, l => l.take s :: chunk s n (l.drop s)
theorem chunk_get {α : Type} (s : Nat) : ∀ (n : Nat) (l : List α) (i : Nat), i < n → (chunk s n l)[i]? = some ((l.drop (i * s)).take s)
  | 0, l, i, h => by omega
  | n + 1, l, 0, h => by simp [chunk]
  | n + 1, l, i + 1, h => by
    simp only [chunk, List.getElem?_cons_succ]
    rw [chunk_get s n _ i (by omega), List.drop_drop, Nat.succ_mul, Nat.add_comm s]
theorem tab_chunk {s n : Nat} {l : List V} {i j : Nat} (hi : i < n) (hj : j < s) (h : i * s + j < l.length) : tab (chunk s n l) i j = l[i * s + j] := by
  simp only [tab, List.getD_eq_getElem?_getD, chunk_get s n l i hi, Option.getD_some, List.getElem?_take, hj, if_true, List.getElem?_drop]
  simp [h]

def setF (f : Nat → Nat → Nat → V) (i : Nat) (g : Nat → Nat → V) : Nat → Nat → Nat → V := fun j => if j = i then g else f j
/-- what the rows read as, the open ones too -/
def famK (own : Own) (s : Nat) (ln : Nat → Nat) (f : Nat → Nat → Nat → V) : List (Nat × Nat) → ((Nat → Nat → Nat → V) → Prop) → Prop
  | [], K => K f
  | (i, q) :: r, K => match look own q with
    | some (.vec m s' g) => match Nat.beq s s' with
      | true => Len (ln i) m (famK own s ln f r fun f' => K (setF f' i g))
      | false => False
    | _ => False
theorem famK_sound {own : Own} {s : Nat} {ln : Nat → Nat} {f : Nat → Nat → Nat → V} : ∀ {op : List (Nat × Nat)} {K : (Nat → Nat → Nat → V) → Prop}, famK own s ln f op K →
    ∃ f', K f' ∧ ∀ i, (look op i = none → f' i = f i) ∧ ∀ q, look op i = some q → ∃ m, look own q = some (.vec m s (f' i)) ∧ ln i ≤ m
  | [], K, h => ⟨f, h, fun i => ⟨fun _ => rfl, fun q e => by simp [look] at e⟩⟩
  | (i0, q0) :: r, K, h => by
    unfold famK at h
    split at h
    · rename_i m s' g hl
      split at h
      · rename_i e
        have e := Nat.eq_of_beq_eq_true e
        subst e
        obtain ⟨hle, h⟩ := h
        obtain ⟨f', hK, hf⟩ := famK_sound h
        refine ⟨_, hK, fun i => ?_⟩
        by_cases e : i0 = i
        · subst e
          rw [look_here rfl]
          exact ⟨fun h => (by cases h), fun q e => (by cases e; exact ⟨m, by simp [setF, hl], hle⟩)⟩
        · rw [look_there e]
          have e' : ¬ i = i0 := fun h => e h.symm
          simp only [setF, e', if_false]
          exact hf i
      · exact h.elim
    · exact h.elim

/-- as bor0, and a slice whose elements are slices that are owned, too -/
def bor1 (own : Own) (v : V) (K : V → Prop) : Prop :=
  match v with
  | .vec k 1 0 len => match look own k with
    | some (.cells cs) => match Nat.beq len cs.length, allB V.cellB cs with
      | true, true => borL0 own cs fun cs' => K (.fz len 1 false (tab (chunk 1 len cs')))
      | _, _ => False
    | some (.fam n s ln f op) => Len len n (famK own s ln f op fun f' => K (.fz len 1 false fun i _ => .fz (ln i) s false (f' i)))
    | _ => bor0 own (.vec k 1 0 len) K
  | .vec k s 0 len => match look own k with
    | some (.cells cs) => match Nat.beq (len * s) cs.length, allB V.cellB cs with
      | true, true => borL0 own cs fun cs' => K (.fz len s false (tab (chunk s len cs')))
      | _, _ => False
    | _ => bor0 own (.vec k s 0 len) K
  | v => bor0 own v K

def borL (own : Own) : List V → (List V → Prop) → Prop
  | [], K => K []
  | v :: r, K => bor1 own v fun v => borL own r fun r => K (v :: r)

def bor (own : Own) (v : V) (K : V → Prop) : Prop :=
  match v with
  | .agg cs => borL own cs fun cs => K (.agg cs)
  | .loc k 0 => match look own k with
    | some (.cells cs) => match allB V.cellB cs with
      | true => borL own cs fun cs' => K (.fe 1 cs.length (tab [cs']) 0 0)
      | false => False
    | _ => False
  | v => bor1 own v K

def bors (own : Own) : List V → (List V → Prop) → Prop
  | [], K => K []
  | v :: r, K => bor own v fun v => bors own r fun r => K (v :: r)

/-- blocks that somebody else may write while the callee runs -/
def lent (M : Nat → Prop) (w : World) (σ : Sg) (own : Own) : Nat → Prop := fun b => M b ∧ ¬ owned w σ own b

theorem lent_ext (M : Nat → Prop) (w : World) (σ : Sg) (own : Own) : Ext M w (lent M w σ own) w := ⟨fun _ _ hM => ⟨fun h => hM h.1, rfl⟩, Nat.le_refl _⟩

theorem bor0_sound {own : Own} {v : V} {K : V → Prop} (h : bor0 own v K) : ∃ v', K v' ∧ ∀ M w σ u, OwnSim M w σ own → Den M w σ v u → Den (lent M w σ own) w Sg.none v' u := by
  unfold bor0 at h
  split at h
  · rename_i k s lo len
    split at h
    · rename_i n s' f hlook
      split at h
      · rename_i e
        have e := Nat.eq_of_beq_eq_true e
        subst e
        obtain ⟨hle, hK⟩ := h
        refine ⟨_, hK, fun M w σ u ho hd => ?_⟩
        have hmem := look_mem hlook
        obtain ⟨bo, base, κ, s1, s2, s3⟩ := ho.blk k _ hmem
        cases hd with
        | vec _ _ _ _ _ bo' base' κ' c a hk hc hl ha =>
          rw [s1] at hk
          simp only [Option.some.injEq, Prod.mk.injEq] at hk
          obtain ⟨q1, q2, q3⟩ := hk
          subst q1 q2 q3
          rcases Nat.eq_zero_or_pos len with h0 | h0
          · subst h0
            exact .fz0 _ _ _ _ _ _ (by simp)
          · obtain ⟨b, hb', ha'⟩ := ha (by omega)
            clear ha
            subst hb' ha'
            rcases s3 with ⟨_, s3⟩ | ⟨b', ty, us, s3, s4, s5, s6, s7⟩
            · cases s3
            cases s3
            have hlt := lt_of_getElem? s5
            have hx : ∀ i j, i < len → j < s → ∃ x, us[base + ((lo + i) * s + j)]? = some x ∧ x.oneCell' = true ∧ Den M w Sg.none (f (lo + i) j) x := fun i j hi hj => s7 (lo + i) j (by omega) hj
            let U : Nat → Nat → Value := fun i j => if h : i < len ∧ j < s then Classical.choose (hx i j h.1 h.2) else undef
            have hU : ∀ i j (hi : i < len) (hj : j < s), us[base + ((lo + i) * s + j)]? = some (U i j) ∧ (U i j).oneCell' = true ∧ Den M w Sg.none (f (lo + i) j) (U i j) := fun i j hi hj => by
              simp only [U, hi, hj, and_self, dite_true]
              exact Classical.choose_spec (hx i j hi hj)
            refine .fz _ _ _ _ _ _ _ _ U hl (by simp) (fun hM => hM.2 ⟨k, _, hmem, .inl (by simp [blkOf, s1])⟩) hlt ?_ (fun i j hi hj => (hU i j hi hj).2.1) ?_
            · intro i j hi hj
              rw [show base + lo * s + (i * s + j) = base + ((lo + i) * s + j) by rw [Nat.add_mul]; omega]
              simp [World.cell?, s5, (hU i j hi hj).1]
            · intro i j hi hj
              rw [shiftF_eq]
              exact (hU i j hi hj).2.2.mono (lent_ext M w σ own) (Sg.le_refl _)
      · exact h.elim
    · exact h.elim
  · split at h
    · rename_i hkf
      exact ⟨v, h, fun M w σ u _ hd => (hd.kf2 hkf Sg.none).mono (lent_ext M w σ own) (Sg.le_refl _)⟩
    · exact h.elim

theorem borL0_sound {own : Own} : ∀ {vs : List V} {K : List V → Prop}, borL0 own vs K → ∃ vs', K vs' ∧ vs'.length = vs.length ∧ ∀ M w σ, OwnSim M w σ own → ∀ (i : Nat) (v v' : V) (u : Value), vs[i]? = some v → vs'[i]? = some v' → Den M w σ v u → Den (lent M w σ own) w Sg.none v' u
  | [], K, h => ⟨[], h, rfl, fun _ _ _ _ => by simp⟩
  | v :: r, K, h => by
    obtain ⟨v', h, hv⟩ := bor0_sound h
    obtain ⟨r', hK, hl, hr⟩ := borL0_sound h
    refine ⟨_, hK, by simp [hl], fun M w σ ho i x x' u hx hx' hd => ?_⟩
    cases i with
    | zero => simp at hx hx'; subst hx hx'; exact hv M w σ u ho hd
    | succ i => exact hr M w σ ho i x x' u (by simpa using hx) (by simpa using hx') hd

theorem bor1_sound {own : Own} {v : V} {K : V → Prop} (h : bor1 own v K) : ∃ v', K v' ∧ ∀ M w σ u, OwnSim M w σ own → Den M w σ v u → Den (lent M w σ own) w Sg.none v' u := by
  unfold bor1 at h
  split at h
  · rename_i k len
    split at h
    · rename_i cs hlook
      split at h
      · rename_i hlen hcb
        have hlen := Nat.eq_of_beq_eq_true hlen
        obtain ⟨cs', hK, hl, hr⟩ := borL0_sound h
        refine ⟨_, hK, fun M w σ u ho hd => ?_⟩
        have hmem := look_mem hlook
        obtain ⟨b, κ, ty, us, s1, s2, s3, s4, s5⟩ := ho.blk k _ hmem
        cases hd with
        | vec _ _ _ _ _ bo base κ' c a hk hc hlc ha =>
          rw [s1] at hk
          simp only [Option.some.injEq, Prod.mk.injEq] at hk
          obtain ⟨q1, q2, q3⟩ := hk
          subst q1 q2 q3
          rcases Nat.eq_zero_or_pos len with h0 | h0
          · subst h0
            exact .fz0 _ _ _ _ _ _ (by simp)
          · obtain ⟨b', hb', ha'⟩ := ha (by omega)
            cases hb'
            subst ha'
            have hU : ∀ i, i < len → ∃ x v, us[i]? = some x ∧ cs[i]? = some v ∧ x.oneCell' = true ∧ Den M w σ v x := fun i hi => by
              have h1 : i < us.size := by omega
              have h2 : i < cs.length := by omega
              have hdd := s5 i cs[i] us[i] (by simp [h2]) (by simp [h1])
              exact ⟨us[i], cs[i], by simp [h1], by simp [h2], hdd.oneCell (allB_mem hcb _ (List.getElem_mem h2)), hdd⟩
            refine .fz _ _ _ _ _ _ _ _ (fun i _ => us.getD i undef) hlc (by simp) (fun hM => hM.2 ⟨k, _, hmem, .inl (by simp [blkOf, s1])⟩) (lt_of_getElem? s3) ?_ ?_ ?_
            · intro i j hi hj
              obtain ⟨x, v, a1, _⟩ := hU i hi
              have hj0 : j = 0 := by omega
              subst hj0
              simp [World.cell?, s3, Array.getD_eq_getD_getElem?, a1]
            · intro i j hi hj
              obtain ⟨x, v, a1, _, a3, _⟩ := hU i hi
              simpa [Array.getD_eq_getD_getElem?, a1] using a3
            · intro i j hi hj
              obtain ⟨x, v, a1, a2, _, a4⟩ := hU i hi
              have h2 : i < cs'.length := by omega
              have := hr M w σ ho i v cs'[i] x a2 (by simp [h2]) a4
              have hj0 : j = 0 := by omega
              subst hj0
              have e1 : tab (chunk 1 len cs') i 0 = cs'[i] := by rw [tab_chunk hi (by omega) (by omega)]; simp
              rw [e1]
              simpa [Array.getD_eq_getD_getElem?, a1] using this
      · exact h.elim
    · rename_i n s ln f op hlook
      obtain ⟨hle, h⟩ := h
      obtain ⟨f', hK, hf⟩ := famK_sound h
      refine ⟨_, hK, fun M w σ u ho hd => ?_⟩
      have hmem := look_mem hlook
      obtain ⟨bo, base, κ, s1, s2, s3⟩ := ho.blk k _ hmem
      cases hd with
      | vec _ _ _ _ _ bo' base' κ' c a hk hc hl ha =>
        rw [s1] at hk
        simp only [Option.some.injEq, Prod.mk.injEq] at hk
        obtain ⟨q1, q2, q3⟩ := hk
        subst q1 q2 q3
        rcases Nat.eq_zero_or_pos len with h0 | h0
        · subst h0
          exact .fz0 _ _ _ _ _ _ (by simp)
        · obtain ⟨b, hb', ha'⟩ := ha (by omega)
          clear ha
          subst hb' ha'
          rcases s3 with ⟨_, s3⟩ | ⟨b', ty, us, s3, s4, s5, s6, s7, s8, s9⟩
          · cases s3
          cases s3
          have hx : ∀ i, i < len → ∃ x, us[base + i]? = some x ∧ x.oneCell' = true ∧ Den (lent M w σ own) w Sg.none (.fz (ln i) s false (f' i)) x := fun i hi => by
            obtain ⟨u, u1, a, c', u2, u3, u4, u5⟩ := s7 i (by omega)
            subst u2
            refine ⟨_, u1, rfl, ?_⟩
            rcases Nat.eq_zero_or_pos (ln i) with z | z
            · rw [z]; exact .fz0 _ _ _ _ _ _ (by simp)
            · have key : ∃ r off ty2 us2, a = some ⟨r, off, none⟩ ∧ ¬ lent M w σ own r ∧ w.heap[r]? = some (.cells us2 ty2 (0, 0)) ∧ ∀ j t, j < ln i → t < s → ∃ x, us2[off + (j * s + t)]? = some x ∧ x.oneCell' = true ∧ Den M w Sg.none (f' i j t) x := by
                cases hop : look op i with
                | none =>
                  obtain ⟨r, off, ty2, us2, p1, p2, p3, p4, p5⟩ := u5 hop (by omega)
                  rw [(hf i).1 hop]
                  subst p1
                  exact ⟨r, off, ty2, us2, rfl, fun hM => hM.2 ⟨k, _, hmem, .inr ⟨b, base, κ, us, ty, i, s1, s5, by omega, hop, off, _, c', u1, by omega⟩⟩, p3, p5⟩
                | some q =>
                  obtain ⟨m, hlq, hlm⟩ := (hf i).2 q hop
                  have hd := u4 q hop
                  obtain ⟨bq, baseq, κq, q1, q2, q3⟩ := ho.blk q _ (look_mem hlq)
                  cases hd with
                  | vec _ _ _ _ _ bo2 base2 κ2 c2 a2 k2 kc kl ka =>
                    rw [q1] at k2
                    simp only [Option.some.injEq, Prod.mk.injEq] at k2
                    obtain ⟨rfl, rfl, rfl⟩ := k2
                    obtain ⟨b2, rfl, rfl⟩ := ka (by omega)
                    rcases q3 with ⟨z', _⟩ | ⟨b', ty2, us2, e1, e2, e3, e4, e5⟩
                    · omega
                    · cases e1
                      exact ⟨b2, _, ty2, us2, rfl, fun hM => hM.2 ⟨q, _, look_mem hlq, .inl (by simp [blkOf, q1])⟩, e3, fun j t hj ht => by simpa using e5 j t (by omega) ht⟩
              obtain ⟨r, off, ty2, us2, p1, p2, p3, p5⟩ := key
              subst p1
              let U : Nat → Nat → Value := fun j t => if h : j < ln i ∧ t < s then Classical.choose (p5 j t h.1 h.2) else undef
              have hU : ∀ j t (hj : j < ln i) (ht : t < s), us2[off + (j * s + t)]? = some (U j t) ∧ (U j t).oneCell' = true ∧ Den M w Sg.none (f' i j t) (U j t) := fun j t hj ht => by
                simp only [U, hj, ht, and_self, dite_true]
                exact Classical.choose_spec (p5 j t hj ht)
              refine .fz _ _ _ _ _ _ _ _ U u3 (by simp) p2 (lt_of_getElem? p3) ?_ (fun j t hj ht => (hU j t hj ht).2.1) ?_
              · intro j t hj ht
                simp [World.cell?, p3, (hU j t hj ht).1]
              · intro j t hj ht
                exact (hU j t hj ht).2.2.mono (lent_ext M w σ own) (Sg.le_refl _)
          let U : Nat → Value := fun i => if h : i < len then Classical.choose (hx i h) else undef
          have hU : ∀ i (hi : i < len), us[base + i]? = some (U i) ∧ (U i).oneCell' = true ∧ Den (lent M w σ own) w Sg.none (.fz (ln i) s false (f' i)) (U i) := fun i hi => by
            simp only [U, hi, dite_true]
            exact Classical.choose_spec (hx i hi)
          refine .fz _ _ _ _ _ _ _ _ (fun i _ => U i) hl (by simp) (fun hM => hM.2 ⟨k, _, hmem, .inl (by simp [blkOf, s1])⟩) (lt_of_getElem? s5) ?_ (fun i j hi hj => (hU i hi).2.1) (fun i j hi hj => (hU i hi).2.2)
          intro i j hi hj
          obtain rfl : j = 0 := by omega
          rw [show base + 0 * 1 + (i * 1 + 0) = base + i by omega]
          simp [World.cell?, s5, (hU i hi).1]
    · exact bor0_sound h
  · rename_i k s len _
    split at h
    · rename_i cs hlook
      split at h
      · rename_i hlen hcb
        have hlen := Nat.eq_of_beq_eq_true hlen
        obtain ⟨cs', hK, hl, hr⟩ := borL0_sound h
        refine ⟨_, hK, fun M w σ u ho hd => ?_⟩
        have hmem := look_mem hlook
        obtain ⟨b, κ, ty, us, s1, s2, s3, s4, s5⟩ := ho.blk k _ hmem
        cases hd with
        | vec _ _ _ _ _ bo base κ' c a hk hc hlc ha =>
          rw [s1] at hk
          simp only [Option.some.injEq, Prod.mk.injEq] at hk
          obtain ⟨q1, q2, q3⟩ := hk
          subst q1 q2 q3
          rcases Nat.eq_zero_or_pos len with h0 | h0
          · subst h0
            exact .fz0 _ _ _ _ _ _ (by simp)
          · obtain ⟨b', hb', ha'⟩ := ha (by omega)
            cases hb'
            subst ha'
            have hin : ∀ i j, i < len → j < s → i * s + j < cs.length := fun i j hi hj => by
              have : i * s + s ≤ len * s := by rw [← Nat.succ_mul]; exact Nat.mul_le_mul_right _ hi
              omega
            have hU : ∀ i, i < cs.length → ∃ x v, us[i]? = some x ∧ cs[i]? = some v ∧ x.oneCell' = true ∧ Den M w σ v x := fun i hi => by
              have h1 : i < us.size := by omega
              have hdd := s5 i cs[i] us[i] (by simp [hi]) (by simp [h1])
              exact ⟨us[i], cs[i], by simp [h1], by simp [hi], hdd.oneCell (allB_mem hcb _ (List.getElem_mem hi)), hdd⟩
            refine .fz _ _ _ _ _ _ _ _ (fun i j => us.getD (i * s + j) undef) hlc (by simp) (fun hM => hM.2 ⟨k, _, hmem, .inl (by simp [blkOf, s1])⟩) (lt_of_getElem? s3) ?_ ?_ ?_
            · intro i j hi hj
              obtain ⟨x, v, a1, _⟩ := hU _ (hin i j hi hj)
              simp [World.cell?, s3, Array.getD_eq_getD_getElem?, a1]
            · intro i j hi hj
              obtain ⟨x, v, a1, _, a3, _⟩ := hU _ (hin i j hi hj)
              simpa [Array.getD_eq_getD_getElem?, a1] using a3
            · intro i j hi hj
              obtain ⟨x, v, a1, a2, _, a4⟩ := hU _ (hin i j hi hj)
              have h2 : i * s + j < cs'.length := by rw [hl]; exact hin i j hi hj
              have := hr M w σ ho _ v cs'[i * s + j] x a2 (by simp [h2]) a4
              have e1 : tab (chunk s len cs') i j = cs'[i * s + j] := tab_chunk hi hj h2
              rw [e1]
              simpa [Array.getD_eq_getD_getElem?, a1] using this
      · exact h.elim
    · exact bor0_sound h
  · exact bor0_sound h

theorem borL_sound {own : Own} : ∀ {vs : List V} {K : List V → Prop}, borL own vs K → ∃ vs', K vs' ∧ vs'.length = vs.length ∧ ∀ M w σ, OwnSim M w σ own → ∀ (i : Nat) (v v' : V) (u : Value), vs[i]? = some v → vs'[i]? = some v' → Den M w σ v u → Den (lent M w σ own) w Sg.none v' u
  | [], K, h => ⟨[], h, rfl, fun _ _ _ _ => by simp⟩
  | v :: r, K, h => by
    obtain ⟨v', h, hv⟩ := bor1_sound h
    obtain ⟨r', hK, hl, hr⟩ := borL_sound h
    refine ⟨_, hK, by simp [hl], fun M w σ ho i x x' u hx hx' hd => ?_⟩
    cases i with
    | zero => simp at hx hx'; subst hx hx'; exact hv M w σ u ho hd
    | succ i => exact hr M w σ ho i x x' u (by simpa using hx) (by simpa using hx') hd

theorem bor_sound {own : Own} {v : V} {K : V → Prop} (h : bor own v K) : ∃ v', K v' ∧ ∀ M w σ u, OwnSim M w σ own → Den M w σ v u → Den (lent M w σ own) w Sg.none v' u := by
  unfold bor at h
  split at h
  · rename_i cs
    obtain ⟨cs', hK, hl, hr⟩ := borL_sound h
    refine ⟨_, hK, fun M w σ u ho hd => ?_⟩
    obtain ⟨us, rfl, l1, l2⟩ := hd.agg_inv
    refine .agg _ _ _ (by omega) fun i v' u' hv' hu' => ?_
    have hi : i < cs.length := by rw [← hl]; exact (List.getElem?_eq_some_iff.1 hv').1
    exact hr M w σ ho i cs[i] v' u' (by simp [hi]) hv' (l2 i cs[i] u' (by simp [hi]) hu')
  · rename_i k
    split at h
    · rename_i cs hlook
      split at h
      · rename_i hcb
        obtain ⟨cs', hK, hl, hr⟩ := borL_sound h
        refine ⟨_, hK, fun M w σ u ho hd => ?_⟩
        have hmem := look_mem hlook
        obtain ⟨b, κ, ty, us, s1, s2, s3, s4, s5⟩ := ho.blk k _ hmem
        cases hd with
        | loc _ _ _ b' base κ' hk =>
          rw [s1] at hk
          simp only [Option.some.injEq, Prod.mk.injEq] at hk
          obtain ⟨q1, q2, q3⟩ := hk
          subst q1 q2 q3
          have hU : ∀ i, i < cs.length → ∃ x v, us[i]? = some x ∧ cs[i]? = some v ∧ x.oneCell' = true ∧ Den M w σ v x := fun i hi => by
            have h1 : i < us.size := by omega
            have hdd := s5 i cs[i] us[i] (by simp [hi]) (by simp [h1])
            exact ⟨us[i], cs[i], by simp [h1], by simp [hi], hdd.oneCell (allB_mem hcb _ (List.getElem_mem hi)), hdd⟩
          have hfe : Den (lent M w σ own) w Sg.none (.fe 1 cs.length (tab [cs']) 0 0) (.pointer (some ⟨b, 0 + (0 * cs.length + 0), none⟩)) := by
            refine .fe _ _ _ _ _ _ _ _ (fun _ j => us.getD j undef) (by omega) (fun hM => hM.2 ⟨k, _, hmem, .inl (by simp [blkOf, s1])⟩) (lt_of_getElem? s3) ?_ ?_ ?_
            · intro i j hi hj
              obtain ⟨x, v, a1, _⟩ := hU j hj
              have hi0 : i = 0 := by omega
              subst hi0
              simp [World.cell?, s3, Array.getD_eq_getD_getElem?, a1]
            · intro i j hi hj
              obtain ⟨x, v, a1, _, a3, _⟩ := hU j hj
              simpa [Array.getD_eq_getD_getElem?, a1] using a3
            · intro i j hi hj
              obtain ⟨x, v, a1, a2, _, a4⟩ := hU j hj
              have h2 : j < cs'.length := by rw [hl]; exact hj
              have := hr M w σ ho j v cs'[j] x a2 (by simp [h2]) a4
              have hi0 : i = 0 := by omega
              subst hi0
              have e1 : tab [cs'] 0 j = cs'[j] := by simp [tab, h2]
              rw [e1]
              simpa [Array.getD_eq_getD_getElem?, a1] using this
          simpa using hfe
      · exact h.elim
    · exact h.elim
  · exact bor1_sound h

theorem bors_sound {own : Own} : ∀ {vs : List V} {K : List V → Prop}, bors own vs K → ∃ vs', K vs' ∧ vs'.length = vs.length ∧ ∀ M w σ, OwnSim M w σ own → ∀ (i : Nat) (v v' : V) (u : Value), vs[i]? = some v → vs'[i]? = some v' → Den M w σ v u → Den (lent M w σ own) w Sg.none v' u
  | [], K, h => ⟨[], h, rfl, fun _ _ _ _ => by simp⟩
  | v :: r, K, h => by
    obtain ⟨v', h, hv⟩ := bor_sound h
    obtain ⟨r', hK, hl, hr⟩ := bors_sound h
    refine ⟨_, hK, by simp [hl], fun M w σ ho i x x' u hx hx' hd => ?_⟩
    cases i with
    | zero => simp at hx hx'; subst hx hx'; exact hv M w σ u ho hd
    | succ i => exact hr M w σ ho i x x' u (by simpa using hx) (by simpa using hx') hd

/-- without these keys -/
def dropK (ks : List Nat) : Own → Own
  | [] => []
  | (k, b) :: r => match memN k ks with | true => dropK ks r | false => (k, b) :: dropK ks r
def keepK (ks : List Nat) : Own → Own
  | [] => []
  | (k, b) :: r => match memN k ks with | true => (k, b) :: keepK ks r | false => keepK ks r

theorem dropK_mem {ks : List Nat} : ∀ {own : Own} {k : Nat} {b : Blk}, (k, b) ∈ dropK ks own ↔ (k, b) ∈ own ∧ k ∉ ks
  | [], k, b => by simp [dropK]
  | (q, c) :: r, k, b => by
    unfold dropK
    split
    · rename_i h
      have := memN_iff.1 h
      rw [dropK_mem]
      simp only [List.mem_cons, Prod.mk.injEq]
      constructor
      · rintro ⟨a, b⟩; exact ⟨.inr a, b⟩
      · rintro ⟨⟨rfl, _⟩ | a, b⟩
        · exact (b this).elim
        · exact ⟨a, b⟩
    · rename_i h
      have : q ∉ ks := fun e => by rw [memN_iff.2 e] at h; cases h
      simp only [List.mem_cons, Prod.mk.injEq, dropK_mem]
      constructor
      · rintro (⟨rfl, rfl⟩ | ⟨a, b⟩)
        · exact ⟨.inl ⟨rfl, rfl⟩, this⟩
        · exact ⟨.inr a, b⟩
      · rintro ⟨⟨rfl, rfl⟩ | a, b⟩
        · exact .inl ⟨rfl, rfl⟩
        · exact .inr ⟨a, b⟩
theorem keepK_mem {ks : List Nat} : ∀ {own : Own} {k : Nat} {b : Blk}, (k, b) ∈ keepK ks own ↔ (k, b) ∈ own ∧ k ∈ ks
  | [], k, b => by simp [keepK]
  | (q, c) :: r, k, b => by
    unfold keepK
    split
    · rename_i h
      have := memN_iff.1 h
      simp only [List.mem_cons, Prod.mk.injEq, keepK_mem]
      constructor
      · rintro (⟨rfl, rfl⟩ | ⟨a, b⟩)
        · exact ⟨.inl ⟨rfl, rfl⟩, this⟩
        · exact ⟨.inr a, b⟩
      · rintro ⟨⟨rfl, rfl⟩ | a, b⟩
        · exact .inl ⟨rfl, rfl⟩
        · exact .inr ⟨a, b⟩
    · rename_i h
      have : q ∉ ks := fun e => by rw [memN_iff.2 e] at h; cases h
      rw [keepK_mem]
      simp only [List.mem_cons, Prod.mk.injEq]
      constructor
      · rintro ⟨a, b⟩; exact ⟨.inr a, b⟩
      · rintro ⟨⟨rfl, _⟩ | a, b⟩
        · exact (this b).elim
        · exact ⟨a, b⟩
theorem dropK_nodup {ks : List Nat} : ∀ {own : Own}, (own.map (·.1)).Nodup → ((dropK ks own).map (·.1)).Nodup
  | [], h => by simp [dropK]
  | (q, c) :: r, h => by
    simp only [List.map_cons, List.nodup_cons] at h
    unfold dropK
    split
    · exact dropK_nodup h.2
    · simp only [List.map_cons, List.nodup_cons]
      refine ⟨fun hm => ?_, dropK_nodup h.2⟩
      obtain ⟨⟨k, b⟩, h1, h2⟩ := List.mem_map.1 hm
      simp only at h2
      subst h2
      exact h.1 (List.mem_map.2 ⟨_, (dropK_mem.1 h1).1, rfl⟩)

theorem keep_sim {M : Nat → Prop} {w : World} {σ : Sg} {own : Own} {ks : List Nat} (hh : HSim M w σ own ks) (keys : List Nat) : OwnSim M w σ (keepK keys own) := by
  refine ⟨fun k b hm => hh.own.blk k b (keepK_mem.1 hm).1, ?_, fun k b k' b' n h1 h2 => hh.own.apart k b k' b' n (keepK_mem.1 h1).1 (keepK_mem.1 h2).1⟩
  have : ∀ (m : Own), (m.map (·.1)).Nodup → ((keepK keys m).map (·.1)).Nodup := by
    intro m
    induction m with
    | nil => intro _; simp [keepK]
    | cons p m ih =>
      intro hn
      obtain ⟨q, c⟩ := p
      simp only [List.map_cons, List.nodup_cons] at hn
      unfold keepK
      split
      · simp only [List.map_cons, List.nodup_cons]
        refine ⟨fun hm => ?_, ih hn.2⟩
        obtain ⟨⟨k, b⟩, h1, h2⟩ := List.mem_map.1 hm
        simp only at h2
        subst h2
        exact hn.1 (List.mem_map.2 ⟨_, (keepK_mem.1 h1).1, rfl⟩)
      · exact ih hn.2
  exact this own hh.own.nodup

/-- these blocks are written no more -/
theorem freeze_sim {M : Nat → Prop} {w : World} {σ : Sg} {own : Own} {ks : List Nat} (hh : HSim M w σ own ks) (keys : List Nat) :
    HSim (lent M w σ (keepK keys own)) w σ (dropK keys own) ks ∧ ∀ b, ¬ owned w σ own b → (lent M w σ (keepK keys own) b ↔ M b) := by
  have hE := lent_ext M w σ (keepK keys own)
  refine ⟨⟨⟨fun k b hm => ?_, dropK_nodup hh.own.nodup, fun k b k' b' n h1 h2 => hh.own.apart k b k' b' n (dropK_mem.1 h1).1 (dropK_mem.1 h2).1⟩, hh.fresh, hh.knodup⟩, fun b hb => ⟨fun h => h.1, fun h => ⟨h, ?_⟩⟩⟩
  · obtain ⟨hm1, hm2⟩ := dropK_mem.1 hm
    refine (hh.own.blk k b hm1).mono hE (Sg.le_refl _) fun n hn => ⟨⟨(owned_M hh.own ⟨k, b, hm1, hn⟩).1, ?_⟩, rfl⟩
    rintro ⟨k', b', h1, h2⟩
    obtain ⟨h3, h4⟩ := keepK_mem.1 h1
    have hne : k ≠ k' := fun e => hm2 (e ▸ h4)
    exact hh.own.apart k b k' b' n hm1 h3 hne hn h2
  · rintro ⟨k', b', h1, h2⟩
    exact hb ⟨k', b', (keepK_mem.1 h1).1, h2⟩

/-! ## frozen by being put away -/

def V.key1 : V → List Nat
  | .vec k _ _ _ => [k]
  | _ => []
def keysL : List V → List Nat
  | [] => []
  | v :: r => v.key1 ++ keysL r
def frzKeys (own : Own) (v : V) : List Nat :=
  match v with
  | .vec k _ _ _ => match look own k with
    | some (.cells cs) => k :: keysL cs
    | _ => [k]
  | .agg cs => keysL cs
  | _ => []
def frzV (own : Own) (v : V) (K : V → Own → Prop) : Prop := bor (keepK (frzKeys own v) own) v fun v' => K v' (dropK (frzKeys own v) own)

theorem frzV_sound {own : Own} {v : V} {K : V → Own → Prop} (h : frzV own v K) : ∃ v' own', K v' own' ∧ (∀ k, k ∈ own'.map (·.1) → k ∈ own.map (·.1)) ∧
    ∀ M w σ ks u, HSim M w σ own ks → Den M w σ v u → ∃ M', HSim M' w σ own' ks ∧ Tr M w σ own M' w σ own' ∧ Den M' w σ v' u ∧ Ext M w M' w := by
  obtain ⟨v', hK, hb⟩ := bor_sound h
  refine ⟨v', _, hK, fun k hk => ?_, fun M w σ ks u hh hd => ?_⟩
  · obtain ⟨⟨q, c⟩, h1, h2⟩ := List.mem_map.1 hk
    exact List.mem_map.2 ⟨_, (dropK_mem.1 h1).1, h2⟩
  · obtain ⟨f1, f2⟩ := freeze_sim hh (frzKeys own v)
    refine ⟨_, f1, ⟨⟨rfl, rfl, rfl, Nat.le_refl _, fun _ _ _ => rfl, fun b _ hn => f2 b hn⟩, fun b ⟨k, c, h1, h2⟩ => .inl ⟨k, c, (dropK_mem.1 h1).1, h2⟩, Sg.le_refl _⟩, ?_, lent_ext _ _ _ _⟩
    exact (hb M w σ u (keep_sim hh _) hd).mono ⟨fun _ _ h => ⟨h, rfl⟩, Nat.le_refl _⟩ (Sg.none_le σ)

/-- append of what holds names: it is frozen -/
def vappF (own : Own) (ks : List Nat) (s bytes : Nat) (x y : V) (K : V → Own → List Nat → Prop) : Prop :=
  match y with
  | .vec k s' lo len => match look own k with
    | some (.cells _) => frzV own (.vec k s' lo len) fun y' own' => vapp own' ks s bytes x y' K
    | _ => vapp own ks s bytes x (.vec k s' lo len) K
  | y => vapp own ks s bytes x y K
theorem vappF_sound {own : Own} {ks : List Nat} {s bytes : Nat} {x y : V} {K : V → Own → List Nat → Prop} (h : vappF own ks s bytes x y K) :
    ∃ y' own', vapp own' ks s bytes x y' K ∧ (∀ k, k ∈ own'.map (·.1) → k ∈ own.map (·.1)) ∧ ∀ M w σ u, HSim M w σ own ks → Den M w σ y u → ∃ M', HSim M' w σ own' ks ∧ Tr M w σ own M' w σ own' ∧ Den M' w σ y' u ∧ Ext M w M' w := by
  have triv : ∀ {z : V}, vapp own ks s bytes x z K → ∃ y' own', vapp own' ks s bytes x y' K ∧ (∀ k, k ∈ own'.map (·.1) → k ∈ own.map (·.1)) ∧ ∀ M w σ u, HSim M w σ own ks → Den M w σ z u → ∃ M', HSim M' w σ own' ks ∧ Tr M w σ own M' w σ own' ∧ Den M' w σ y' u ∧ Ext M w M' w :=
    fun {z} h => ⟨z, own, h, fun _ h => h, fun M w σ u hh hd => ⟨M, hh, Tr.refl _ _ _ _, hd, ⟨fun _ _ h => ⟨h, rfl⟩, Nat.le_refl _⟩⟩⟩
  unfold vappF at h
  split at h
  · split at h
    · obtain ⟨y', own', a, b, c⟩ := frzV_sound h
      exact ⟨y', own', a, b, fun M w σ u => c M w σ ks u⟩
    · exact triv h
  · exact triv h

def V.keyed : V → Bool
  | .vec _ _ _ _ => true
  | .agg cs => match keysL cs with | [] => false | _ :: _ => true
  | _ => false
/-- a store into a row of frozen elements -/
def vstoreF (own : Own) (sz : Nat) (p v : V) (K : Own → Prop) : Prop :=
  match p with
  | .oel k s i j => match look own k with
    | some (.vec _ _ _) => match v.keyed with
      | true => frzV own v fun v' own' => vstore own' sz (.oel k s i j) v' K
      | false => vstore own sz (.oel k s i j) v K
    | _ => vstore own sz (.oel k s i j) v K
  | p => vstore own sz p v K
theorem vstoreF_sound {own : Own} {sz : Nat} {p v : V} {K : Own → Prop} (h : vstoreF own sz p v K) :
    ∃ v' own', vstore own' sz p v' K ∧ (∀ k, k ∈ own'.map (·.1) → k ∈ own.map (·.1)) ∧ ∀ M w σ ks u, HSim M w σ own ks → Den M w σ v u → ∃ M', HSim M' w σ own' ks ∧ Tr M w σ own M' w σ own' ∧ Den M' w σ v' u ∧ Ext M w M' w := by
  have triv : vstore own sz p v K → ∃ v' own', vstore own' sz p v' K ∧ (∀ k, k ∈ own'.map (·.1) → k ∈ own.map (·.1)) ∧ ∀ M w σ ks u, HSim M w σ own ks → Den M w σ v u → ∃ M', HSim M' w σ own' ks ∧ Tr M w σ own M' w σ own' ∧ Den M' w σ v' u ∧ Ext M w M' w :=
    fun h => ⟨v, own, h, fun _ h => h, fun M w σ ks u hh hd => ⟨M, hh, Tr.refl _ _ _ _, hd, ⟨fun _ _ h => ⟨h, rfl⟩, Nat.le_refl _⟩⟩⟩
  unfold vstoreF at h
  split at h
  · split at h
    · split at h
      · exact frzV_sound h
      · exact triv h
    · exact triv h
  · exact triv h

end Go.Eng
