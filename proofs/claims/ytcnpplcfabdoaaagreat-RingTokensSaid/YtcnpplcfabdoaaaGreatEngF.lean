/-
  The engine, part F: append, slices by literals.
-/
import Derived.Test.YtcnpplcfabdoaaaGreatEngE
namespace Go.Eng

/-! ## append's runs -/

section
variable {P : Program} {w : World} {ats : Array TypeId} {t t2 e e2 ty : TypeId} {s : Nat}

theorem run_append_room_any (h0 : ats[0]? = some t) (h1 : ats[1]? = some t2) (ht : P.underlying t = some (.slice e)) (ht2 : P.underlying t2 = some (.slice e2)) (hs : szOf P e = some s)
    (a : Option Addr) (len c m : Nat) (y : Value) (us : List Value) (hlen : (Builtin.lenOf y).run P w = .ok m w) (hf : (Builtin.firstCells s m y).run P w = .ok us.toArray w) (hroom : len + m ≤ c)
    (w' : World) (hst : (match a with | some ad => storeCells (ad.add (len * s)) us | none => pure () : Sem Unit).run P w = .ok () w') :
    (Builtin.append_ ats ty #[.slice a len c, y]).run P w = .ok (.slice a (len + m) c) w' := by
  cases a with
  | none =>
    cases hst
    simp [Builtin.append_, h0, h1, Sem.run_bind, run_underlying ht, run_underlying ht2, run_szOf hs, hlen, hroom, hf]
  | some ad =>
    simp only at hst
    simp [Builtin.append_, h0, h1, Sem.run_bind, run_underlying ht, run_underlying ht2, run_szOf hs, hlen, hroom, hf, hst]

theorem run_append_grow_any {i : TypeInfo} {z : Value} (h0 : ats[0]? = some t) (h1 : ats[1]? = some t2) (ht : P.underlying t = some (.slice e)) (ht2 : P.underlying t2 = some (.slice e2))
    (hi : P.info? e = some i) (hz : i.zero = some z) (hs : i.size = s)
    (a : Option Addr) (len c m : Nat) (y : Value) (us olds : List Value) (hlen : (Builtin.lenOf y).run P w = .ok m w) (hf : (Builtin.firstCells s m y).run P w.drew = .ok us.toArray w.drew)
    (hfo : (Builtin.firstCells s len (.slice a len c)).run P w.drew = .ok olds.toArray w.drew)
    (hg : c < len + m) (hb : (len + m) * i.bytes ≤ 140737488355328) (h63 : len + m ≤ 9223372036854775807) :
    (Builtin.append_ ats ty #[.slice a len c, y]).run P w =
      .ok (.slice (some ⟨w.heap.size, 0, none⟩) (len + m) (grownCap w (len + m) c e)) (w.drew.alloc (.cells (olds.toArray ++ us.toArray ++ Builtin.zeroCells z.cells (grownCap w (len + m) c e - (len + m))) e)) := by
  subst hs
  have hfit := growslice_fits (old := c) hg hb
  have hn : ¬ (len + m ≤ c) := by omega
  have h63' : ¬ (9223372036854775807 < ((len : Int) + (m : Int))) := by omega
  have h48' : ¬ (281474976710656 < Builtin.nextslicecap (len + m) c * i.bytes) := by omega
  simp [Builtin.append_, h0, h1, Sem.run_bind, run_underlying ht, run_underlying ht2, sizeOf, typeInfo, zeroValue, hi, hz, hlen, hn, h63', h48', Question.forced, hf, hfo, newRow, grownCap]
  congr 2
  apply Array.ext'
  simp [List.append_assoc]
end


/-! ## what a slice reads as -/

def vsrc (own : Own) (s : Nat) (y : V) (K : Nat → (Nat → Nat → V) → Prop) : Prop :=
  match y with
  | .nilslice => K 0 (fun _ _ => .nilptr)
  | .fz m s' _ f => match Nat.beq s s' with | true => K m f | false => False
  | .vec k s' lo len => match look own k with
    | some (.vec n s'' f) => match Nat.beq s s', Nat.beq s s'' with
      | true, true => Len (lo + len) n (K len (shiftF lo f))
      | _, _ => False
    | _ => False
  | _ => False

/-- a slice value whose elements are f -/
structure Src (M : Nat → Prop) (w : World) (s m : Nat) (f : Nat → Nat → V) (u : Value) : Prop where
  out : ∃ a c us, u = .slice a m c ∧ us.length = m * s ∧ (us ≠ [] → ∃ ad, a = some ad ∧ ∀ (j : Nat) (x : Value), us[j]? = some x → w.cell? (ad.add j) = some x) ∧
    (∀ i j, i < m → j < s → ∃ x, us[i * s + j]? = some x ∧ Den M w Sg.none (f i j) x) ∧ (∀ x ∈ us, x.oneCell' = true)

theorem src_of_cells {M : Nat → Prop} {w : World} {s m c : Nat} {f : Nat → Nat → V} {b off : Nat}
    (h : ∀ i j, i < m → j < s → ∃ x, w.cell? ⟨b, off + (i * s + j), none⟩ = some x ∧ x.oneCell' = true ∧ Den M w Sg.none (f i j) x) : Src M w s m f (.slice (some ⟨b, off, none⟩) m c) := by
  have h' : ∀ q, q < m * s → ∃ x, w.cell? ⟨b, off + q, none⟩ = some x ∧ x.oneCell' = true ∧ Den M w Sg.none (f (q / s) (q % s)) x := fun q hq => by
    have hs : 0 < s := by
      rcases Nat.eq_zero_or_pos s with e | e
      · subst e; simp at hq
      · exact e
    have := h (q / s) (q % s) ((Nat.div_lt_iff_lt_mul hs).2 hq) (Nat.mod_lt _ hs)
    rwa [show q / s * s + q % s = q by rw [Nat.mul_comm]; exact Nat.div_add_mod q s] at this
  let F : Nat → Value := fun q => if hq : q < m * s then Classical.choose (h' q hq) else undef
  have hF : ∀ q, q < m * s → w.cell? ⟨b, off + q, none⟩ = some (F q) ∧ (F q).oneCell' = true ∧ Den M w Sg.none (f (q / s) (q % s)) (F q) := fun q hq => by
    simp only [F, hq, dite_true]
    exact Classical.choose_spec (h' q hq)
  refine ⟨_, c, (List.range (m * s)).map F, rfl, by simp, fun _ => ⟨_, rfl, ?_⟩, ?_, ?_⟩
  · intro j x hx
    rw [List.getElem?_map] at hx
    have hj : j < m * s := by
      rcases Nat.lt_or_ge j (m * s) with h | h
      · exact h
      · simp [List.getElem?_eq_none (l := List.range (m * s)) (by simpa using h)] at hx
    simp [List.getElem?_range hj] at hx
    subst hx
    rw [addr_add]
    exact (hF j hj).1
  · intro i j hi hj
    have hq : i * s + j < m * s := by
      have : i * s + s ≤ m * s := by rw [← Nat.succ_mul]; exact Nat.mul_le_mul_right _ hi
      omega
    refine ⟨F (i * s + j), by simp [List.getElem?_range hq], ?_⟩
    have := (hF _ hq).2.2
    rwa [Nat.mul_comm i s, Nat.mul_add_div (by omega), Nat.div_eq_of_lt hj, Nat.add_zero, Nat.mul_add_mod, Nat.mod_eq_of_lt hj, Nat.mul_comm s i] at this
  · intro x hx
    obtain ⟨q, hq, rfl⟩ := List.mem_map.1 hx
    exact (hF q (by simpa using hq)).2.1

theorem vsrc_sound {own : Own} {s : Nat} {y : V} {K : Nat → (Nat → Nat → V) → Prop} (h : vsrc own s y K) :
    ∃ m f, K m f ∧ ∀ M w σ u, Den M w σ y u → OwnSim M w σ own → Src M w s m f u := by
  unfold vsrc at h
  split at h
  · refine ⟨_, _, h, fun M w σ u hd _ => ?_⟩
    cases hd
    exact ⟨none, 0, [], rfl, by simp, by simp, fun i j hi => by omega, by simp⟩
  · rename_i m s' full f
    split at h
    · rename_i hb
      have e := Nat.eq_of_beq_eq_true hb
      subst e
      refine ⟨_, _, h, fun M w σ u hd _ => ?_⟩
      cases hd with
      | fz0 _ _ _ _ a c hf => exact ⟨a, c, [], rfl, by simp, by simp, fun i j hi => by omega, by simp⟩
      | fz _ _ _ _ _ b off c u hc hf hM hb hcell h1 hd => exact src_of_cells fun i j hi hj => ⟨u i j, hcell i j hi hj, h1 i j hi hj, hd i j hi hj⟩
    · exact h.elim
  · rename_i k s' lo len
    split at h
    · rename_i n s'' f hlook
      split at h
      · rename_i e1 e2
        have e1 := Nat.eq_of_beq_eq_true e1
        have e2 := Nat.eq_of_beq_eq_true e2
        subst e1 e2
        obtain ⟨hle, hK⟩ := h
        refine ⟨_, _, hK, fun M w σ u hd ho => ?_⟩
        obtain ⟨bo, base, κ, s1, s2, s3⟩ := ho.blk k _ (look_mem hlook)
        cases hd with
        | vec _ _ _ _ _ bo' base' κ' c a hk hc hl ha =>
          rw [s1] at hk
          simp only [Option.some.injEq, Prod.mk.injEq] at hk
          obtain ⟨q1, q2, q3⟩ := hk
          subst q1 q2 q3
          rcases Nat.eq_zero_or_pos c with hc0 | hc0
          · have : len = 0 := by omega
            subst this
            exact ⟨a, c, [], rfl, by simp, by simp, fun i j hi => by omega, by simp⟩
          · obtain ⟨b, hb, ha'⟩ := ha hc0
            clear ha
            subst hb ha'
            rcases s3 with ⟨_, s3⟩ | ⟨b', ty, us, s3, s4, s5, s6, s7⟩
            · cases s3
            · cases s3
              refine src_of_cells fun i j hi hj => ?_
              obtain ⟨x, x1, x0, x2⟩ := s7 (lo + i) j (by omega) hj
              refine ⟨x, ?_, x0, by rw [shiftF_eq]; exact x2⟩
              rw [show base + lo * s + (i * s + j) = base + ((lo + i) * s + j) by rw [Nat.add_mul]; omega]
              simp [World.cell?, s5, x1]
      · exact h.elim
    · exact h.elim
  · exact h.elim

theorem Src.firstCells {P : Program} {M : Nat → Prop} {w w' : World} {s m : Nat} {f : Nat → Nat → V} {u : Value} (h : Src M w s m f u) (hw : w'.heap = w.heap) :
    ∃ us : List Value, us.length = m * s ∧ (Builtin.firstCells s m u).run P w' = .ok us.toArray w' ∧ (Builtin.lenOf u).run P w' = .ok m w' ∧
      (∀ i j, i < m → j < s → ∃ x, us[i * s + j]? = some x ∧ Den M w Sg.none (f i j) x) ∧ (∀ x ∈ us, x.oneCell' = true) := by
  obtain ⟨a, c, us, rfl, h1, h2, h3, h4⟩ := h.out
  refine ⟨us, h1, ?_, rfl, h3, h4⟩
  by_cases hu : us = []
  · subst hu
    cases a with
    | none => rfl
    | some ad =>
      show (loadCells ad (m * s)).run P w' = _
      rw [← h1]; rfl
  · obtain ⟨ad, rfl, hc⟩ := h2 hu
    show (loadCells ad (m * s)).run P w' = _
    rw [← h1]
    refine run_loadCells_list w' ad us (fun j v hv => ?_)
    have := hc j v hv
    simpa [World.cell?, hw] using this

/-! ## dropping, replacing an owned block -/

def delK {α : Type} (t : Nat) : List (Nat × α) → (List (Nat × α) → Prop) → Prop
  | [], K => K []
  | (k, v) :: r, K => match Nat.beq k t with | true => K r | false => delK t r fun r' => K ((k, v) :: r')

theorem delK_sound {α : Type} (t : Nat) : ∀ (l : List (Nat × α)) (K : List (Nat × α) → Prop), delK t l K → (l.map (·.1)).Nodup →
    ∃ r, K r ∧ (r.map (·.1)).Nodup ∧ ∀ k' c, (k', c) ∈ r ↔ (k' ≠ t ∧ (k', c) ∈ l)
  | [], K, h, _ => ⟨[], h, by simp, by simp⟩
  | (k, v) :: l, K, h, hn => by
    simp only [List.map_cons, List.nodup_cons] at hn
    have notin : ∀ c, (k, c) ∉ l := fun c hc => hn.1 (List.mem_map.2 ⟨_, hc, rfl⟩)
    unfold delK at h
    split at h
    · rename_i hb
      have e := Nat.eq_of_beq_eq_true hb
      subst e
      refine ⟨_, h, hn.2, ?_⟩
      intro k' c
      constructor
      · intro hc; exact ⟨fun e => notin c (e ▸ hc), List.mem_cons_of_mem _ hc⟩
      · rintro ⟨hne, hc⟩
        rcases List.mem_cons.1 hc with e | e
        · cases e; exact (hne rfl).elim
        · exact e
    · rename_i hb
      have hne : k ≠ t := fun e => by subst e; simp at hb
      obtain ⟨r, h1, h2, h3⟩ := delK_sound t l _ h hn.2
      refine ⟨_, h1, ?_, ?_⟩
      · simp only [List.map_cons, List.nodup_cons]
        refine ⟨fun hm => ?_, h2⟩
        obtain ⟨⟨k', c⟩, hc, e⟩ := List.mem_map.1 hm
        simp at e; subst e
        exact notin c ((h3 _ _).1 hc).2
      · intro k' c
        simp only [List.mem_cons, Prod.mk.injEq, h3]
        constructor
        · rintro (⟨rfl, rfl⟩ | ⟨a1, a2⟩)
          · exact ⟨hne, .inl ⟨rfl, rfl⟩⟩
          · exact ⟨a1, .inr a2⟩
        · rintro ⟨a1, ⟨rfl, rfl⟩ | a2⟩
          · exact .inl ⟨rfl, rfl⟩
          · exact .inr ⟨a1, a2⟩

theorem hsim_drop {M : Nat → Prop} {w : World} {σ : Sg} {own own' : Own} {ks : List Nat} (h : HSim M w σ own ks) (hsub : ∀ k c, (k, c) ∈ own' → (k, c) ∈ own) (hn : (own'.map (·.1)).Nodup) :
    HSim M w σ own' ks ∧ Tr M w σ own M w σ own' :=
  ⟨⟨⟨fun k b hm => h.own.blk k b (hsub k b hm), hn, fun k b k' b' n h1 h2 => h.own.apart k b k' b' n (hsub _ _ h1) (hsub _ _ h2)⟩, h.fresh, h.knodup⟩,
    ⟨.refl _ _ _, fun _ ⟨k, b, hm, hk⟩ => .inl ⟨k, b, hsub k b hm, hk⟩, Sg.le_refl _⟩⟩

theorem hsim_rekey {M : Nat → Prop} {w w' : World} {σ : Sg} {own own' : Own} {k' : Nat} {ks : List Nat} (h : HSim M w σ own (k' :: ks)) (k g : Nat) (b : Blk) (hm : (k, b) ∈ own) (hg : blkOf σ k = some g)
    (hown : ∀ q c, (q, c) ∈ own' ↔ (q ≠ k ∧ (q, c) ∈ own)) (hnd : (own'.map (·.1)).Nodup) (x : Option Nat × Nat × Nat) (hx : x.1 = some g) (b' : Blk)
    (os : w'.os = w.os) (tape : w'.tape = w.tape) (output : w'.output = w.output) (size : w'.heap.size = w.heap.size)
    (same : ∀ n, n ≠ g → w'.heap[n]? = w.heap[n]?) (hb : Ext M w M w' → BlkSim M w' (σ.set k' x) k' b') (hf : b'.isFam = false := by rfl) :
    HSim M w' (σ.set k' x) ((k', b') :: own') ks ∧ Tr M w σ own M w' (σ.set k' x) ((k', b') :: own') := by
  have hk0 : σ k' = none := h.fresh k' (by simp)
  have hle : σ.le (σ.set k' x) := Sg.le_set x hk0
  have hgM := owned_M h.own ⟨k, b, hm, .inl hg⟩
  have hE : Ext M w M w' := ⟨fun n hn hM => ⟨hM, same n (fun e => hM (e ▸ hgM.1))⟩, by omega⟩
  have hne : ∀ q c, (q, c) ∈ own → q ≠ k' := fun q c hq e => by
    obtain ⟨y, hy⟩ := h.own.key hq
    subst e; rw [hk0] at hy; cases hy
  have keep : ∀ q c n, q ≠ k → (q, c) ∈ own → (holds w' (σ.set k' x) q c n ↔ holds w σ q c n) := fun q c n hqk hq =>
    holds_same hle (h.own.key hq) fun ob hob => same ob fun e => h.own.apart _ _ _ _ _ hq hm hqk (.inl hob) (.inl (e ▸ hg))
  have hnew : ∀ n, holds w' (σ.set k' x) k' b' n → n = g := fun n e => by
    rw [holds_no hf] at e
    simp [blkOf, Sg.set_same, hx] at e
    exact e.symm
  refine ⟨⟨⟨?_, ?_, ?_⟩, ?_, (List.nodup_cons.1 h.knodup).2⟩, ⟨⟨os, tape, output, by omega, ?_, fun _ _ _ => Iff.rfl⟩, ?_, hle⟩⟩
  · intro q c hq
    rcases List.mem_cons.1 hq with e | hq
    · cases e; exact hb hE
    · obtain ⟨n1, n2⟩ := (hown q c).1 hq
      refine (h.own.blk q c n2).mono hE hle ?_
      intro n hn
      refine ⟨(owned_M h.own ⟨q, c, n2, hn⟩).1, same n ?_⟩
      intro e; subst e
      exact h.own.apart _ _ _ _ _ n2 hm n1 hn (.inl hg)
  · simp only [List.map_cons, List.nodup_cons]
    refine ⟨?_, hnd⟩
    intro hmm
    obtain ⟨⟨q, c⟩, hq, e⟩ := List.mem_map.1 hmm
    exact hne q c ((hown q c).1 hq).2 e
  · intro q1 c1 q2 c2 n h1 h2 hne' e1 e2
    rcases List.mem_cons.1 h1 with i1 | i1
    · cases i1
      rcases List.mem_cons.1 h2 with i2 | i2
      · cases i2; exact hne' rfl
      · obtain ⟨n1, n2⟩ := (hown _ _).1 i2
        have := hnew n e1
        subst this
        exact h.own.apart _ _ _ _ _ n2 hm n1 ((keep _ _ _ n1 n2).1 e2) (.inl hg)
    · obtain ⟨n1, n2⟩ := (hown _ _).1 i1
      rcases List.mem_cons.1 h2 with i2 | i2
      · cases i2
        have := hnew n e2
        subst this
        exact h.own.apart _ _ _ _ _ n2 hm n1 ((keep _ _ _ n1 n2).1 e1) (.inl hg)
      · obtain ⟨m1, m2⟩ := (hown _ _).1 i2
        exact h.own.apart _ _ _ _ _ n2 m2 hne' ((keep _ _ _ n1 n2).1 e1) ((keep _ _ _ m1 m2).1 e2)
  · intro q hq
    have : q ≠ k' := fun e => by subst e; exact (List.nodup_cons.1 h.knodup).1 hq
    rw [Sg.set_other _ _ _ this]
    exact h.fresh q (by simp [hq])
  · intro n hn hno
    refine same n ?_
    intro e; subst e
    exact hno ⟨k, b, hm, .inl hg⟩
  · intro n hn
    left
    rcases owned_cons.1 hn with e | ⟨q, c, hq, e⟩
    · have := hnew n e
      subst this
      exact ⟨k, b, hm, .inl hg⟩
    · obtain ⟨n1, n2⟩ := (hown _ _).1 hq
      exact ⟨q, c, n2, (keep _ _ _ n1 n2).1 e⟩


/-! ## a run of elements written into a block that is ours -/

def fput (f : Nat → Nat → V) (p m : Nat) (g : Nat → Nat → V) : Nat → Nat → V := fun i j => if p ≤ i ∧ i < p + m then g (i - p) j else f i j

theorem vec_write {P : Program} {M : Nat → Prop} {w : World} {σ : Sg} {own own' : Own} {ks : List Nat} (hh : HSim M w σ own ks) {k s lo len n : Nat} {f : Nat → Nat → V} {a : Option Addr} {c : Nat} (hlook : look own k = some (.vec n s f))
    (hx : Den M w σ (.vec k s lo len) (.slice a len c)) {at_ m : Nat} {fy : Nat → Nat → V} {us : List Value} (hlen : us.length = m * s) (hroom : lo + at_ + m ≤ n)
    (hd : ∀ i j, i < m → j < s → ∃ x, us[i * s + j]? = some x ∧ Den M w Sg.none (fy i j) x) (h1 : ∀ x ∈ us, x.oneCell' = true)
    (hown : ∀ k' b, (k', b) ∈ own' ↔ (k' = k ∧ b = .vec n s (fput f (lo + at_) m fy)) ∨ (k' ≠ k ∧ (k', b) ∈ own)) (hnd : own'.map (·.1) = own.map (·.1)) :
    at_ + m ≤ c ∧ ∃ w', (match a with | some ad => storeCells (ad.add (at_ * s)) us | none => pure () : Sem Unit).run P w = .ok () w' ∧ HSim M w' σ own' ks ∧ Tr M w σ own M w' σ own' := by
  have hmem := look_mem hlook
  obtain ⟨bo, base, κ, s1, s2, s3⟩ := hh.own.blk k _ hmem
  cases hx with
  | vec _ _ _ _ _ bo' base' κ' c a hk hc hl ha =>
    rw [s1] at hk
    simp only [Option.some.injEq, Prod.mk.injEq] at hk
    obtain ⟨q1, q2, q3⟩ := hk
    subst q1 q2 q3
    refine ⟨by omega, ?_⟩
    rcases Nat.eq_zero_or_pos m with hm0 | hm0
    · subst hm0
      have hu : us = [] := List.eq_nil_of_length_eq_zero (by simpa using hlen)
      subst hu
      have hf : fput f (lo + at_) 0 fy = f := by
        funext i j
        unfold fput
        rw [if_neg (by omega)]
      rw [hf] at hown
      have hsub : ∀ k' b, (k', b) ∈ own' → (k', b) ∈ own := fun k' b hm => by
        rcases (hown k' b).1 hm with ⟨e1, e2⟩ | e
        · rw [e1, e2]; exact hmem
        · exact e.2
      have := hsim_drop hh hsub (by rw [hnd]; exact hh.own.nodup)
      exact ⟨w, by cases a <;> rfl, this.1, this.2⟩
    · obtain ⟨b, hb', ha'⟩ := ha (by omega)
      clear ha
      subst hb' ha'
      rcases s3 with ⟨_, s3⟩ | ⟨b', ty', cur, s3, s4, s5, s6, s7⟩
      · cases s3
      cases s3
      have hroom' : base + lo * s + at_ * s + us.length ≤ cur.size := by
        have : lo * s + at_ * s + m * s ≤ κ * s := by rw [← Nat.add_mul, ← Nat.add_mul]; exact Nat.mul_le_mul_right _ (by omega)
        omega
      have hst := run_storeCells_at P b (base + lo * s + at_ * s) ty' us 0 cur w s5 (by omega) h1
      simp only [Nat.add_zero] at hst
      have hw := hsim_write (w' := w.setRow b (cur.toList.take (base + lo * s + at_ * s) ++ us ++ cur.toList.drop (base + lo * s + at_ * s + us.length)).toArray) hh k b _ (.vec n s (fput f (lo + at_) m fy)) hmem (.inl (by simp [blkOf, s1]))
        hown hnd rfl rfl rfl (by simp) (fun n hn => setRow_other w b n _ hn) (fun hE => by
          refine ⟨_, base, κ, s1, s2, .inr ⟨b, ty', _, rfl, s4, setRow_heap w b cur _ ty' _ s5, ?_, ?_⟩⟩
          · have := splice_length cur.toList us (base + lo * s + at_ * s) (by simp; omega)
            simp only [List.size_toArray, this, Array.length_toList]; exact s6
          · intro i j hi hj
            have g1 := splice_get cur.toList us (base + lo * s + at_ * s) (by simp; omega) (base + (i * s + j))
            rw [List.getElem?_toArray, g1]
            by_cases hc : lo + at_ ≤ i ∧ i < lo + at_ + m
            · have e1 : (lo + at_) * s ≤ i * s := Nat.mul_le_mul_right _ hc.1
              have e2 : i * s + s ≤ (lo + at_) * s + m * s := by rw [← Nat.succ_mul, ← Nat.add_mul]; exact Nat.mul_le_mul_right _ (by omega)
              rw [Nat.add_mul] at e1 e2
              rw [if_neg (by omega), if_pos (by omega)]
              obtain ⟨x, x1, x2⟩ := hd (i - (lo + at_)) j (by omega) hj
              refine ⟨x, ?_, h1 x (List.mem_of_getElem? x1), ?_⟩
              · rw [show base + (i * s + j) - (base + lo * s + at_ * s) = (i - (lo + at_)) * s + j by rw [Nat.sub_mul, Nat.add_mul]; omega]
                exact x1
              · unfold fput
                rw [if_pos hc]
                exact x2.mono hE (Sg.le_refl _)
            · have hfp : fput f (lo + at_) m fy i j = f i j := by unfold fput; rw [if_neg hc]
              rw [hfp]
              obtain ⟨x, x1, x0, x2⟩ := s7 i j hi hj
              refine ⟨x, ?_, x0, x2.mono hE (Sg.le_refl _)⟩
              split
              · simpa using x1
              · rename_i r1
                split
                · rename_i r2
                  exfalso
                  apply hc
                  rcases Nat.lt_or_ge i (lo + at_) with g | g
                  · have : i * s + s ≤ (lo + at_) * s := by rw [← Nat.succ_mul]; exact Nat.mul_le_mul_right _ g
                    rw [Nat.add_mul] at this
                    omega
                  · refine ⟨g, ?_⟩
                    rcases Nat.lt_or_ge i (lo + at_ + m) with g' | g'
                    · exact g'
                    · have : (lo + at_ + m) * s ≤ i * s := Nat.mul_le_mul_right _ g'
                      rw [Nat.add_mul, Nat.add_mul] at this
                      omega
                · simpa using x1)
      refine ⟨_, ?_, hw.1, hw.2⟩
      simp only [addr_add]
      exact hst

/-! ## append to a slice that is ours -/

def fapp (f : Nat → Nat → V) (len : Nat) (g : Nat → Nat → V) : Nat → Nat → V :=
  match len with
  | 0 => g
  | len + 1 => fun i j => if i < len + 1 then f i j else g (i - (len + 1)) j

theorem fapp_lt {f g : Nat → Nat → V} {len i j : Nat} (h : i < len) : fapp f len g i j = f i j := by
  cases len with
  | zero => omega
  | succ len => simp [fapp, h]

theorem fapp_ge {f g : Nat → Nat → V} {len i j : Nat} (h : ¬ i < len) : fapp f len g i j = g (i - len) j := by
  cases len with
  | zero => simp [fapp]
  | succ len => simp [fapp, h]

def vappg (own : Own) (ks : List Nat) (s bytes k lo len n m : Nat) (f fy : Nat → Nat → V) (K : V → Own → List Nat → Prop) : Prop :=
  Len (lo + len) n (Len ((len + m) * bytes) 140737488355328 (Len (len + m) 9223372036854775807
    (fresh ks fun k' ks => delK k own fun own' => K (.vec k' s 0 (len + m)) ((k', .vec (len + m) s (fapp (shiftF lo f) len fy)) :: own') ks)))

def vapp (own : Own) (ks : List Nat) (s bytes : Nat) (x y : V) (K : V → Own → List Nat → Prop) : Prop :=
  vsrc own s y fun m fy =>
    match x with
    | .nilslice => Len (m * bytes) 140737488355328 (Len m 9223372036854775807 (fresh ks fun k' ks => K (.vec k' s 0 m) ((k', .vec m s fy) :: own) ks))
    | .fz 0 _ true _ => Len (m * bytes) 140737488355328 (Len m 9223372036854775807 (fresh ks fun k' ks => K (.vec k' s 0 m) ((k', .vec m s fy) :: own) ks))
    | .vec k s' lo len => match look own k with
      | some (.vec n s'' f) => match Nat.beq s s', Nat.beq s s'' with
        | true, true => Br (Nat.beq (lo + len) n)
            (vappg own ks s bytes k lo len n m f fy K)
            (Br (Nat.ble (lo + len + m) n) (updK k (.vec n s (fput f (lo + len) m fy)) own fun own' => K (.vec k s lo (len + m)) own' ks)
              (vappg own ks s bytes k lo len n m f fy K))
        | _, _ => False
      | _ => False
    | _ => False

theorem fresh_sound {ks : List Nat} {K : Nat → List Nat → Prop} (h : fresh ks K) : ∃ k r, ks = k :: r ∧ K k r := by
  cases ks with
  | nil => exact h.elim
  | cons k r => exact ⟨k, r, rfl, h⟩

theorem zeroOf_info {P : Program} {e : TypeId} {zs : List V} (h : zeroOf P e = some zs) : ∃ i z, P.info? e = some i ∧ i.zero = some z ∧ ofCells z.cells.toList = some zs := by
  unfold zeroOf at h
  split at h
  · rename_i i hi
    split at h
    · rename_i z hz; exact ⟨i, z, hi, hz, h⟩
    · cases h
  · cases h

/-- from nothing: dest without capacity -/
theorem append_empty {P : Program} {ats : Array TypeId} {t t2 e e2 ty : TypeId} {s bytes : Nat} {zs : List V} (h0 : ats[0]? = some t) (h1 : ats[1]? = some t2)
    (ht : P.underlying t = some (.slice e)) (ht2 : P.underlying t2 = some (.slice e2)) (hs : szOf P e = some s) (hb : (P.info? e).map (·.bytes) = some bytes) (hz : zeroOf P e = some zs) (hzl : zs.length = s)
    {M : Nat → Prop} {w : World} {σ : Sg} {own : Own} {k : Nat} {ks : List Nat} (hh : HSim M w σ own (k :: ks)) {m : Nat} {fy : Nat → Nat → V} {uy : Value} (hsrc : Src M w s m fy uy)
    (hm1 : m * bytes ≤ 140737488355328) (hm2 : m ≤ 9223372036854775807) (a : Option Addr) :
    ∃ u w' M' σ', (Builtin.append_ ats ty #[.slice a 0 0, uy]).run P w = .ok u w' ∧ HSim M' w' σ' ((k, .vec m s fy) :: own) ks ∧ Tr M w σ own M' w' σ' ((k, .vec m s fy) :: own) ∧
      Den M' w' σ' (.vec k s 0 m) u ∧ Kd σ own (k :: ks) σ' ((k, .vec m s fy) :: own) ks := by
  obtain ⟨i, z, hi, hzz, hzc⟩ := zeroOf_info hz
  have hzs : z.cells.size = s := by
    have := (den_ofCells (M := M) (w := w) σ hzc).1
    simp at this; omega
  have hisz : i.size = s := by simpa [szOf, hi] using hs
  have hiby : i.bytes = bytes := by simpa [hi] using hb
  rcases Nat.eq_zero_or_pos m with e0 | hpos
  · subst e0
    obtain ⟨us, u1, u2, u3, u4, u5⟩ := hsrc.firstCells (P := P) (w' := w) rfl
    have hu : us = [] := List.eq_nil_of_length_eq_zero (by simpa using u1)
    subst hu
    have hrun := run_append_room_any (P := P) (ty := ty) h0 h1 ht ht2 hs a 0 0 0 uy [] u3 u2 (by omega) w (by cases a <;> rfl)
    obtain ⟨M', σ', n1, n2, n3, n4⟩ := new_none hh s fy a
    exact ⟨_, w, M', σ', hrun, n1, n2, n3, n4⟩
  · obtain ⟨us, u1, u2, u3, u4, u5⟩ := hsrc.firstCells (P := P) (w' := w.drew) rfl
    obtain ⟨us', _, _, u3', _, _⟩ := hsrc.firstCells (P := P) (w' := w) rfl
    have hfo : (Builtin.firstCells s 0 (.slice a 0 0)).run P w.drew = .ok ([] : List Value).toArray w.drew := by
      cases a with
      | none => rfl
      | some ad => show (loadCells ad (0 * s)).run P w.drew = _; rw [Nat.zero_mul]; rfl
    have hrun := run_append_grow_any (P := P) (ty := ty) (w := w) h0 h1 ht ht2 hi hzz hisz a 0 0 m uy us [] u3' u2 hfo (by omega) (by rw [hiby]; simpa using hm1) (by omega)
    simp only [Nat.zero_add] at hrun
    have hge := grownCap_ge w m 0 e
    obtain ⟨M', σ', n1, n2, n3, n4⟩ := new_vec (w' := w.drew.alloc (.cells (([] : List Value).toArray ++ us.toArray ++ Builtin.zeroCells z.cells (grownCap w m 0 e - m)) e)) hh m s (grownCap w m 0 e) fy _ e (.inr rfl) hge
      (by simp only [Array.size_append, List.size_toArray, List.length_nil, size_zeroCells, u1, hzs, Nat.zero_add]; rw [← Nat.add_mul]; exact Nat.mul_le_mul_right _ (by omega))
      (fun i j hi hj => by
        obtain ⟨x, x1, x2⟩ := u4 i j hi hj
        refine ⟨x, ?_, u5 x (List.mem_of_getElem? x1), x2⟩
        have hlt : i * s + j < us.length := (List.getElem?_eq_some_iff.1 x1).1
        rw [Array.getElem?_append_left (by simpa using hlt)]
        simpa using x1)
    exact ⟨_, _, M', σ', hrun, n1, n2, n3 m hge, n4⟩

theorem append_here {P : Program} {ats : Array TypeId} {t t2 e e2 ty : TypeId} {s : Nat} (h0 : ats[0]? = some t) (h1 : ats[1]? = some t2)
    (ht : P.underlying t = some (.slice e)) (ht2 : P.underlying t2 = some (.slice e2)) (hs : szOf P e = some s)
    {M : Nat → Prop} {w : World} {σ : Sg} {own own' : Own} {k : Nat} {ks : List Nat} (hh : HSim M w σ own ks) {m : Nat} {fy : Nat → Nat → V} {uy : Value} (hsrc : Src M w s m fy uy)
    {lo len n : Nat} {f : Nat → Nat → V} {ux : Value} (hlook : look own k = some (.vec n s f)) (hx : Den M w σ (.vec k s lo len) ux) (hle : lo + len + m ≤ n)
    (hown : ∀ k' b, (k', b) ∈ own' ↔ (k' = k ∧ b = .vec n s (fput f (lo + len) m fy)) ∨ (k' ≠ k ∧ (k', b) ∈ own)) (hnd : own'.map (·.1) = own.map (·.1)) :
    ∃ u w', (Builtin.append_ ats ty #[ux, uy]).run P w = .ok u w' ∧ HSim M w' σ own' ks ∧ Tr M w σ own M w' σ own' ∧ Den M w' σ (.vec k s lo (len + m)) u := by
  obtain ⟨us, u1, u2, u3, u4, u5⟩ := hsrc.firstCells (P := P) (w' := w) rfl
  have hx0 := hx
  cases hx with
  | vec _ _ _ _ _ bo base κ c a hk hc hl ha =>
    obtain ⟨hroom, w', hst, hh', tr⟩ := vec_write (P := P) hh hlook hx0 (at_ := len) u1 hle u4 u5 hown hnd
    exact ⟨_, w', run_append_room_any h0 h1 ht ht2 hs a len c m uy us u3 u2 hroom w' hst, hh', tr, .vec _ _ _ _ _ _ _ _ _ _ hk hc hroom ha⟩

theorem append_vec {P : Program} {ats : Array TypeId} {t t2 e e2 ty : TypeId} {s bytes : Nat} {zs : List V} (h0 : ats[0]? = some t) (h1 : ats[1]? = some t2)
    (ht : P.underlying t = some (.slice e)) (ht2 : P.underlying t2 = some (.slice e2)) (hs : szOf P e = some s) (hb : (P.info? e).map (·.bytes) = some bytes) (hz : zeroOf P e = some zs) (hzl : zs.length = s)
    {M : Nat → Prop} {w : World} {σ : Sg} {own own' : Own} {k k' : Nat} {ks : List Nat} (hh : HSim M w σ own (k' :: ks)) {m : Nat} {fy : Nat → Nat → V} {uy : Value} (hsrc : Src M w s m fy uy)
    {lo len n : Nat} {f : Nat → Nat → V} {ux : Value} (hlook : look own k = some (.vec n s f)) (hx : Den M w σ (.vec k s lo len) ux) (hle : lo + len ≤ n)
    (hm1 : (len + m) * bytes ≤ 140737488355328) (hm2 : len + m ≤ 9223372036854775807)
    (hown : ∀ q c, (q, c) ∈ own' ↔ (q ≠ k ∧ (q, c) ∈ own)) (hnd : (own'.map (·.1)).Nodup) :
    ∃ u w' M' σ', (Builtin.append_ ats ty #[ux, uy]).run P w = .ok u w' ∧ HSim M' w' σ' ((k', .vec (len + m) s (fapp (shiftF lo f) len fy)) :: own') ks ∧
      Tr M w σ own M' w' σ' ((k', .vec (len + m) s (fapp (shiftF lo f) len fy)) :: own') ∧ Den M' w' σ' (.vec k' s 0 (len + m)) u ∧ Kd σ own (k' :: ks) σ' ((k', .vec (len + m) s (fapp (shiftF lo f) len fy)) :: own') ks := by
  obtain ⟨i, z, hi, hzz, hzc⟩ := zeroOf_info hz
  have hzs : z.cells.size = s := by
    have := (den_ofCells (M := M) (w := w) σ hzc).1
    simp at this; omega
  have hisz : i.size = s := by simpa [szOf, hi] using hs
  have hiby : i.bytes = bytes := by simpa [hi] using hb
  have hmem := look_mem hlook
  have hkeys : ∀ q, q ∈ own'.map (·.1) → q ∈ own.map (·.1) := by
    intro q hq
    obtain ⟨⟨q', c⟩, hm, e⟩ := List.mem_map.1 hq
    exact List.mem_map.2 ⟨_, ((hown q' c).1 hm).2, e⟩
  have hkd : ∀ σ' : Sg, Kd σ own' (k' :: ks) σ' ((k', .vec (len + m) s (fapp (shiftF lo f) len fy)) :: own') ks → Kd σ own (k' :: ks) σ' ((k', .vec (len + m) s (fapp (shiftF lo f) len fy)) :: own') ks :=
    fun σ' h => ⟨h.1, h.2.1, fun q hq => (h.2.2 q hq).imp (hkeys q) id⟩
  obtain ⟨bo, base, κ, s1, s2, s3⟩ := hh.own.blk k _ hmem
  have hd := hx
  cases hx with
  | vec _ _ _ _ _ bo' base' κ' c a hk hc hl ha =>
    rw [s1] at hk
    simp only [Option.some.injEq, Prod.mk.injEq] at hk
    obtain ⟨q1, q2, q3⟩ := hk
    subst q1 q2 q3
    have hsrcx : Src M w s len (shiftF lo f) (.slice a len c) := by
      have hv : vsrc own s (.vec k s lo len) (fun m' f' => m' = len ∧ f' = shiftF lo f) := by
        unfold vsrc
        simp only [hlook]
        split
        · exact Len.mk hle (by simp)
        · rename_i hh; simp at hh
      obtain ⟨m', f', ⟨r1, r2⟩, hr⟩ := vsrc_sound hv
      subst r1 r2
      exact hr M w σ _ hd hh.own
    have hdrop := hsim_drop (own' := own') hh (fun q c hq => ((hown q c).1 hq).2) hnd
    by_cases hroom : len + m ≤ c
    · obtain ⟨us, u1, u2, u3, u4, u5⟩ := hsrc.firstCells (P := P) (w' := w) rfl
      rcases Nat.eq_zero_or_pos c with hc0 | hc0
      · have e1 : len = 0 := by omega
        have e2 : m = 0 := by omega
        subst e1 e2 hc0
        have hu : us = [] := List.eq_nil_of_length_eq_zero (by simpa using u1)
        subst hu
        have hrun := run_append_room_any (P := P) (ty := ty) h0 h1 ht ht2 hs a 0 0 0 uy [] u3 u2 (by omega) w (by cases a <;> rfl)
        obtain ⟨M', σ', n1, n2, n3, n4⟩ := new_none hdrop.1 s (fapp (shiftF lo f) 0 fy) a
        exact ⟨_, w, M', σ', hrun, n1, hdrop.2.trans n2, n3, hkd _ n4⟩
      · obtain ⟨b, hb', ha'⟩ := ha hc0
        clear ha
        subst hb' ha'
        rcases s3 with ⟨_, s3⟩ | ⟨b', ty', cur, s3, s4, s5, s6, s7⟩
        · cases s3
        cases s3
        have hcs : c * s + lo * s = κ * s := by rw [← Nat.add_mul, hc]
        have hroom' : len * s + m * s ≤ c * s := by rw [← Nat.add_mul]; exact Nat.mul_le_mul_right _ hroom
        have hst := run_storeCells_at P b (base + lo * s + len * s) ty' us 0 cur w s5 (by omega) u5
        simp only [Nat.add_zero] at hst
        have hrun := run_append_room_any (P := P) (ty := ty) h0 h1 ht ht2 hs (some ⟨b, base + lo * s, none⟩) len c m uy us u3 u2 hroom _ (by simp only [addr_add]; exact hst)
        have hk' := hsim_rekey (w' := w.setRow b (cur.toList.take (base + lo * s + len * s) ++ us ++ cur.toList.drop (base + lo * s + len * s + us.length)).toArray) hh k b (.vec n s f) hmem (by simp [blkOf, s1]) hown hnd
          (some b, base + lo * s, c) rfl (.vec (len + m) s (fapp (shiftF lo f) len fy)) rfl rfl rfl (by simp) (fun n hn => setRow_other w b n _ hn) (fun hE => by
            refine ⟨_, _, _, Sg.set_same _ _ _, hroom, .inr ⟨b, ty', _, rfl, s4, setRow_heap w b cur _ ty' _ s5, ?_, ?_⟩⟩
            · have := splice_length cur.toList us (base + lo * s + len * s) (by simp; omega)
              simp only [List.size_toArray, this, Array.length_toList]; omega
            · intro i j hi hj
              have g1 := splice_get cur.toList us (base + lo * s + len * s) (by simp; omega) (base + lo * s + (i * s + j))
              rw [List.getElem?_toArray, g1]
              by_cases hil : i < len
              · have hlt : i * s + s ≤ len * s := by rw [← Nat.succ_mul]; exact Nat.mul_le_mul_right _ hil
                rw [if_pos (by omega), fapp_lt hil, shiftF_eq]
                obtain ⟨x, x1, x0, x2⟩ := s7 (lo + i) j (by omega) hj
                refine ⟨x, ?_, x0, x2.mono hE (Sg.le_refl _)⟩
                rw [show base + lo * s + (i * s + j) = base + ((lo + i) * s + j) by rw [Nat.add_mul]; omega]
                simpa using x1
              · have hge : len * s ≤ i * s := Nat.mul_le_mul_right _ (by omega)
                have hup : i * s + s ≤ len * s + m * s := by rw [← Nat.succ_mul, ← Nat.add_mul]; exact Nat.mul_le_mul_right _ (by omega)
                rw [if_neg (by omega), if_pos (by omega), fapp_ge hil]
                obtain ⟨x, x1, x2⟩ := u4 (i - len) j (by omega) hj
                refine ⟨x, ?_, u5 x (List.mem_of_getElem? x1), x2.mono hE (Sg.le_refl _)⟩
                rw [show base + lo * s + (i * s + j) - (base + lo * s + len * s) = (i - len) * s + j by rw [Nat.sub_mul]; omega]
                exact x1)
        refine ⟨_, _, M, _, hrun, hk'.1, hk'.2, ?_, hkd _ (kd_set _ _ kd_cons)⟩
        exact .vec _ _ _ _ _ _ _ _ c _ (Sg.set_same _ _ _) rfl hroom (fun _ => ⟨b, rfl, by simp⟩)
    · obtain ⟨us, u1, u2, u3, u4, u5⟩ := hsrc.firstCells (P := P) (w' := w.drew) rfl
      obtain ⟨us', _, _, u3', _, _⟩ := hsrc.firstCells (P := P) (w' := w) rfl
      obtain ⟨olds, o1, o2, o3, o4, o5⟩ := hsrcx.firstCells (P := P) (w' := w.drew) rfl
      have hrun := run_append_grow_any (P := P) (ty := ty) (w := w) h0 h1 ht ht2 hi hzz hisz a len c m uy us olds u3' u2 o2 (by omega) (by rw [hiby]; exact hm1) hm2
      have hge := grownCap_ge w (len + m) c e
      obtain ⟨M', σ', n1, n2, n3, n4⟩ := new_vec (w' := w.drew.alloc (.cells (olds.toArray ++ us.toArray ++ Builtin.zeroCells z.cells (grownCap w (len + m) c e - (len + m))) e)) hdrop.1 (len + m) s (grownCap w (len + m) c e)
        (fapp (shiftF lo f) len fy) _ e (.inr rfl) hge
        (by simp only [Array.size_append, List.size_toArray, size_zeroCells, u1, o1, hzs]; rw [← Nat.add_mul, ← Nat.add_mul]; exact Nat.mul_le_mul_right _ (by omega))
        (fun i j hi hj => by
          by_cases hil : i < len
          · rw [fapp_lt hil]
            obtain ⟨x, x1, x2⟩ := o4 i j hil hj
            refine ⟨x, ?_, o5 x (List.mem_of_getElem? x1), x2⟩
            have hlt : i * s + j < olds.length := (List.getElem?_eq_some_iff.1 x1).1
            rw [Array.getElem?_append_left (by simp; omega), Array.getElem?_append_left (by simpa using hlt)]
            simpa using x1
          · rw [fapp_ge hil]
            obtain ⟨x, x1, x2⟩ := u4 (i - len) j (by omega) hj
            refine ⟨x, ?_, u5 x (List.mem_of_getElem? x1), x2⟩
            have hlt : (i - len) * s + j < us.length := (List.getElem?_eq_some_iff.1 x1).1
            have hge : len * s ≤ i * s := Nat.mul_le_mul_right _ (by omega)
            have he : i * s + j = len * s + ((i - len) * s + j) := by rw [Nat.sub_mul]; omega
            rw [Array.getElem?_append_left (by simp; omega), Array.getElem?_append_right (by simp; omega)]
            simp only [List.size_toArray, o1]
            rw [show i * s + j - len * s = (i - len) * s + j by omega]
            simpa using x1)
      exact ⟨_, _, M', σ', hrun, n1, hdrop.2.trans n2, n3 (len + m) hge, hkd _ n4⟩

end Go.Eng
