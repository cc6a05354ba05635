/-
  The engine, part C: how the relation between abstract and concrete memory passes over a new block, a store, a draw.
-/
import Derived.Test.YtcnpplcfabdoaaaGreatEngB
import Derived.Laws.AppendOwn
namespace Go.Eng

def Sg.set (σ : Sg) (k : Nat) (x : Option Nat × Nat × Nat) : Sg := fun k' => if k' = k then some x else σ k'
theorem Sg.set_same (σ : Sg) (k : Nat) (x : Option Nat × Nat × Nat) : σ.set k x k = some x := by simp [Sg.set]
theorem Sg.set_other (σ : Sg) (k : Nat) (x : Option Nat × Nat × Nat) {k' : Nat} (h : k' ≠ k) : σ.set k x k' = σ k' := by simp [Sg.set, h]
theorem Sg.le_set {σ : Sg} {k : Nat} (x : Option Nat × Nat × Nat) (h : σ k = Option.none) : σ.le (σ.set k x) := by
  intro k' y hy
  have : k' ≠ k := fun e => by subst e; rw [h] at hy; cases hy
  rw [Sg.set_other _ _ _ this]; exact hy

theorem kd_set {σ : Sg} {k : Nat} (x : Option Nat × Nat × Nat) (ks : List Nat) {own own' : Own} (h : ∀ q, q ∈ own'.map (·.1) → q ∈ own.map (·.1) ∨ q = k) : Kd σ own (k :: ks) (σ.set k x) own' ks :=
  ⟨fun q hq => List.mem_cons_of_mem _ hq, fun q h1 h2 => by rw [Sg.set_other _ _ _ (fun e => h2 (by simp [e]))]; exact h1, fun q hq => by
    rcases h q hq with e | e
    · exact .inl e
    · exact .inr (by simp [e])⟩

theorem kd_cons {own : Own} {k : Nat} {b : Blk} : ∀ q, q ∈ ((k, b) :: own).map (·.1) → q ∈ own.map (·.1) ∨ q = k := by
  intro q hq
  simp only [List.map_cons, List.mem_cons] at hq
  rcases hq with e | e
  · exact .inr e
  · exact .inl e

theorem look_mem {α : Type} : ∀ {l : List (Nat × α)} {k : Nat} {v : α}, look l k = some v → (k, v) ∈ l
  | [], k, v, h => by simp [look] at h
  | (k', v') :: r, k, v, h => by
    unfold look at h
    split at h
    · rename_i hb
      have := Nat.eq_of_beq_eq_true hb
      subst this
      simp at h; subst h; simp
    · exact List.mem_cons_of_mem _ (look_mem h)

theorem lt_of_getElem? {w : World} {b : Nat} {o : Obj} (h : w.heap[b]? = some o) : b < w.heap.size := by
  rcases Nat.lt_or_ge b w.heap.size with h' | h'
  · exact h'
  · simp [Array.getElem?_eq_none h'] at h

/-- own blocks whose concrete block is untouched -/
theorem BlkSim.mono {M M' : Nat → Prop} {w w' : World} {σ σ' : Sg} (hE : Ext M w M' w') (hle : σ.le σ') {k : Nat} {b : Blk} (h : BlkSim M w σ k b)
    (hk0 : ∀ n, holds w σ k b n → M' n ∧ w'.heap[n]? = w.heap[n]?) : BlkSim M' w' σ' k b := by
  have hk : ∀ n, blkOf σ k = some n → M' n ∧ w'.heap[n]? = w.heap[n]? := fun n hn => hk0 n (.inl hn)
  cases b with
  | cells cs =>
    obtain ⟨b, κ, ty, us, h1, h2, h3, h4, h5⟩ := h
    obtain ⟨m1, m2⟩ := hk b (by simp [blkOf, h1])
    exact ⟨b, κ, ty, us, hle _ _ h1, m1, m2.trans h3, h4, fun i v u hv hu => (h5 i v u hv hu).mono hE hle⟩
  | vec n s f =>
    obtain ⟨bo, base, κ, h1, h2, h3⟩ := h
    refine ⟨bo, base, κ, hle _ _ h1, h2, ?_⟩
    rcases h3 with h3 | ⟨b, ty, us, e, hM, h4, h5, h6⟩
    · exact .inl h3
    · subst e
      obtain ⟨m1, m2⟩ := hk b (by simp [blkOf, h1])
      exact .inr ⟨b, ty, us, rfl, m1, m2.trans h4, h5, fun i j hi hj => let ⟨u, a1, a0, a2⟩ := h6 i j hi hj; ⟨u, a1, a0, a2.mono hE (Sg.le_refl _)⟩⟩
  | loop st pe env N ps C =>
    obtain ⟨l, κ, r, h1, h2, h3, h4, h5, h6, h7, h9, h10⟩ := h
    obtain ⟨m1, m2⟩ := hk l (by simp [blkOf, h1])
    exact ⟨l, κ, r, hle _ _ h1, m1, m2.trans h3, h4, h5, h6, h7, h9, fun t v hv => (h10 t v hv).mono hE hle⟩
  | map ik es =>
    obtain ⟨b, κ, arr, h1, h2, h3, h4⟩ := h
    obtain ⟨m1, m2⟩ := hk b (by simp [blkOf, h1])
    exact ⟨b, κ, arr, hle _ _ h1, m1, m2.trans h3, h4.mono hE⟩
  | glob g n f =>
    obtain ⟨⟨base, κ, h1⟩, h2⟩ := h
    exact ⟨⟨base, κ, hle _ _ h1⟩, h2.mono hE (Sg.le_refl _)⟩
  | iter km n idxs =>
    obtain ⟨r, κ, b, base, κ', h1, h2, h3, h4⟩ := h
    obtain ⟨m1, m2⟩ := hk r (by simp [blkOf, h1])
    exact ⟨r, κ, b, base, κ', hle _ _ h1, m1, hle _ _ h3, m2.trans h4⟩
  | fam n s len f op =>
    obtain ⟨bo, base, κ, h1, h2, h3⟩ := h
    refine ⟨bo, base, κ, hle _ _ h1, h2, ?_⟩
    rcases h3 with h3 | ⟨b, ty, us, e, hM, h4, h5, h6, h7, h8⟩
    · exact .inl h3
    · subst e
      obtain ⟨m1, m2⟩ := hk b (by simp [blkOf, h1])
      refine .inr ⟨b, ty, us, rfl, m1, m2.trans h4, h5, fun i hi => ?_, h7, h8⟩
      obtain ⟨u, u1, a, c, u2, u3, u4, u5⟩ := h6 i hi
      refine ⟨u, u1, a, c, u2, u3, fun q hq => (u4 q hq).mono hE hle, fun hn hc => ?_⟩
      obtain ⟨r, off, ty2, us2, q1, q2, q3, q4, q5⟩ := u5 hn hc
      subst q1
      obtain ⟨n1, n2⟩ := hk0 r (.inr ⟨b, base, κ, us, ty, i, h1, h4, hi, hn, off, _, c, by rw [u1, u2], hc⟩)
      exact ⟨r, off, ty2, us2, rfl, n1, n2.trans q3, q4, fun j t hj ht => let ⟨x, x1, x2, x3⟩ := q5 j t hj ht; ⟨x, x1, x2, x3.mono hE (Sg.le_refl _)⟩⟩

theorem BlkSim.some {M : Nat → Prop} {w : World} {σ : Sg} {k : Nat} {b : Blk} (h : BlkSim M w σ k b) : ∃ x, σ k = some x := by
  cases b with
  | cells cs => obtain ⟨b, κ, ty, us, h1, _⟩ := h; exact ⟨_, h1⟩
  | vec n s f => obtain ⟨bo, base, κ, h1, _⟩ := h; exact ⟨_, h1⟩
  | loop st pe env N ps C => obtain ⟨l, κ, r, h1, _⟩ := h; exact ⟨_, h1⟩
  | map ik es => obtain ⟨b, κ, arr, h1, _⟩ := h; exact ⟨_, h1⟩
  | iter km n idxs => obtain ⟨r, κ, b, base, κ', h1, _⟩ := h; exact ⟨_, h1⟩
  | glob g n f => obtain ⟨⟨base, κ, h1⟩, _⟩ := h; exact ⟨_, h1⟩
  | fam n s len f op => obtain ⟨bo, base, κ, h1, _⟩ := h; exact ⟨_, h1⟩

theorem OwnSim.key {M : Nat → Prop} {w : World} {σ : Sg} {own : Own} (h : OwnSim M w σ own) {k : Nat} {b : Blk} (hm : (k, b) ∈ own) : ∃ x, σ k = some x := (h.blk k b hm).some

theorem blkOf_le {σ σ' : Sg} (h : σ.le σ') {k : Nat} {x : Option Nat × Nat × Nat} (hk : σ k = some x) : blkOf σ' k = blkOf σ k := by
  simp [blkOf, hk, h k x hk]

def Blk.isFam : Blk → Bool
  | .fam .. => true
  | _ => false
theorem rowOf_no {w : World} {σ : Sg} {k : Nat} {b : Blk} {n : Nat} (h : b.isFam = false) : ¬ rowOf w σ k b n := by
  cases b <;> first | exact fun h => h | (simp [Blk.isFam] at h)
theorem holds_no {w : World} {σ : Sg} {k : Nat} {b : Blk} {n : Nat} (h : b.isFam = false) : holds w σ k b n ↔ blkOf σ k = some n := ⟨fun x => x.resolve_right (rowOf_no h), .inl⟩
theorem holds_same {w w' : World} {σ σ' : Sg} {k : Nat} {b : Blk} {n : Nat} (hle : σ.le σ') (hk : ∃ x, σ k = some x) (hh : ∀ ob, blkOf σ k = some ob → w'.heap[ob]? = w.heap[ob]?) : holds w' σ' k b n ↔ holds w σ k b n := by
  obtain ⟨x, hx⟩ := hk
  have h1 := blkOf_le hle hx
  have hx' := hle _ _ hx
  unfold holds
  rw [h1]
  refine or_congr Iff.rfl ?_
  cases b <;> try exact Iff.rfl
  rename_i m s len f op
  constructor
  · rintro ⟨ob, base, κ, us, ty, i, e1, e2, e3⟩
    rw [hx'] at e1
    exact ⟨ob, base, κ, us, ty, i, hx.trans e1, by rw [← hh ob (by rw [blkOf, hx]; cases e1; rfl)]; exact e2, e3⟩
  · rintro ⟨ob, base, κ, us, ty, i, e1, e2, e3⟩
    exact ⟨ob, base, κ, us, ty, i, hle _ _ e1, by rw [hh ob (by rw [blkOf, e1])]; exact e2, e3⟩

theorem holds_at {w : World} {σ σ' : Sg} {k k' : Nat} {b : Blk} {n : Nat} (h : σ' k' = σ k) : holds w σ' k' b n ↔ holds w σ k b n := by
  unfold holds blkOf
  rw [h]
  refine or_congr Iff.rfl ?_
  cases b <;> try exact Iff.rfl
  simp only [rowOf, h]

theorem owned_cons {w : World} {σ : Sg} {k : Nat} {b : Blk} {own : Own} {n : Nat} : owned w σ ((k, b) :: own) n ↔ holds w σ k b n ∨ owned w σ own n := by
  constructor
  · rintro ⟨k', b', hm, hk⟩
    rcases List.mem_cons.1 hm with h | h
    · cases h; exact .inl hk
    · exact .inr ⟨k', b', h, hk⟩
  · rintro (h | ⟨k', b', hm, hk⟩)
    · exact ⟨k, b, by simp, h⟩
    · exact ⟨k', b', by simp [hm], hk⟩

theorem owned_le {M : Nat → Prop} {w w' : World} {σ σ' : Sg} {own : Own} (ho : OwnSim M w σ own) (h : σ.le σ') (hh : ∀ b, owned w σ own b → w'.heap[b]? = w.heap[b]?) {n : Nat} : owned w' σ' own n ↔ owned w σ own n := by
  have key : ∀ k b, (k, b) ∈ own → (holds w' σ' k b n ↔ holds w σ k b n) := fun k b hm => holds_same h (ho.key hm) fun ob hob => hh ob ⟨k, b, hm, .inl hob⟩
  constructor
  · rintro ⟨k, b, hm, hk⟩
    exact ⟨k, b, hm, (key k b hm).1 hk⟩
  · rintro ⟨k, b, hm, hk⟩
    exact ⟨k, b, hm, (key k b hm).2 hk⟩

/-- a new concrete block, owned under a fresh key -/
theorem hsim_new {M : Nat → Prop} {w w' : World} {σ : Sg} {own : Own} {k : Nat} {ks : List Nat} (h : HSim M w σ own (k :: ks)) (x : Option Nat × Nat × Nat) (b : Blk)
    (hx : ∀ n, x.1 = some n → n = w.heap.size)
    (os : w'.os = w.os) (tape : w'.tape = w.tape) (output : w'.output = w.output) (size : w.heap.size ≤ w'.heap.size)
    (same : ∀ n, n < w.heap.size → w'.heap[n]? = w.heap[n]?)
    (hb : ∀ M', (∀ n, M' n ↔ (M n ∧ n < w.heap.size) ∨ n = w.heap.size) → Ext M w M' w' → BlkSim M' w' (σ.set k x) k b) (hf : b.isFam = false := by rfl) :
    ∃ M', HSim M' w' (σ.set k x) ((k, b) :: own) ks ∧ Tr M w σ own M' w' (σ.set k x) ((k, b) :: own) := by
  have hk0 : σ k = none := h.fresh k (by simp)
  have hle : σ.le (σ.set k x) := Sg.le_set x hk0
  let M' : Nat → Prop := fun n => (M n ∧ n < w.heap.size) ∨ n = w.heap.size
  have hE : Ext M w M' w' := ⟨fun b hb hM => ⟨by rintro (⟨h, _⟩ | h); exact hM h; omega, same b hb⟩, size⟩
  have hne : ∀ k' b', (k', b') ∈ own → k' ≠ k := fun k' b' hm e => by
    obtain ⟨y, hy⟩ := h.own.key hm
    subst e; rw [hk0] at hy; cases hy
  have keep : ∀ k' b' n, (k', b') ∈ own → (holds w' (σ.set k x) k' b' n ↔ holds w σ k' b' n) := fun k' b' n hm =>
    holds_same hle (h.own.key hm) fun ob hob => same ob (owned_M h.own ⟨k', b', hm, .inl hob⟩).2
  refine ⟨M', ⟨⟨?_, ?_, ?_⟩, ?_, ?_⟩, ⟨⟨os, tape, output, size, fun n hn _ => same n hn, ?_⟩, ?_, hle⟩⟩
  · intro k' b' hm
    rcases List.mem_cons.1 hm with e | hm
    · cases e; exact hb M' (fun _ => Iff.rfl) hE
    · refine (h.own.blk k' b' hm).mono hE hle ?_
      intro n hn
      obtain ⟨m1, m2⟩ := owned_M h.own ⟨k', b', hm, hn⟩
      exact ⟨.inl ⟨m1, m2⟩, same n m2⟩
  · simp only [List.map_cons, List.nodup_cons]
    refine ⟨?_, h.own.nodup⟩
    intro hm
    obtain ⟨⟨k', b'⟩, hm', e⟩ := List.mem_map.1 hm
    exact hne k' b' hm' e
  · intro k1 b1 k2 b2 n h1 h2 hne' e1 e2
    have old : ∀ k' b', (k', b') ∈ own → holds w' (σ.set k x) k' b' n → n < w.heap.size := fun k' b' hm e =>
      (owned_M h.own ⟨k', b', hm, (keep k' b' n hm).1 e⟩).2
    have new : holds w' (σ.set k x) k b n → n = w.heap.size := fun e => by
      rw [holds_no hf] at e
      simp only [blkOf, Sg.set_same] at e
      exact hx n e
    rcases List.mem_cons.1 h1 with c1 | c1
    · cases c1
      rcases List.mem_cons.1 h2 with c2 | c2
      · cases c2; exact hne' rfl
      · have := old _ _ c2 e2; have := new e1; omega
    · rcases List.mem_cons.1 h2 with c2 | c2
      · cases c2; have := old _ _ c1 e1; have := new e2; omega
      · exact h.own.apart _ _ _ _ _ c1 c2 hne' ((keep _ _ _ c1).1 e1) ((keep _ _ _ c2).1 e2)
  · intro k' hk'
    have : k' ≠ k := fun e => by
      subst e
      exact (List.nodup_cons.1 h.knodup).1 hk'
    rw [Sg.set_other _ _ _ this]
    exact h.fresh k' (by simp [hk'])
  · exact (List.nodup_cons.1 h.knodup).2
  · intro n hn _
    simp only [M']
    constructor
    · rintro (h | h)
      · exact h.1
      · omega
    · intro h; exact .inl ⟨h, hn⟩
  · intro n hn
    rcases owned_cons.1 hn with e | ⟨k', b', hm, e⟩
    · right
      rw [holds_no hf] at e
      simp only [blkOf, Sg.set_same] at e
      have := hx n e; omega
    · exact .inl ⟨k', b', hm, (keep k' b' n hm).1 e⟩

/-- neither is a family -/
theorem hold_back {w w' : World} {σ : Sg} {k : Nat} {b b' : Blk} (h : b'.isFam = false) : ∀ n, holds w' σ k b' n → holds w σ k b n := fun _ x => .inl ((holds_no h).1 x)
/-- a change of one owned block -/
theorem hsim_write {M : Nat → Prop} {w w' : World} {σ : Sg} {own own' : Own} {ks : List Nat} (h : HSim M w σ own ks) (k g : Nat) (b b' : Blk) (hm : (k, b) ∈ own) (hg : holds w σ k b g)
    (hown : ∀ k' c, (k', c) ∈ own' ↔ (k' = k ∧ c = b') ∨ (k' ≠ k ∧ (k', c) ∈ own)) (hnd : own'.map (·.1) = own.map (·.1))
    (os : w'.os = w.os) (tape : w'.tape = w.tape) (output : w'.output = w.output) (size : w'.heap.size = w.heap.size)
    (same : ∀ n, n ≠ g → w'.heap[n]? = w.heap[n]?) (hb : Ext M w M w' → BlkSim M w' σ k b') (hh : ∀ n, holds w' σ k b' n → holds w σ k b n := by exact hold_back rfl) :
    HSim M w' σ own' ks ∧ Tr M w σ own M w' σ own' := by
  have hgM := owned_M h.own ⟨k, b, hm, hg⟩
  have hE : Ext M w M w' := ⟨fun n hn hM => ⟨hM, same n (fun e => hM (e ▸ hgM.1))⟩, by omega⟩
  have keep : ∀ k' c n, k' ≠ k → (k', c) ∈ own → (holds w' σ k' c n ↔ holds w σ k' c n) := fun k' c n hne hc =>
    holds_same (Sg.le_refl _) (h.own.key hc) fun ob hob => same ob fun e => h.own.apart _ _ _ _ _ hc hm hne (.inl hob) (e ▸ hg)
  have back : ∀ k' c n, (k', c) ∈ own' → holds w' σ k' c n → ∃ c', (k', c') ∈ own ∧ holds w σ k' c' n := fun k' c n hc e => by
    rcases (hown k' c).1 hc with ⟨e1, e2⟩ | ⟨hne, hc'⟩
    · subst e1 e2; exact ⟨b, hm, hh n e⟩
    · exact ⟨c, hc', (keep k' c n hne hc').1 e⟩
  refine ⟨⟨⟨?_, ?_, ?_⟩, h.fresh, h.knodup⟩, ⟨⟨os, tape, output, by omega, ?_, fun _ _ _ => Iff.rfl⟩, fun n ⟨k', c, hc, e⟩ => let ⟨c', h1, h2⟩ := back k' c n hc e; .inl ⟨k', c', h1, h2⟩, Sg.le_refl _⟩⟩
  · intro k' c hc
    rcases (hown k' c).1 hc with ⟨e1, e2⟩ | ⟨hne, hc'⟩
    · subst e1 e2; exact hb hE
    · refine (h.own.blk k' c hc').mono hE (Sg.le_refl _) ?_
      intro n hn
      refine ⟨(owned_M h.own ⟨k', c, hc', hn⟩).1, same n ?_⟩
      intro e; subst e
      exact h.own.apart _ _ _ _ _ hc' hm hne hn hg
  · rw [hnd]; exact h.own.nodup
  · intro k1 c1 k2 c2 n h1 h2 hne e1 e2
    obtain ⟨d1, hd1, x1⟩ := back _ _ _ h1 e1
    obtain ⟨d2, hd2, x2⟩ := back _ _ _ h2 e2
    exact h.own.apart _ _ _ _ _ hd1 hd2 hne x1 x2
  · intro n hn hno
    refine same n ?_
    intro e; subst e
    exact hno ⟨k, b, hm, hg⟩

/-- a draw -/
theorem hsim_drew {M : Nat → Prop} {w : World} {σ : Sg} {own : Own} {ks : List Nat} (h : HSim M w σ own ks) : HSim M w.drew σ own ks ∧ Tr M w σ own M w.drew σ own := by
  have hE : Ext M w M w.drew := ⟨fun n hn hM => ⟨hM, rfl⟩, Nat.le_refl _⟩
  refine ⟨⟨⟨fun k b hm => (h.own.blk k b hm).mono hE (Sg.le_refl _) (fun n hn => ⟨(owned_M h.own ⟨k, b, hm, hn⟩).1, rfl⟩), h.own.nodup, h.own.apart⟩, h.fresh, h.knodup⟩,
    ⟨⟨rfl, rfl, rfl, Nat.le_refl _, fun _ _ _ => rfl, fun _ _ _ => Iff.rfl⟩, fun n hn => .inl hn, Sg.le_refl _⟩⟩

theorem Tr.ext {M M' : Nat → Prop} {w w' : World} {σ σ' : Sg} {own own' : Own} (ho : OwnSim M w σ own) (h : Tr M w σ own M' w' σ' own') : Ext M w M' w' :=
  h.adv.ext fun _ hb => (owned_M ho hb).1

theorem XOk.mono {M M' : Nat → Prop} {w w' : World} {σ σ' : Sg} {env : Env} {a : Act} {x : X} (hE : Ext M w M' w') (hle : σ.le σ') (h : XOk M w σ env a x) : XOk M' w' σ' env a x :=
  fun n e v hv => (h n e v hv).mono hE hle

theorem EnvSim.mono {M M' : Nat → Prop} {w w' : World} {σ σ' : Sg} {env : Env} {a : Act} (hE : Ext M w M' w') (hle : σ.le σ') (h : EnvSim M w σ env a) : EnvSim M' w' σ' env a :=
  fun t v hv => (h t v hv).mono hE hle

theorem EnvSim.put {M : Nat → Prop} {w : World} {σ : Sg} {env : Env} {a : Act} {d : Nat} {v : V} {u : Value} (h : EnvSim M w σ env a) (hd : d < a.tmps.size) (hv : Den M w σ v u) :
    EnvSim M w σ ((d, v) :: env) (a.put (some d) u) := by
  intro t x hx
  unfold look at hx
  split at hx
  · rename_i hb
    have := Nat.eq_of_beq_eq_true hb
    subst this
    simp at hx; subst hx
    simpa [Act.put, Array.getD, hd] using hv
  · rename_i hb
    have hne : d ≠ t := fun e => by subst e; simp at hb
    have := h t x hx
    have he : (a.put (some d) u).tmps.getD t undef = a.tmps.getD t undef := by
      simp only [Act.put, Array.getD_eq_getD_getElem?, Array.getElem?_setIfInBounds, if_neg hne]
    rw [he]; exact this

end Go.Eng
