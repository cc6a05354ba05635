/-
  The engine, part J2: regions that draw their order: soundness.
-/
import Derived.Test.YtcnpplcfabdoaaaGreatEngJ
namespace Go.Eng

/-! ## facts that wait -/

theorem tmpsOf_mem {n : Nat} : ∀ {xs : List X}, .t n ∈ xs → n ∈ tmpsOf xs
  | [], h => by simp at h
  | .t m :: r, h => by
    rcases List.mem_cons.1 h with e | e
    · cases e; simp [tmpsOf]
    · simp [tmpsOf, tmpsOf_mem e]
  | .k v :: r, h => by
    rcases List.mem_cons.1 h with e | e
    · cases e
    · simpa [tmpsOf] using tmpsOf_mem e

theorem look_cons_ne {env : Env} {t n : Nat} {v : V} (h : t ≠ n) : look ((t, v) :: env) n = look env n := by
  have hb : Nat.beq t n = false := by
    rw [← Bool.not_eq_true]
    exact fun hh => h (Nat.eq_of_beq_eq_true hh)
  show (match Nat.beq t n with | true => some v | false => look env n) = _
  rw [hb]

theorem look_cons_eq {env : Env} {t : Nat} {v : V} : look ((t, v) :: env) t = some v := by
  simp [look]

theorem XOk.congr {M : Nat → Prop} {w : World} {σ : Sg} {env env' : Env} {a : Act} {x : X} (h : ∀ n, x = .t n → look env' n = look env n) (hx : XOk M w σ env' a x) : XOk M w σ env a x :=
  fun n e v hv => hx n e v (by rw [h n e]; exact hv)

theorem PFact.ext {P : Program} {o : Oper} {xs : List X} {env env' : Env} {v : V} (h : PFact P o xs env v) (he : ∀ n, n ∈ tmpsOf xs → look env' n = look env n) : PFact P o xs env' v :=
  fun M w σ a ok => h M w σ a fun x hx => (ok x hx).congr fun n e => he n (tmpsOf_mem (e ▸ hx))

theorem AFact.ext {P : Program} {o : Oper} {xs : List X} {env env' : Env} {k : Nat} {b : Blk} {v : V} (h : AFact P o xs env k b v) (he : ∀ n, n ∈ tmpsOf xs → look env' n = look env n) : AFact P o xs env' k b v :=
  fun M w σ a own ks ok => h M w σ a own ks fun x hx => (ok x hx).congr fun n e => he n (tmpsOf_mem (e ▸ hx))

inductive LK where
  | pure (v : V)
  | load (t : TypeId) (n : Nat) (z : Option Nat) (p v : V)
  | new (k : Nat) (b : Blk) (v : V)
  | skip

def LK.val : LK → V
  | .pure v => v
  | .load _ _ _ _ v => v
  | .new _ _ v => v
  | .skip => .raw (.tuple #[])
def LK.newk : LK → Option (Nat × Blk)
  | .new k b _ => some (k, b)
  | _ => none

structure LT where
  d : DI
  k : LK

def GuardOk (env : Env) (g : Option (Nat × Bool)) (run : Bool) : Prop :=
  match g with
  | none => run = true
  | some (t, want) => (∃ b, look env t = some (.bool b) ∧ run = (b == want)) ∨ (run = false ∧ ∃ us, look env t = some (.raw (.tuple us)))

def LOk (P : Program) (N : Nat) (ops : Array Oper) (env : Env) (own : Own) (l : LT) : Prop :=
  ∃ o, ops[l.d.ix]? = some o ∧ cSI P N ops o = some l.d.si ∧ (∀ t, l.d.si.dst = some t → look env t = some l.k.val) ∧
  match l.k with
  | .pure v => GuardOk env l.d.si.guard true ∧ PFact P o l.d.si.op.xs env v
  | .load t n z p v => GuardOk env l.d.si.guard true ∧ l.d.si.op = .load z (.t n) ∧ o.op = .load t (.tmp n) ∧ szAgg P t = some z ∧ look env n = some p ∧ LFact P t p v own ∧ (∀ u, v ≠ .raw u)
  | .new k b v => GuardOk env l.d.si.guard true ∧ AFact P o l.d.si.op.xs env k b v ∧ keyOfV v = some k ∧ l.d.si.op.isNew = true
  | .skip => GuardOk env l.d.si.guard false

theorem GuardOk.ext {env env' : Env} {g : Option (Nat × Bool)} {run : Bool} (h : GuardOk env g run) (he : ∀ t b, g = some (t, b) → look env' t = look env t) : GuardOk env' g run := by
  unfold GuardOk at h ⊢
  split
  · exact h
  · rcases h with ⟨b, h1, h2⟩ | ⟨h1, us, h2⟩
    · exact .inl ⟨b, by rw [he _ _ rfl]; exact h1, h2⟩
    · exact .inr ⟨h1, us, by rw [he _ _ rfl]; exact h2⟩

theorem LOk.ext {P : Program} {N : Nat} {ops : Array Oper} {env env' : Env} {own own' : Own} {l : LT} (h : LOk P N ops env own l) (he : ∀ n, n ∈ l.d.si.uses → look env' n = look env n)
    (hd : ∀ t, l.d.si.dst = some t → look env' t = look env t) (hl : ∀ t n z p v, l.k = .load t n z p v → look env n = some p → szAgg P t = some z → LFact P t p v own → LFact P t p v own') : LOk P N ops env' own' l := by
  obtain ⟨o, h1, h2, h3, h4⟩ := h
  have hx : ∀ n, n ∈ tmpsOf l.d.si.op.xs → look env' n = look env n := fun n hn => he n (by simp [SI.uses, hn])
  have hg : ∀ t b, l.d.si.guard = some (t, b) → look env' t = look env t := fun t b e => he t (by simp [SI.uses, e])
  refine ⟨o, h1, h2, fun t ht => by rw [hd t ht]; exact h3 t ht, ?_⟩
  cases hk : l.k <;> rw [hk] at h4 <;> simp only at h4 ⊢
  · exact ⟨h4.1.ext hg, h4.2.ext hx⟩
  · obtain ⟨a1, a2, a3, a4, a5, a6, a7⟩ := h4
    refine ⟨a1.ext hg, a2, a3, a4, ?_, hl _ _ _ _ _ hk a5 a4 a6, a7⟩
    rw [hx _ (by rw [a2]; simp [SOp.xs, tmpsOf])]
    exact a5
  · exact ⟨h4.1.ext hg, h4.2.1.ext hx, h4.2.2⟩
  · exact h4.ext hg

/-! ## the invariant -/

structure Inv (P : Program) (N Bd : Nat) (ops : Array Oper) (anc : Nat → List Nat) (σ0 : Sg) (ks0 Z : List Nat) (pre rest : List DI) (late : List LT) (env : Env) (own : Own) (ks : List Nat) (B : Own)
    (M : Nat → Prop) (w : World) (σ : Sg) (a : Act) (listed : Array Bool) : Prop where
  size : a.tmps.size = N
  defers : Good Bd M w σ B a.defers
  lsize : listed.size = ops.size
  sub : ∀ l, l ∈ late → l.d ∈ pre ∧ l.d.isEff = false
  nd : (late.map (·.d.ix)).Nodup
  part : ∀ i, i < ops.size → (listed.getD i true = false ↔ (i ∈ late.map (·.d.ix) ∨ i ∈ rest.map DI.ix))
  closed : ∀ i o, ops[i]? = some o → listed.getD i true = true → ∀ j, j ∈ edgesOf o → listed.getD j false = true
  envd : ∀ t v, look env t = some v → (∀ l, l ∈ late → l.d.si.dst ≠ some t) → Den M w σ v (a.tmps.getD t undef)
  heap : HSim M w σ B ks
  ownc : ∀ k b, (k, b) ∈ own ↔ ((k, b) ∈ B ∨ ∃ l, l ∈ late ∧ l.k.newk = some (k, b))
  ownnd : (own.map (·.1)).Nodup
  unborn : ∀ l, l ∈ late → ∀ k b, l.k.newk = some (k, b) → σ k = none ∧ k ∉ ks
  unb2 : ∀ l l', l ∈ late → l' ∈ late → ∀ k b b', l.k.newk = some (k, b) → l'.k.newk = some (k, b') → l.d.ix = l'.d.ix
  facts : ∀ l, l ∈ late → LOk P N ops env own l
  disj : ∀ l, l ∈ late → l.d.ix ∉ rest.map DI.ix
  kd1 : ∀ k, k ∈ ks → k ∈ ks0
  kd2 : ∀ l, l ∈ late → ∀ k b, l.k.newk = some (k, b) → k ∈ ks0
  kd3 : ∀ q, σ0 q = none → q ∉ ks0 → σ q = none
  kd4 : ∀ k, k ∈ own.map (·.1) → k ∈ Z
  kd5 : ∀ k, k ∈ ks0 → k ∈ Z
  u1 : ∀ d d', d ∈ pre → d' ∈ pre → d.isEff = false → ∀ t, d.si.dst = some t → t ∈ d'.si.uses → d.ix ∈ anc d'.ix
  dd : ∀ d d', d ∈ pre → d' ∈ pre → d.ix ≠ d'.ix → ∀ t, d.si.dst = some t → d'.si.dst ≠ some t

structure Static (ops : Array Oper) (anc : Nat → List Nat) : Prop where
  edge : ∀ i o, ops[i]? = some o → ∀ j, j ∈ edgesOf o → j < i
  anc : ∀ i o, ops[i]? = some o → ∀ e, e ∈ anc i → e ∈ edgesOf o ∨ ∃ j, j ∈ edgesOf o ∧ e ∈ anc j

theorem anc_listed {ops : Array Oper} {anc : Nat → List Nat} (st : Static ops anc) {listed : Array Bool} (hs : listed.size = ops.size)
    (closed : ∀ i o, ops[i]? = some o → listed.getD i true = true → ∀ j, j ∈ edgesOf o → listed.getD j false = true) :
    ∀ i o, ops[i]? = some o → (∀ j, j ∈ edgesOf o → listed.getD j false = true) → ∀ e, e ∈ anc i → listed.getD e false = true := by
  intro i
  induction i using Nat.strongRecOn with
  | _ i ih =>
    intro o ho he e hm
    rcases st.anc i o ho e hm with h | ⟨j, hj, hje⟩
    · exact he e h
    · have hlt := st.edge i o ho j hj
      have hi : i < ops.size := (Array.getElem?_eq_some_iff.1 ho).1
      have hjs : j < ops.size := by omega
      have hl := he j hj
      have hl' : listed.getD j true = true := by
        rw [Array.getD_eq_getD_getElem?, Array.getElem?_eq_getElem (by omega)] at hl ⊢
        simpa using hl
      exact ih j hlt ops[j] (by simp [hjs]) (closed j ops[j] (by simp [hjs]) hl') e hje

theorem getD_set {listed : Array Bool} {i j : Nat} {d : Bool} (h : i < listed.size) : (listed.setIfInBounds i true).getD j d = if i = j then true else listed.getD j d := by
  rw [Array.getD_eq_getD_getElem?, Array.getElem?_setIfInBounds]
  split
  · simp
  · rw [Array.getD_eq_getD_getElem?]

theorem ready_iff {ops : Array Oper} {listed : Array Bool} {i : Nat} : i ∈ Region.ready .any ops listed ↔ i < ops.size ∧ listed.getD i true = false ∧ ∃ o, ops[i]? = some o ∧ ∀ j, j ∈ edgesOf o → listed.getD j false = true := by
  unfold Region.ready
  simp only [List.mem_filter, List.mem_range, Bool.and_eq_true, Bool.not_eq_true']
  constructor
  · rintro ⟨h1, h2, h3⟩
    refine ⟨h1, h2, ops[i], by simp [h1], ?_⟩
    rw [Array.getElem?_eq_getElem h1] at h3
    simp only [Option.map_some, Option.getD_some] at h3
    intro j hj
    simp only [edgesOf, List.mem_map, List.mem_filter] at hj
    obtain ⟨e, ⟨he1, he2⟩, rfl⟩ := hj
    rw [Array.all_eq_true_iff_forall_mem] at h3
    have := h3 e (by simpa using he1)
    rw [he2] at this
    simpa using this
  · rintro ⟨h1, h2, o, ho, h3⟩
    refine ⟨h1, h2, ?_⟩
    rw [ho]
    simp only [Option.map_some, Option.getD_some]
    rw [Array.all_eq_true_iff_forall_mem]
    intro e he
    cases hb : Region.binds .any e with
    | false => rfl
    | true =>
      have := h3 e.on (by simp only [edgesOf, List.mem_map, List.mem_filter]; exact ⟨e, ⟨by simpa using he, hb⟩, rfl⟩)
      rw [this]; rfl


section
variable {P : Program} {N Bd : Nat} {ops : Array Oper} {anc : Nat → List Nat} {σ0 : Sg} {ks0 Z : List Nat} {pre rest : List DI} {late : List LT} {env : Env} {own : Own} {ks : List Nat} {B : Own} {M : Nat → Prop} {w : World} {σ : Sg} {a : Act} {listed : Array Bool}

/-- what a waiting operation uses has been made -/
theorem Inv.used (st : Static ops anc) (h : Inv P N Bd ops anc σ0 ks0 Z pre rest late env own ks B M w σ a listed) {l : LT} (hl : l ∈ late) {o : Oper} (ho : ops[l.d.ix]? = some o) (hr : ∀ j, j ∈ edgesOf o → listed.getD j false = true) :
    ∀ t, t ∈ l.d.si.uses → ∀ l', l' ∈ late → l'.d.si.dst ≠ some t := by
  intro t ht l' hl' hd
  have h1 := h.u1 l'.d l.d (h.sub l' hl').1 (h.sub l hl).1 (h.sub l' hl').2 t hd ht
  have h2 := anc_listed st h.lsize h.closed _ o ho hr _ h1
  have hlt : l'.d.ix < ops.size := by
    obtain ⟨o', ho', _⟩ := h.facts l' hl'
    exact (Array.getElem?_eq_some_iff.1 ho').1
  have h3 := (h.part _ hlt).2 (.inl (List.mem_map.2 ⟨l', hl', rfl⟩))
  have hs := h.lsize
  rw [Array.getD_eq_getD_getElem?, Array.getElem?_eq_getElem (by omega)] at h2 h3
  simp at h2 h3
  rw [h2] at h3
  cases h3

theorem wanted_guard {a : Act} {o : Oper} {env : Env} {M : Nat → Prop} {w : World} {σ : Sg} {si : SI} {run : Bool} (hc : cSI P N ops o = some si) (hg : GuardOk env si.guard run)
    (hd : ∀ t, t ∈ si.uses → ∀ v, look env t = some v → Den M w σ v (a.tmps.getD t undef)) : Region.wanted o (yielded ops a.tmps) = run := by
  obtain ⟨op, _, _, hgd⟩ := cSI_some hc
  rcases hgd with ⟨h1, rfl⟩ | ⟨j, b, t, h1, h2, rfl⟩
  · simp only [GuardOk] at hg
    subst hg
    simp [Region.wanted, h1]
  · rcases hg with ⟨bb, h3, h4⟩ | ⟨h4, us, h3⟩
    · have hden := hd t (by simp [SI.uses]) _ h3
      have hb : a.tmps.getD t undef = .bool bb := by
        generalize a.tmps.getD t undef = q at hden
        cases hden; rfl
      rw [wanted_of h1 h2 hb, h4]
    · have hden := hd t (by simp [SI.uses]) _ h3
      have hb : a.tmps.getD t undef = .tuple us := by
        generalize a.tmps.getD t undef = q at hden
        cases hden; rfl
      rw [wanted_off h1 h2 hb, h4]

theorem erase_mem {late : List LT} {l x : LT} : x ∈ late.filter (fun y => !Nat.beq y.d.ix l.d.ix) ↔ x ∈ late ∧ x.d.ix ≠ l.d.ix := by
  simp only [List.mem_filter, Bool.not_eq_true']
  constructor
  · rintro ⟨h1, h2⟩
    exact ⟨h1, fun e => by rw [e] at h2; simp at h2⟩
  · rintro ⟨h1, h2⟩
    refine ⟨h1, ?_⟩
    rw [← Bool.not_eq_true]
    exact fun h => h2 (Nat.eq_of_beq_eq_true h)

/-- a waiting operation has run -/
theorem Inv.ran (h : Inv P N Bd ops anc σ0 ks0 Z pre rest late env own ks B M w σ a listed) {l : LT} (hl : l ∈ late) {o : Oper} (ho : ops[l.d.ix]? = some o) (hdst : o.dst = l.d.si.dst) (hr : ∀ j, j ∈ edgesOf o → listed.getD j false = true)
    (hN : ∀ t, l.d.si.dst = some t → t < N) {M' : Nat → Prop} {w' : World} {σ' : Sg} {B' : Own} {u : Value} (hv : Den M' w' σ' l.k.val u) (hh : HSim M' w' σ' B' ks) (tr : Tr M w σ B M' w' σ' B')
    (hB : ∀ k b, (k, b) ∈ B' ↔ ((k, b) ∈ B ∨ l.k.newk = some (k, b))) (hσ : ∀ k, σ' k ≠ none → σ k ≠ none ∨ ∃ b, l.k.newk = some (k, b)) :
    Inv P N Bd ops anc σ0 ks0 Z pre rest (late.filter (fun y => !Nat.beq y.d.ix l.d.ix)) env own ks B' M' w' σ' (a.put o.dst u) (listed.setIfInBounds l.d.ix true) := by
  have hE := tr.ext h.heap.own
  have hlt : l.d.ix < ops.size := (Array.getElem?_eq_some_iff.1 ho).1
  have hls : l.d.ix < listed.size := by rw [h.lsize]; exact hlt
  have same : ∀ x, x ∈ late → x.d.ix = l.d.ix → x = l := by
    intro x hx e
    have := h.nd
    obtain ⟨i, hi⟩ := List.getElem?_of_mem hx
    obtain ⟨j, hj⟩ := List.getElem?_of_mem hl
    have hij : i = j := by
      have hi' := (List.getElem?_eq_some_iff.1 hi).1
      have hj' := (List.getElem?_eq_some_iff.1 hj).1
      refine (List.getElem_inj (xs := late.map (·.d.ix)) (h₀ := by simpa using hi') (h₁ := by simpa using hj') this).1 ?_
      simp only [List.getElem_map]
      rw [(List.getElem?_eq_some_iff.1 hi).2, (List.getElem?_eq_some_iff.1 hj).2]
      exact e
    subst hij
    rw [hi] at hj
    exact Option.some.inj hj
  refine ⟨?_, ?_, ?_, ?_, ?_, ?_, ?_, ?_, hh, ?_, h.ownnd, ?_, ?_, ?_, ?_, h.kd1, ?_, ?_, h.kd4, h.kd5, h.u1, h.dd⟩
  · cases o.dst <;> simp [Act.put, h.size]
  · have hd := h.defers.tr tr
    cases o.dst <;> exact hd
  · simp [h.lsize]
  · intro x hx; exact h.sub x (erase_mem.1 hx).1
  · exact h.nd.sublist (List.Sublist.map _ (List.filter_sublist))
  · intro i hi
    rw [getD_set hls]
    by_cases e : l.d.ix = i
    · subst e
      rw [if_pos rfl]
      constructor
      · intro hh; cases hh
      · intro hh
        exfalso
        rcases hh with hh | hh
        · obtain ⟨x, hx, e⟩ := List.mem_map.1 hh
          exact (erase_mem.1 hx).2 e
        · exact h.disj l hl hh
    · rw [if_neg e, h.part i hi]
      constructor
      · rintro (hm | hm)
        · obtain ⟨x, hx, e'⟩ := List.mem_map.1 hm
          exact .inl (List.mem_map.2 ⟨x, erase_mem.2 ⟨hx, fun e'' => e (by rw [← e'', e'])⟩, e'⟩)
        · exact .inr hm
      · rintro (hm | hm)
        · obtain ⟨x, hx, e'⟩ := List.mem_map.1 hm
          exact .inl (List.mem_map.2 ⟨x, (erase_mem.1 hx).1, e'⟩)
        · exact .inr hm
  · intro i o' ho' hi j hj
    rw [getD_set hls] at hi ⊢
    by_cases ej : l.d.ix = j
    · rw [if_pos ej]
    · rw [if_neg ej]
      by_cases e : l.d.ix = i
      · subst e
        rw [ho] at ho'
        cases ho'
        exact hr j hj
      · rw [if_neg e] at hi
        exact h.closed i o' ho' hi j hj
  · intro t v hv' hnl
    by_cases e : l.d.si.dst = some t
    · obtain ⟨o', ho', _, h3, _⟩ := h.facts l hl
      have := h3 t e
      rw [this] at hv'
      cases hv'
      rw [hdst, e]
      have ht : t < a.tmps.size := by rw [h.size]; exact hN t e
      simpa [Act.put, Array.getD, ht] using hv
    · have hold := h.envd t v hv' (fun x hx => by
        by_cases ex : x.d.ix = l.d.ix
        · rw [same x hx ex]; exact e
        · exact hnl x (erase_mem.2 ⟨hx, ex⟩))
      have he : (a.put o.dst u).tmps.getD t undef = a.tmps.getD t undef := by
        rw [hdst]
        cases hd : l.d.si.dst with
        | none => rfl
        | some t' =>
          have hne : t' ≠ t := fun e' => e (by rw [hd, e'])
          simp only [Act.put, Array.getD_eq_getD_getElem?, Array.getElem?_setIfInBounds, if_neg hne]
      rw [he]
      exact hold.mono hE tr.le
  · intro k b
    rw [h.ownc, hB]
    constructor
    · rintro (hm | ⟨x, hx, hk⟩)
      · exact .inl (.inl hm)
      · by_cases ex : x.d.ix = l.d.ix
        · rw [same x hx ex] at hk; exact .inl (.inr hk)
        · exact .inr ⟨x, erase_mem.2 ⟨hx, ex⟩, hk⟩
    · rintro ((hm | hk) | ⟨x, hx, hk⟩)
      · exact .inl hm
      · exact .inr ⟨l, hl, hk⟩
      · exact .inr ⟨x, (erase_mem.1 hx).1, hk⟩
  · intro x hx k b hk
    obtain ⟨hx1, hx2⟩ := erase_mem.1 hx
    obtain ⟨q1, q2⟩ := h.unborn x hx1 k b hk
    refine ⟨?_, q2⟩
    cases hs : σ' k with
    | none => rfl
    | some y =>
      exfalso
      rcases hσ k (by rw [hs]; simp) with hn | ⟨b', hk'⟩
      · exact hn q1
      · exact hx2 (h.unb2 x l hx1 hl k b b' hk hk')
  · intro x x' hx hx' k b b' hk hk'
    exact h.unb2 x x' (erase_mem.1 hx).1 (erase_mem.1 hx').1 k b b' hk hk'
  · intro x hx
    exact h.facts x (erase_mem.1 hx).1
  · intro x hx
    exact h.disj x (erase_mem.1 hx).1
  · intro x hx
    exact h.kd2 x (erase_mem.1 hx).1
  · intro q h1 h2
    cases hs : σ' q with
    | none => rfl
    | some y =>
      exfalso
      rcases hσ q (by rw [hs]; simp) with hn | ⟨b', hk'⟩
      · exact hn (h.kd3 q h1 h2)
      · exact h2 (h.kd2 l hl q b' hk')
end


section
variable {P : Program} {N Bd : Nat} {ops : Array Oper} {anc : Nat → List Nat} {σ0 : Sg} {ks0 Z : List Nat} {pre rest : List DI} {late : List LT} {env : Env} {own : Own} {ks : List Nat} {B : Own} {M : Nat → Prop} {w : World} {σ : Sg} {a : Act} {listed : Array Bool}

theorem wpOp_run {r : Option Nat} {Q : Exit → Act → World → Prop} {K : Act → World → Prop} {i : Nat} {o : Oper} (ho : ops[i]? = some o) (hw : Region.wanted o (yielded ops a.tmps) = true) (h : o.wpIn (FR r) 0 P a w K Q) : wpOpIn (FR r) 0 P ops Q i K a w := by
  unfold wpOpIn
  rw [ho]
  simp only [hw, if_true]
  exact h

theorem wpOp_skip {r : Option Nat} {Q : Exit → Act → World → Prop} {K : Act → World → Prop} {i : Nat} {o : Oper} (ho : ops[i]? = some o) (hw : Region.wanted o (yielded ops a.tmps) = false) (h : K (a.put o.dst undef) w) : wpOpIn (FR r) 0 P ops Q i K a w := by
  unfold wpOpIn
  rw [ho]
  simp only [hw]
  exact ⟨fun _ _ => trivial, h⟩

theorem Inv.late_step (ro : Option Nat) (st : Static ops anc) (h : Inv P N Bd ops anc σ0 ks0 Z pre rest late env own ks B M w σ a listed) {l : LT} (hl : l ∈ late) {o : Oper} (ho : ops[l.d.ix]? = some o) (hr : ∀ j, j ∈ edgesOf o → listed.getD j false = true)
    {Q : Exit → Act → World → Prop} {K : Act → World → Prop}
    (hK : ∀ B' M' w' σ' a', Inv P N Bd ops anc σ0 ks0 Z pre rest (late.filter (fun y => !Nat.beq y.d.ix l.d.ix)) env own ks B' M' w' σ' a' (listed.setIfInBounds l.d.ix true) → Tr M w σ B M' w' σ' B' → K a' w') :
    wpOpIn (FR ro) 0 P ops Q l.d.ix K a w := by
  obtain ⟨o', ho', hc, hval, hk⟩ := h.facts l hl
  rw [ho] at ho'
  cases ho'
  obtain ⟨sop, hsop, hN, hgd⟩ := cSI_some hc
  have hdst : o.dst = l.d.si.dst := by rcases hgd with ⟨_, e⟩ | ⟨_, _, _, _, _, e⟩ <;> rw [e]
  have hop : sop = l.d.si.op := by rcases hgd with ⟨_, e⟩ | ⟨_, _, _, _, _, e⟩ <;> rw [e]
  subst hop
  have hN' : ∀ t, l.d.si.dst = some t → t < N := fun t ht => hN t (by rw [hdst]; exact ht)
  have hu := h.used st hl ho hr
  have hden : ∀ t, t ∈ l.d.si.uses → ∀ v, look env t = some v → Den M w σ v (a.tmps.getD t undef) := fun t ht v hv => h.envd t v hv (hu t ht)
  have ok : ∀ x, x ∈ l.d.si.op.xs → XOk M w σ env a x := fun x hx n e v hv => hden n (by simp only [SI.uses, List.mem_append]; exact .inl (tmpsOf_mem (e ▸ hx))) v hv
  cases hlk : l.k with
  | pure v =>
    rw [hlk] at hk
    obtain ⟨g, pf⟩ := hk
    refine wpOp_run ho (wanted_guard hc g hden) (wpIn_of_wp ro (cOp_nodefer hsop) (wp_pfact pf ok fun u hu' => ?_))
    refine hK B M w σ _ (h.ran hl ho hdst hr hN' (u := u) (by rw [hlk]; exact hu') h.heap (Tr.refl _ _ _ _) (fun k b => by rw [hlk]; simp [LK.newk]) (fun k hk => .inl hk)) (Tr.refl _ _ _ _)
  | load t n z p v =>
    rw [hlk] at hk
    obtain ⟨g, e1, e2, e3, e4, lf, _⟩ := hk
    have hp : Den M w σ p (a.tmps.getD n undef) := hden n (by simp only [SI.uses, List.mem_append, e1]; exact .inl (by simp [SOp.xs, tmpsOf])) p e4
    have hsome : ∀ k, p.readKey = some k → σ k ≠ none := by
      intro k hk hn
      generalize a.tmps.getD n undef = q at hp
      cases hp <;> simp only [V.readKey, Option.some.injEq, reduceCtorEq] at hk <;> (subst hk; rename_i hh; rw [hn] at hh; cases hh)
    obtain ⟨r, r1, r2⟩ := lf M w σ _ hp (fun k b hk hlook => by
      rcases (h.ownc k b).1 (look_mem hlook) with hB | ⟨x, hx, hxk⟩
      · exact h.heap.own.blk k b hB
      · exact (hsome k hk (h.unborn x hx k b hxk).1).elim)
    have hrun : (execOp a.eval o).run P w = .ok (.value r) w := by
      obtain ⟨dst, op, type, pos, after, guard⟩ := o
      simp only at e2
      subst e2
      exact run_v r1
    refine wpOp_run ho (wanted_guard hc g hden) (wpIn_of_wp ro (cOp_nodefer hsop) (wp_value hrun ?_))
    refine hK B M w σ _ (h.ran hl ho hdst hr hN' (u := r) (by rw [hlk]; exact r2) h.heap (Tr.refl _ _ _ _) (fun k b => by rw [hlk]; simp [LK.newk]) (fun k hk => .inl hk)) (Tr.refl _ _ _ _)
  | new k b v =>
    rw [hlk] at hk
    obtain ⟨g, af, _, _⟩ := hk
    obtain ⟨hσk, hks⟩ := h.unborn l hl k b (by rw [hlk]; rfl)
    have hh : HSim M w σ B (k :: ks) := ⟨h.heap.own, fun q hq => by rcases List.mem_cons.1 hq with e | e; (subst e; exact hσk); exact h.heap.fresh q e, List.nodup_cons.2 ⟨hks, h.heap.knodup⟩⟩
    obtain ⟨u, w', M', σ', r1, r2, r3, r4, _, r5⟩ := af M w σ a B ks ok hh
    refine wpOp_run ho (wanted_guard hc g hden) (wpIn_of_wp ro (cOp_nodefer hsop) (wp_value r1 ?_))
    refine hK _ M' w' σ' _ (h.ran hl ho hdst hr hN' (u := u) (by rw [hlk]; exact r4) r2 r3 (fun q c => by rw [hlk]; simp only [LK.newk, List.mem_cons, Option.some.injEq, Prod.mk.injEq]; constructor; (rintro (x | x); exact .inr ⟨x.1.symm, x.2.symm⟩; exact .inl x); (rintro (x | x); exact .inr x; exact .inl ⟨x.1.symm, x.2.symm⟩)) (fun q hq => ?_)) r3
    · by_cases e : σ q = none
      · right
        rw [hlk]
        by_cases eq : q = k
        · subst eq; exact ⟨b, rfl⟩
        · exfalso
          by_cases em : q ∈ ks
          · exact hq (r2.fresh q em)
          · exact hq (r5.2.1 q e (by simp [eq, em]))
      · exact .inl e
  | skip =>
    rw [hlk] at hk
    refine wpOp_skip ho (wanted_guard hc hk hden) ?_
    refine hK B M w σ _ (h.ran hl ho hdst hr hN' (u := undef) (by rw [hlk]; exact .raw _ _) h.heap (Tr.refl _ _ _ _) (fun k b => by rw [hlk]; simp [LK.newk]) (fun k hk => .inl hk)) (Tr.refl _ _ _ _)
end


section
variable {P : Program} {N Bd : Nat} {ops : Array Oper} {anc : Nat → List Nat} {σ0 : Sg} {ks0 Z : List Nat} {pre post : List DI} {late : List LT} {env : Env} {own : Own} {ks : List Nat} {B : Own} {M : Nat → Prop} {w : World} {σ : Sg} {a : Act} {listed : Array Bool}

theorem look_none_of {own : Own} {k : Nat} (h : ∀ b, (k, b) ∉ own) : look own k = none := by
  cases hl : look own k with
  | none => rfl
  | some b => exact (h b (look_mem hl)).elim

/-- a new waiting operation -/
theorem Inv.push {si : SI} {ix : Nat} (hc : Cond anc pre (.op ix si) post) (hix : ix ∉ post.map DI.ix) (h : Inv P N Bd ops anc σ0 ks0 Z pre (.op ix si :: post) late env own ks B M w σ a listed) (lk : LK)
    (own' : Own) (ks' : List Nat) (hf : LOk P N ops (putE env si.dst lk.val) own' ⟨.op ix si, lk⟩)
    (hnew : (lk.newk = none ∧ own' = own ∧ ks' = ks) ∨ ∃ k b, lk.newk = some (k, b) ∧ ks = k :: ks' ∧ own' = (k, b) :: own) :
    Inv P N Bd ops anc σ0 ks0 Z (pre ++ [.op ix si]) post (⟨.op ix si, lk⟩ :: late) (putE env si.dst lk.val) own' ks' B M w σ a listed := by
  have hnotin : ∀ k, k ∈ ks → ∀ b, (k, b) ∉ own := fun k hk b hm => by
    rcases (h.ownc k b).1 hm with hB | ⟨x, hx, hxk⟩
    · obtain ⟨y, hy⟩ := h.heap.own.key hB
      rw [h.heap.fresh k hk] at hy; cases hy
    · exact (h.unborn x hx k b hxk).2 hk
  have hlook : ∀ t, si.dst ≠ some t → look (putE env si.dst lk.val) t = look env t := by
    intro t ht
    unfold putE
    split
    · rename_i t' e
      exact look_cons_ne (fun e' => ht (by rw [e, e']))
    · rfl
  refine ⟨h.size, h.defers, h.lsize, ?_, ?_, ?_, h.closed, ?_, ?_, ?_, ?_, ?_, ?_, ?_, ?_, ?_, ?_, h.kd3, ?_, h.kd5, ?_, ?_⟩
  · intro l hl
    rcases List.mem_cons.1 hl with e | hl
    · subst e; exact ⟨by simp, rfl⟩
    · exact ⟨List.mem_append_left _ (h.sub l hl).1, (h.sub l hl).2⟩
  · simp only [List.map_cons, List.nodup_cons]
    refine ⟨fun hm => ?_, h.nd⟩
    obtain ⟨l, hl, e⟩ := List.mem_map.1 hm
    exact h.disj l hl (by rw [e]; simp [DI.ix])
  · intro i hi
    rw [h.part i hi]
    simp only [List.map_cons, List.mem_cons, DI.ix]
    constructor
    · rintro (x | x | x)
      · exact .inl (.inr x)
      · exact .inl (.inl x)
      · exact .inr x
    · rintro ((x | x) | x)
      · exact .inr (.inl x)
      · exact .inl x
      · exact .inr (.inr x)
  · intro t v hv hnl
    have hne : si.dst ≠ some t := hnl ⟨.op ix si, lk⟩ (by simp)
    rw [hlook t hne] at hv
    exact h.envd t v hv fun l hl => hnl l (by simp [hl])
  · rcases hnew with ⟨_, _, e⟩ | ⟨k, b, _, e, _⟩
    · rw [e]; exact h.heap
    · have hh := h.heap
      rw [e] at hh
      exact ⟨hh.own, fun q hq => hh.fresh q (by simp [hq]), (List.nodup_cons.1 hh.knodup).2⟩
  · intro k b
    rcases hnew with ⟨e1, e2, _⟩ | ⟨k', b', e1, _, e2⟩
    · rw [e2, h.ownc]
      constructor
      · rintro (x | ⟨l, hl, x⟩)
        · exact .inl x
        · exact .inr ⟨l, by simp [hl], x⟩
      · rintro (x | ⟨l, hl, x⟩)
        · exact .inl x
        · rcases List.mem_cons.1 hl with e | hl
          · subst e; rw [e1] at x; cases x
          · exact .inr ⟨l, hl, x⟩
    · rw [e2, List.mem_cons, h.ownc]
      constructor
      · rintro (x | x | ⟨l, hl, x⟩)
        · cases x; exact .inr ⟨⟨.op ix si, lk⟩, by simp, e1⟩
        · exact .inl x
        · exact .inr ⟨l, by simp [hl], x⟩
      · rintro (x | ⟨l, hl, x⟩)
        · exact .inr (.inl x)
        · rcases List.mem_cons.1 hl with e | hl
          · subst e; rw [e1] at x; cases x; exact .inl rfl
          · exact .inr (.inr ⟨l, hl, x⟩)
  · rcases hnew with ⟨_, e, _⟩ | ⟨k, b, _, e1, e2⟩
    · rw [e]; exact h.ownnd
    · rw [e2]
      simp only [List.map_cons, List.nodup_cons]
      refine ⟨fun hm => ?_, h.ownnd⟩
      obtain ⟨⟨q, c⟩, hq, e⟩ := List.mem_map.1 hm
      simp only at e
      subst e
      exact hnotin q (by rw [e1]; simp) c hq
  · intro l hl k b hk
    have hsub : ∀ q, q ∈ ks' → q ∈ ks := by
      rcases hnew with ⟨_, _, e⟩ | ⟨_, _, _, e, _⟩
      · rw [e]; exact fun _ x => x
      · rw [e]; exact fun _ x => List.mem_cons_of_mem _ x
    rcases List.mem_cons.1 hl with e | hl
    · subst e
      rcases hnew with ⟨e1, _, _⟩ | ⟨k', b', e1, e2, _⟩
      · rw [e1] at hk; cases hk
      · rw [e1] at hk; cases hk
        have hh := h.heap
        rw [e2] at hh
        exact ⟨hh.fresh k (by simp), (List.nodup_cons.1 hh.knodup).1⟩
    · obtain ⟨q1, q2⟩ := h.unborn l hl k b hk
      exact ⟨q1, fun x => q2 (hsub k x)⟩
  · intro l l' hl hl' k b b' hk hk'
    have cross : ∀ x, x ∈ late → ∀ c c', x.k.newk = some (k, c) → lk.newk = some (k, c') → False := by
      intro x hx c c' hxk hlk
      rcases hnew with ⟨e1, _, _⟩ | ⟨k', b', e1, e2, _⟩
      · rw [e1] at hlk; cases hlk
      · rw [e1] at hlk; cases hlk
        exact (h.unborn x hx k c hxk).2 (by rw [e2]; simp)
    rcases List.mem_cons.1 hl with e | hl
    · subst e
      rcases List.mem_cons.1 hl' with e' | hl'
      · subst e'; rfl
      · exact (cross l' hl' b' b hk' hk).elim
    · rcases List.mem_cons.1 hl' with e' | hl'
      · subst e'; exact (cross l hl b b' hk hk').elim
      · exact h.unb2 l l' hl hl' k b b' hk hk'
  · intro l hl
    rcases List.mem_cons.1 hl with e | hl
    · subst e; exact hf
    · refine (h.facts l hl).ext ?_ ?_ ?_
      · intro n hn
        refine hlook n fun e => ?_
        have := (hc.reads n e l.d (h.sub l hl).1 hn).1
        cases this
      · intro t ht
        refine hlook t fun e => ?_
        exact hc.dst t e l.d (h.sub l hl).1 ht
      · intro t n z p v _ _ _ lf
        rcases hnew with ⟨_, e, _⟩ | ⟨k, b, _, e1, e2⟩
        · rw [e]; exact lf
        · rw [e2]
          intro M1 w1 σ1 u hd hb
          refine lf M1 w1 σ1 u hd fun q c hq hlk => hb q c hq ?_
          have hne : k ≠ q := fun e => by
            subst e
            exact hnotin k (by rw [e1]; simp) c (look_mem hlk)
          have hbq : Nat.beq k q = false := by
            rw [← Bool.not_eq_true]
            exact fun hh => hne (Nat.eq_of_beq_eq_true hh)
          show (match Nat.beq k q with | true => some b | false => look own q) = _
          rw [hbq]
          exact hlk
  · intro l hl
    rcases List.mem_cons.1 hl with e | hl
    · subst e; exact hix
    · exact fun x => h.disj l hl (by simp [x])
  · intro k hk
    refine h.kd1 k ?_
    rcases hnew with ⟨_, _, e⟩ | ⟨_, _, _, e, _⟩
    · rw [e] at hk; exact hk
    · rw [e]; exact List.mem_cons_of_mem _ hk
  · intro l hl k b hk
    rcases List.mem_cons.1 hl with e | hl
    · subst e
      rcases hnew with ⟨e1, _, _⟩ | ⟨k', b', e1, e2, _⟩
      · rw [e1] at hk; cases hk
      · rw [e1] at hk; cases hk
        exact h.kd1 k (by rw [e2]; simp)
    · exact h.kd2 l hl k b hk
  · intro k hk
    rcases hnew with ⟨_, e, _⟩ | ⟨k', b, _, e1, e2⟩
    · rw [e] at hk; exact h.kd4 k hk
    · rw [e2] at hk
      simp only [List.map_cons, List.mem_cons] at hk
      rcases hk with e | e
      · subst e; exact h.kd5 _ (h.kd1 _ (by rw [e1]; simp))
      · exact h.kd4 k e
  · intro d d' hd hd' he t ht hu
    rcases List.mem_append.1 hd with hd | hd
    · rcases List.mem_append.1 hd' with hd' | hd'
      · exact h.u1 d d' hd hd' he t ht hu
      · simp only [List.mem_singleton] at hd'
        subst hd'
        exact hc.uses d hd he t ht hu
    · simp only [List.mem_singleton] at hd
      subst hd
      rcases List.mem_append.1 hd' with hd' | hd'
      · have := (hc.reads t ht d' hd' hu).1
        cases this
      · simp only [List.mem_singleton] at hd'
        subst hd'
        exact (hc.self t ht rfl hu).elim
  · intro d d' hd hd' hne t ht ht'
    rcases List.mem_append.1 hd with hd | hd
    · rcases List.mem_append.1 hd' with hd' | hd'
      · exact h.dd d d' hd hd' hne t ht ht'
      · simp only [List.mem_singleton] at hd'
        subst hd'
        exact hc.dst t ht' d hd ht
    · simp only [List.mem_singleton] at hd
      subst hd
      rcases List.mem_append.1 hd' with hd' | hd'
      · exact hc.dst t ht d' hd' ht'
      · simp only [List.mem_singleton] at hd'
        subst hd'
        exact hne rfl

theorem guardK_sound {env : Env} {g : Option (Nat × Bool)} {A C : Prop} (h : guardK env g A C) : (GuardOk env g true ∧ A) ∨ (GuardOk env g false ∧ C) := by
  unfold guardK at h
  split at h
  · exact .inl ⟨rfl, h⟩
  · rename_i t want
    split at h
    · rename_i b hb
      split at h
      · rename_i hx
        exact .inl ⟨.inl ⟨b, hb, by revert hx; cases b <;> cases want <;> decide⟩, h⟩
      · rename_i hx
        exact .inr ⟨.inl ⟨b, hb, by revert hx; cases b <;> cases want <;> decide⟩, h⟩
    · rename_i us hb
      exact .inr ⟨.inr ⟨rfl, us, hb⟩, h⟩
    · exact h.elim

theorem vdraw_next {P : Program} {post : List DI} {env : Env} {d : Option Nat} {v : V} {own : Own} {ks : List Nat} {K : Env → Own → List Nat → Prop}
    (h : match d with | some t => vdraw P post ((t, v) :: env) own ks K | none => vdraw P post env own ks K) : vdraw P post (putE env d v) own ks K := by
  unfold putE
  cases d <;> exact h

theorem Inv.absorb {si : SI} {ix : Nat} {o : Oper} (ho : ops[ix]? = some o) (hsi : cSI P N ops o = some si) (hc : Cond anc pre (.op ix si) post) (hix : ix ∉ post.map DI.ix)
    (h : Inv P N Bd ops anc σ0 ks0 Z pre (.op ix si :: post) late env own ks B M w σ a listed) {K : Env → Own → List Nat → Prop} (hv : vdraw P (.op ix si :: post) env own ks K) :
    ∃ lk env' own' ks', Inv P N Bd ops anc σ0 ks0 Z (pre ++ [.op ix si]) post (⟨.op ix si, lk⟩ :: late) env' own' ks' B M w σ a listed ∧ vdraw P post env' own' ks' K := by
  obtain ⟨d, op, g⟩ := si
  obtain ⟨sop, hsop, hN, hgd⟩ := cSI_some hsi
  have hdst : o.dst = d := by rcases hgd with ⟨_, e⟩ | ⟨_, _, _, _, _, e⟩ <;> (cases e; rfl)
  have hop : sop = op := by rcases hgd with ⟨_, e⟩ | ⟨_, _, _, _, _, e⟩ <;> (cases e; rfl)
  subst hop
  obtain ⟨c1, c2, c3⟩ := hc.op rfl
  have hself : ∀ n, n ∈ SI.uses ⟨d, sop, g⟩ → ∀ v, look (putE env d v) n = look env n := by
    intro n hn v
    unfold putE
    split
    · rename_i t
      refine look_cons_ne fun e => ?_
      subst e
      exact hc.self t rfl rfl hn
    · rfl
  have hx : ∀ n, n ∈ tmpsOf sop.xs → ∀ v, look (putE env d v) n = look env n := fun n hn => hself n (by simp [SI.uses, hn])
  have hg : ∀ run v, GuardOk env g run → GuardOk (putE env d v) g run := fun run v hh => hh.ext fun t b e => hself t (by simp [SI.uses, e]) v
  have hval : ∀ v t, d = some t → look (putE env d v) t = some v := by
    intro v t e
    subst e
    exact look_cons_eq
  rcases guardK_sound hv with ⟨gk, hv⟩ | ⟨gk, hv⟩
  · by_cases hn : sop.isNew = true
    · obtain ⟨k, ks', b, v, rfl, hK, af, hvv⟩ := new_sound hsop hn hv
      refine ⟨_, _, _, _, h.push hc hix (.new k b v) ((k, b) :: own) ks' ⟨o, ho, hsi, fun t ht => hval v t ht, hg _ v gk, af.ext fun n hn => hx n hn v, ?_, hn⟩ (.inr ⟨k, b, rfl, rfl, rfl⟩), vdraw_next hK⟩
      rcases hvv with e | ⟨_, _, e⟩ | e <;> (rw [e]; rfl)
    · by_cases hl : ∃ z x, sop = .load z x
      · obtain ⟨z, x, rfl⟩ := hl
        obtain ⟨n, rfl⟩ := c3 z x rfl
        obtain ⟨t, x0, p, v, e1, e2, hK, hget, hp, lf, hnr⟩ := load_sound hsop hv
        have hx0 : x0 = .tmp n ∧ look env n = some p := by
          have hw := cOp_was hsop
          rw [e1] at hw
          cases hw with
          | load _ _ _ _ _ hcx =>
            cases x0 with
            | tmp m =>
              simp only [cX, Option.some.injEq, X.t.injEq] at hcx
              subst hcx
              refine ⟨rfl, ?_⟩
              simp only [X.get] at hget
              split at hget
              · rename_i q hq; rw [hq, hget]
              · exact hget.elim
            | const c => simp only [cX, Option.map_eq_some_iff] at hcx; obtain ⟨_, _, hh⟩ := hcx; cases hh
            | global g => cases hcx
            | func f => simp [cX] at hcx
        obtain ⟨rfl, hlk⟩ := hx0
        refine ⟨_, _, _, _, h.push hc hix (.load t n z p v) own ks ⟨o, ho, hsi, fun t ht => hval v t ht, hg _ v gk, rfl, e1, e2, ?_, lf, hnr⟩ (.inl ⟨rfl, rfl, rfl⟩), vdraw_next hK⟩
        rw [hx n (by simp [SOp.xs, tmpsOf])]
        exact hlk
      · obtain ⟨v, hK, pf⟩ := pure_sound hsop (by simpa using hn) c1 (fun z x e => hl ⟨z, x, e⟩) hv
        exact ⟨_, _, _, _, h.push hc hix (.pure v) own ks ⟨o, ho, hsi, fun t ht => hval v t ht, hg _ v gk, pf.ext fun n hn => hx n hn v⟩ (.inl ⟨rfl, rfl, rfl⟩), vdraw_next hK⟩
  · exact ⟨_, _, _, _, h.push hc hix .skip own ks ⟨o, ho, hsi, fun t ht => hval _ t ht, hg _ _ gk⟩ (.inl ⟨rfl, rfl, rfl⟩), vdraw_next hv⟩
end

end Go.Eng
