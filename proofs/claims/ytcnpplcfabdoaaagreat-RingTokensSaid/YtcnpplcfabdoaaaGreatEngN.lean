/-
  The engine, part N: states seen with other names of blocks; calls that hand back new memory.
-/
import Derived.Test.YtcnpplcfabdoaaaGreatEngM
namespace Go.Eng

/-! ## other names -/

/-- target key, and the key that it had; none: an empty slice of nothing -/
abbrev Rn := List (Nat × Option Nat)

def TS (ρ : Rn) (σ τ : Sg) : Prop := ∀ k o, look ρ k = some o → match o with
  | some k' => τ k = σ k'
  | none => τ k = some (none, 0, 0)

structure VRen (ρ : Rn) (v v' : V) : Prop where
  out : ∀ M w σ τ u, TS ρ σ τ → Den M w σ v u → Den M w τ v' u

theorem VRen.kf {ρ : Rn} {v : V} (h : v.kf = true) : VRen ρ v v := ⟨fun _ _ _ τ _ _ hd => hd.kf h τ⟩
theorem VRen.int {ρ : Rn} {k : IntKind} {a b : Int} (h : a = b) : VRen ρ (.int k a) (.int k b) := by
  subst h; exact .kf rfl
theorem VRen.bool {ρ : Rn} {a b : Bool} (h : a = b) : VRen ρ (.bool a) (.bool b) := by
  subst h; exact .kf rfl
theorem VRen.top {ρ : Rn} {v : V} : VRen ρ v .top := ⟨fun _ _ _ _ _ _ _ => .top _ _⟩
theorem VRen.loc {ρ : Rn} {k k' o : Nat} (h : look ρ k = some (some k')) : VRen ρ (.loc k' o) (.loc k o) :=
  ⟨fun M w σ τ u hts hd => by
    cases hd with
    | loc _ _ _ b base κ hk => exact .loc _ _ _ _ _ _ ((hts k _ h).trans hk)⟩
theorem VRen.oel {ρ : Rn} {k k' s i j i' : Nat} (h : look ρ k = some (some k')) (hi : i = i') : VRen ρ (.oel k' s i j) (.oel k s i' j) :=
  ⟨fun M w σ τ u hts hd => by
    subst hi
    cases hd with
    | oel _ _ _ _ _ b base κ hk => exact .oel _ _ _ _ _ _ _ _ ((hts k _ h).trans hk)⟩
theorem VRen.map {ρ : Rn} {k k' : Nat} (h : look ρ k = some (some k')) : VRen ρ (.map k') (.map k) :=
  ⟨fun M w σ τ u hts hd => by
    cases hd with
    | map _ _ b base κ hk => exact .map _ _ _ _ _ ((hts k _ h).trans hk)⟩
theorem VRen.yld {ρ : Rn} {k k' : Nat} (h : look ρ k = some (some k')) : VRen ρ (.yld k') (.yld k) :=
  ⟨fun M w σ τ u hts hd => by
    cases hd with
    | yld _ _ b base κ hk => exact .yld _ _ _ _ _ ((hts k _ h).trans hk)⟩
theorem VRen.vec {ρ : Rn} {k k' s lo len lo' len' : Nat} (h : look ρ k = some (some k')) (h1 : lo = lo') (h2 : len = len') : VRen ρ (.vec k' s lo len) (.vec k s lo' len') :=
  ⟨fun M w σ τ u hts hd => by
    subst h1 h2
    cases hd with
    | vec _ _ _ _ _ bo base κ c a hk hc hl ha => exact .vec _ _ _ _ _ _ _ _ _ _ ((hts k _ h).trans hk) hc hl ha⟩
theorem VRen.nil {ρ : Rn} {k s len : Nat} (h : look ρ k = some none) (hl : len = 0) : VRen ρ .nilslice (.vec k s 0 len) :=
  ⟨fun M w σ τ u hts hd => by
    subst hl
    cases hd
    exact .vec _ _ _ _ _ none 0 0 0 none (hts k _ h) rfl (Nat.le_refl _) (fun h => absurd h (Nat.lt_irrefl _))⟩
theorem VRen.nilfz {ρ : Rn} {s n : Nat} {f : Nat → Nat → V} (hn : n = 0) : VRen ρ .nilslice (.fz n s false f) :=
  ⟨fun M w σ τ u _ hd => by
    subst hn
    cases hd
    exact .fz0 _ _ _ _ _ _ (by simp)⟩

def LRen (ρ : Rn) : List V → List V → Prop
  | [], [] => True
  | v :: r, v' :: r' => VRen ρ v v' ∧ LRen ρ r r'
  | _, _ => False

theorem LRen.out {ρ : Rn} : ∀ {cs cs' : List V}, LRen ρ cs cs' → cs'.length = cs.length ∧ ∀ (i : Nat) (v v' : V), cs[i]? = some v → cs'[i]? = some v' → VRen ρ v v'
  | [], [], _ => ⟨rfl, fun i v v' h => by simp at h⟩
  | v :: r, v' :: r', h => by
    obtain ⟨l, hr⟩ := LRen.out h.2
    refine ⟨by simp [l], fun i x x' hx hx' => ?_⟩
    cases i with
    | zero => simp at hx hx'; subst hx hx'; exact h.1
    | succ i => exact hr i x x' (by simpa using hx) (by simpa using hx')
  | [], _ :: _, h => h.elim
  | _ :: _, [], h => h.elim

theorem LRen.den {ρ : Rn} {cs cs' : List V} (h : LRen ρ cs cs') {M : Nat → Prop} {w : World} {σ τ : Sg} {us : List Value} (hts : TS ρ σ τ) (hl : cs.length = us.length)
    (hd : ∀ (i : Nat) (v : V) (u : Value), cs[i]? = some v → us[i]? = some u → Den M w σ v u) :
    cs'.length = us.length ∧ ∀ (i : Nat) (v : V) (u : Value), cs'[i]? = some v → us[i]? = some u → Den M w τ v u := by
  obtain ⟨l, hr⟩ := h.out
  refine ⟨by omega, fun i v u hv hu => ?_⟩
  have hi : i < cs.length := by rw [← l]; exact (List.getElem?_eq_some_iff.1 hv).1
  exact (hr i cs[i] v (by simp [hi]) hv).out M w σ τ u hts (hd i cs[i] u (by simp [hi]) hu)

theorem VRen.agg {ρ : Rn} {cs cs' : List V} (h : LRen ρ cs cs') : VRen ρ (.agg cs) (.agg cs') :=
  ⟨fun M w σ τ u hts hd => by
    cases hd with | agg _ _ us hl hd => obtain ⟨a, b⟩ := h.den hts hl hd; exact .agg _ _ _ a b⟩
theorem VRen.tup {ρ : Rn} {cs cs' : List V} (h : LRen ρ cs cs') : VRen ρ (.tup cs) (.tup cs') :=
  ⟨fun M w σ τ u hts hd => by
    cases hd with | tup _ _ us hl hd => obtain ⟨a, b⟩ := h.den hts hl hd; exact .tup _ _ _ a b⟩
theorem VRen.fn {ρ : Rn} {f : Fn} {b : Bool} {cs cs' : List V} (h : LRen ρ cs cs') : VRen ρ (.fn f b cs) (.fn f b cs') :=
  ⟨fun M w σ τ u hts hd => by
    cases hd with | fn _ _ _ _ us hl hd => obtain ⟨a, b⟩ := h.den hts hl hd; exact .fn _ _ _ _ _ a b⟩

/-- elements of frozen slices: no names -/
structure VLe (v v' : V) : Prop where
  out : ∀ M w u, Den M w Sg.none v u → Den M w Sg.none v' u
theorem VLe.rfl {v : V} : VLe v v := ⟨fun _ _ _ h => h⟩
theorem VLe.of_eq {v v' : V} (h : v = v') : VLe v v' := by subst h; exact .rfl
theorem VLe.trans {a b c : V} (h : VLe a b) (h' : VLe b c) : VLe a c := ⟨fun M w u hd => h'.out M w u (h.out M w u hd)⟩

theorem VLe.fz {n n' s : Nat} {full full' : Bool} {f f' : Nat → Nat → V} (hn : n = n') (hf : full' = true → full = true) (h : ∀ i j, i < n → j < s → VLe (f i j) (f' i j)) : VLe (.fz n s full f) (.fz n' s full' f') :=
  ⟨fun M w u hd => by
    subst hn
    cases hd with
    | fz0 _ _ _ _ a c hc => exact .fz0 _ _ _ _ _ _ (fun e => hc (hf e))
    | fz _ _ _ _ _ b off c u hc hf' hM hb hcell h1 hd => exact .fz _ _ _ _ _ _ _ _ u hc (fun e => hf' (hf e)) hM hb hcell h1 fun i j hi hj => (h i j hi hj).out M w _ (hd i j hi hj)⟩
theorem VLe.nilfz {n s : Nat} {f : Nat → Nat → V} (hn : n = 0) : VLe .nilslice (.fz n s false f) :=
  ⟨fun M w u hd => by
    subst hn
    cases hd
    exact .fz0 _ _ _ _ _ _ (by simp)⟩
theorem VRen.fz {ρ : Rn} {n n' s : Nat} {full full' : Bool} {f f' : Nat → Nat → V} (hn : n = n') (hf : full' = true → full = true) (h : ∀ i j, i < n → j < s → VLe (f i j) (f' i j)) : VRen ρ (.fz n s full f) (.fz n' s full' f') :=
  ⟨fun M w _ τ u _ hd => ((VLe.fz hn hf h).out M w u (hd.kf (show V.kf (.fz n s full f) = true from by rfl) Sg.none)).kf (show V.kf (.fz n' s full' f') = true from by rfl) τ⟩
theorem VRen.of_le {ρ : Rn} {v v' : V} (h1 : v.kf = true) (h2 : v'.kf = true) (h : VLe v v') : VRen ρ v v' :=
  ⟨fun M w _ τ u _ hd => (h.out M w u (hd.kf h1 Sg.none)).kf h2 τ⟩

def EnvRen (ρ : Rn) (env : Env) : Env → Prop
  | [] => True
  | (t, v) :: r => (∃ v', look env t = some v' ∧ VRen ρ v' v) ∧ EnvRen ρ env r

/-- the same rows are open -/
def OpR (ρ : Rn) : List (Nat × Nat) → List (Nat × Nat) → Prop
  | [], [] => True
  | (i, q) :: r, (i', q') :: r' => i = i' ∧ look ρ q' = some (some q) ∧ OpR ρ r r'
  | _, _ => False
theorem OpR.look {ρ : Rn} : ∀ {op op' : List (Nat × Nat)}, OpR ρ op op' → ∀ i, (Eng.look op i = none ↔ Eng.look op' i = none) ∧ ∀ q', Eng.look op' i = some q' → ∃ q, Eng.look op i = some q ∧ Eng.look ρ q' = some (some q)
  | [], [], _, i => ⟨Iff.rfl, fun q h => by simp [Eng.look] at h⟩
  | (i0, q0) :: r, (i0', q0') :: r', h, i => by
    obtain ⟨rfl, h2, h3⟩ := h
    have ih := OpR.look h3 i
    by_cases e : i0 = i
    · rw [look_here e, look_here e]
      exact ⟨by simp, fun q' e => by simp at e; subst e; exact ⟨q0, rfl, h2⟩⟩
    · rw [look_there e, look_there e]
      exact ih
  | [], _ :: _, h, _ => h.elim
  | _ :: _, [], h, _ => h.elim

def BRen (ρ : Rn) : Blk → Blk → Prop
  | .fam n s len f op, .fam n' s' len' f' op' => n' = n ∧ s' = s ∧ OpR ρ op op' ∧ (∀ i, i < n → len' i = len i) ∧ ∀ i j t, i < n → look op i = none → j < len i → t < s → VLe (f i j t) (f' i j t)
  | .vec n s f, .fam n' _ len' _ op' => n' = n ∧ s = 1 ∧ op' = [] ∧ ∀ i, i < n → f i 0 = .nilslice ∧ len' i = 0
  | .cells cs, .cells cs' => LRen ρ cs cs'
  | .vec n s f, .vec n' s' f' => n' ≤ n ∧ s = s' ∧ ∀ i j, i < n' → j < s → VLe (f i j) (f' i j)
  | .map ik es, .map ik' es' => ∃ h : ik' = ik, (h ▸ es') = es
  | .glob g n f, .glob g' n' f' => g' = g ∧ n' = n ∧ f' = f
  | .iter km n idxs, .iter km' n' idxs' => n' = n ∧ idxs' = idxs ∧ look ρ km' = some (some km)
  | .loop st pe env N ps C, .loop st' pe' env' N' ps' C' => st' = st ∧ pe' = pe ∧ N' = N ∧ ps' = ps ∧ C' = C ∧ EnvRen ρ env env'
  | _, _ => False

def OwnRen (ρ : Rn) (own : Own) : Own → Prop
  | [] => True
  | (k, b) :: r => (match look ρ k with
    | some (some k') => ∃ b', look own k' = some b' ∧ BRen ρ b' b
    | some none => ∃ s f, b = .vec 0 s f
    | none => False) ∧ OwnRen ρ own r

theorem EnvRen.look {ρ : Rn} {env : Env} : ∀ {m : Env}, EnvRen ρ env m → ∀ t v, Eng.look m t = some v → ∃ v', Eng.look env t = some v' ∧ VRen ρ v' v
  | [], _, t, v, h => by simp [Eng.look] at h
  | (t', v') :: r, hm, t, v, h => by
    unfold Eng.look at h
    split at h
    · rename_i hb
      have := Nat.eq_of_beq_eq_true hb
      subst this
      cases h
      exact hm.1
    · exact EnvRen.look hm.2 t v h

theorem OwnRen.mem {ρ : Rn} {own : Own} : ∀ {m : Own}, OwnRen ρ own m → ∀ k b, (k, b) ∈ m → (∃ k' b', Eng.look ρ k = some (some k') ∧ Eng.look own k' = some b' ∧ BRen ρ b' b) ∨ (Eng.look ρ k = some none ∧ ∃ s f, b = .vec 0 s f)
  | [], _, k, b, h => by simp at h
  | (k', b') :: r, hm, k, b, h => by
    rcases List.mem_cons.1 h with e | e
    · cases e
      have h1 := hm.1
      split at h1
      · rename_i k'' hk
        obtain ⟨b', h2, h3⟩ := h1
        exact .inl ⟨k'', b', hk, h2, h3⟩
      · rename_i hk
        exact .inr ⟨hk, h1⟩
      · exact h1.elim
    · exact OwnRen.mem hm.2 k b e

/-- no two keys had the same name -/
def rnB : Rn → Bool
  | [] => true
  | (k, o) :: r => r.all (fun p => !Nat.beq p.1 k && (match o, p.2 with | some a, some b => !Nat.beq a b | _, _ => true)) && rnB r
def chgB (chg : List Nat) : Rn → Bool
  | [] => true
  | (k, o) :: r => ((match o with | some k' => Nat.beq k k' | none => false) || memN k chg) && chgB chg r
def ksB (ρ : Rn) : List Nat → Bool
  | [] => true
  | k :: r => (match look ρ k with | none => true | some _ => false) && ksB ρ r

theorem rnB_inj : ∀ {ρ : Rn}, rnB ρ = true → ∀ k k' a, look ρ k = some (some a) → look ρ k' = some (some a) → k = k'
  | [], _, k, k', a, h, _ => by simp [look] at h
  | (q, o) :: r, h, k, k', a, h1, h2 => by
    unfold rnB at h
    simp only [Bool.and_eq_true] at h
    obtain ⟨hA, hB⟩ := h
    rw [List.all_eq_true] at hA
    have aux : ∀ j, look r j = some (some a) → o ≠ some a := by
      intro j hj e
      subst e
      have := hA _ (look_mem hj)
      simp at this
    cases e1 : Nat.beq q k <;> cases e2 : Nat.beq q k' <;> simp only [look, e1, e2] at h1 h2
    · exact rnB_inj hB k k' a h1 h2
    · cases h2; exact (aux k h1 rfl).elim
    · cases h1; exact (aux k' h2 rfl).elim
    · rw [← Nat.eq_of_beq_eq_true e1, ← Nat.eq_of_beq_eq_true e2]

theorem chgB_look {chg : List Nat} : ∀ {ρ : Rn}, chgB chg ρ = true → ∀ k o, look ρ k = some o → o = some k ∨ k ∈ chg
  | [], _, k, o, h => by simp [look] at h
  | (q, p) :: r, h, k, o, hk => by
    unfold chgB at h
    simp only [Bool.and_eq_true, Bool.or_eq_true] at h
    unfold look at hk
    split at hk
    · rename_i e
      have := Nat.eq_of_beq_eq_true e
      subst this
      cases hk
      rcases h.1 with h1 | h1
      · split at h1
        · have := Nat.eq_of_beq_eq_true h1
          subst this
          exact .inl rfl
        · cases h1
      · exact .inr (memN_iff.1 h1)
    · exact chgB_look h.2 k o hk

theorem ksB_look {ρ : Rn} : ∀ {ks : List Nat}, ksB ρ ks = true → ∀ k, k ∈ ks → look ρ k = none
  | [], _, k, h => by simp at h
  | q :: r, h, k, hk => by
    unfold ksB at h
    simp only [Bool.and_eq_true] at h
    rcases List.mem_cons.1 hk with e | e
    · subst e
      have := h.1
      split at this
      · assumption
      · cases this
    · exact ksB_look h.2 k e

def Sg.ren (ρ : Rn) (ks : List Nat) (σ : Sg) : Sg := fun k => match look ρ k with
  | .some (.some k') => σ k'
  | .some .none => .some (.none, 0, 0)
  | .none => if memN k ks then .none else σ k

theorem Sg.ren_ts (ρ : Rn) (ks : List Nat) (σ : Sg) : TS ρ σ (σ.ren ρ ks) := fun k o h => by
  unfold Sg.ren
  cases o with
  | some k' => simp [h]
  | none => simp [h]

/-- a block, seen with other names -/
theorem blk_ren {ρ : Rn} {M : Nat → Prop} {w : World} {σ τ : Sg} (hts : TS ρ σ τ) {k k' : Nat} {b' b : Blk} (hk : τ k = σ k') (hb : BlkSim M w σ k' b') (e3 : BRen ρ b' b) : BlkSim M w τ k b ∧ ∀ n, holds w τ k b n → holds w σ k' b' n := by
  have plain : b.isFam = false → ∀ n, holds w τ k b n → holds w σ k' b' n := fun hf n hn => .inl (by rw [holds_no hf] at hn; simpa [blkOf, hk] using hn)
  cases b' with
  | cells cs =>
    cases b with
    | cells cs' =>
      obtain ⟨b, κ, ty, us, z1, z2, z3, z4, z5⟩ := hb
      obtain ⟨q1, q2⟩ := LRen.den (us := us.toList) (e3 : LRen ρ cs cs') hts (by simpa using z4.symm) (fun i v u hv hu => z5 i v u hv (by simpa using hu))
      exact ⟨⟨b, κ, ty, us, by rw [hk]; exact z1, z2, z3, by simpa using q1.symm, fun i v u hv hu => q2 i v u hv (by simpa using hu)⟩, plain rfl⟩
    | _ => exact (e3 : False).elim
  | map ik es =>
    cases b with
    | map ik' es' =>
      obtain ⟨b, κ, arr, z1, z2, z3, z4⟩ := hb
      obtain ⟨rfl, rfl⟩ := (e3 : ∃ h : ik' = ik, (h ▸ es') = es)
      exact ⟨⟨b, κ, arr, by rw [hk]; exact z1, z2, z3, z4⟩, plain rfl⟩
    | _ => exact (e3 : False).elim
  | glob g n f =>
    cases b with
    | glob g' n' f' =>
      obtain ⟨⟨base, κ, z1⟩, z2⟩ := hb
      obtain ⟨rfl, rfl, rfl⟩ := (e3 : g' = g ∧ n' = n ∧ f' = f)
      exact ⟨⟨⟨base, κ, by rw [hk]; exact z1⟩, z2⟩, plain rfl⟩
    | _ => exact (e3 : False).elim
  | iter km n idxs =>
    cases b with
    | iter km' n' idxs' =>
      obtain ⟨r, κ, b, base, κ', z1, z2, z3, z4⟩ := hb
      obtain ⟨rfl, rfl, er⟩ := (e3 : n' = n ∧ idxs' = idxs ∧ look ρ km' = some (some km))
      exact ⟨⟨r, κ, b, base, κ', by rw [hk]; exact z1, z2, by rw [hts km' _ er]; exact z3, z4⟩, plain rfl⟩
    | _ => exact (e3 : False).elim
  | loop st pe env0 N0 ps C =>
    cases b with
    | loop st' pe' env0' N0' ps' C' =>
      obtain ⟨l, κ, r, z1, z2, z3, z4, z5, z6, z7, z8, z9⟩ := hb
      obtain ⟨rfl, rfl, rfl, rfl, rfl, er⟩ := (e3 : st' = st ∧ pe' = pe ∧ N0' = N0 ∧ ps' = ps ∧ C' = C ∧ EnvRen ρ env0 env0')
      refine ⟨⟨l, κ, r, by rw [hk]; exact z1, z2, z3, z4, z5, z6, z7, z8, fun t v hv => ?_⟩, plain rfl⟩
      obtain ⟨v', y1, y2⟩ := EnvRen.look er t v hv
      exact y2.out M w σ _ _ hts (z9 t v' y1)
    | _ => exact (e3 : False).elim
  | vec n s f =>
    cases b with
    | cells => exact (e3 : False).elim
    | loop => exact (e3 : False).elim
    | map => exact (e3 : False).elim
    | iter => exact (e3 : False).elim
    | glob => exact (e3 : False).elim
    | vec n' s' f' =>
      obtain ⟨c1, c2, c3⟩ := (e3 : n' ≤ n ∧ s = s' ∧ ∀ i j, i < n' → j < s → VLe (f i j) (f' i j))
      subst c2
      obtain ⟨bo, base, κ, z1, z2, z3⟩ := hb
      refine ⟨⟨bo, base, κ, by rw [hk]; exact z1, by omega, ?_⟩, plain rfl⟩
      rcases z3 with z3 | ⟨b, ty, us, z3, z4, z5, z6, z7⟩
      · exact .inl z3
      · refine .inr ⟨b, ty, us, z3, z4, z5, z6, fun i j hi hj => ?_⟩
        obtain ⟨u, u1, u2, u3⟩ := z7 i j (by omega) hj
        exact ⟨u, u1, u2, (c3 i j hi hj).out M w u u3⟩
    | fam n' s' len' f' op' =>
      obtain ⟨rfl, rfl, rfl, c4⟩ := (e3 : n' = n ∧ s = 1 ∧ op' = [] ∧ ∀ i, i < n → f i 0 = .nilslice ∧ len' i = 0)
      obtain ⟨bo, base, κ, z1, z2, z3⟩ := hb
      rcases z3 with z3 | ⟨b, ty, us, z3, z4, z5, z6, z7⟩
      · refine ⟨⟨bo, base, κ, by rw [hk]; exact z1, z2, .inl z3⟩, fun m hm => ?_⟩
        rcases hm with hm | ⟨ob, base', κ', us, ty, i, e1, _⟩
        · exact .inl (by simpa [blkOf, hk] using hm)
        · rw [hk, z1, z3.2] at e1; simp at e1
      · subst z3
        have hcell : ∀ i, i < n' → us[base + i]? = some (.slice none 0 0) := fun i hi => by
          obtain ⟨u, u1, _, u3⟩ := z7 i 0 hi (by omega)
          rw [(c4 i hi).1] at u3
          cases u3
          simpa using u1
        have hno : ∀ i r, i < n' → ¬ RowAt us base i r := fun i r hi ⟨off, l, c, e, _⟩ => by rw [hcell i hi] at e; simp at e
        refine ⟨⟨_, base, κ, by rw [hk]; exact z1, z2, .inr ⟨b, ty, us, rfl, z4, z5, by omega, fun i hi => ⟨_, hcell i hi, none, 0, by rw [(c4 i hi).2], by rw [(c4 i hi).2]; exact Nat.le_refl _, fun q hq => (by cases hq), fun _ hc => absurd hc (by omega)⟩, fun i i' r hi hi' _ _ h1 _ => (hno i r hi h1).elim, fun i hi _ => hno i b hi⟩⟩, fun m hm => ?_⟩
        rcases hm with hm | ⟨ob, base', κ', us', ty', i, e1, e2, e3, _, e5⟩
        · exact .inl (by simpa [blkOf, hk] using hm)
        · rw [hk, z1] at e1
          simp only [Option.some.injEq, Prod.mk.injEq] at e1
          obtain ⟨rfl, rfl, rfl⟩ := e1
          rw [z5] at e2
          simp only [Option.some.injEq, Obj.cells.injEq] at e2
          obtain ⟨rfl, _⟩ := e2
          exact (hno i m e3 e5).elim
  | fam n s len f op =>
    cases b with
    | cells => exact (e3 : False).elim
    | loop => exact (e3 : False).elim
    | map => exact (e3 : False).elim
    | iter => exact (e3 : False).elim
    | glob => exact (e3 : False).elim
    | vec => exact (e3 : False).elim
    | fam n' s' len' f' op' =>
      obtain ⟨rfl, rfl, c3, c4, c5⟩ := (e3 : n' = n ∧ s' = s ∧ OpR ρ op op' ∧ (∀ i, i < n → len' i = len i) ∧ ∀ i j t, i < n → look op i = none → j < len i → t < s → VLe (f i j t) (f' i j t))
      obtain ⟨bo, base, κ, z1, z2, z3⟩ := hb
      refine ⟨⟨bo, base, κ, by rw [hk]; exact z1, z2, ?_⟩, fun m hm => ?_⟩
      · rcases z3 with z3 | ⟨b, ty, us, z3, z4, z5, z6, z7, z8, z9⟩
        · exact .inl z3
        · refine .inr ⟨b, ty, us, z3, z4, z5, z6, fun i hi => ?_, fun i i' r hi hi' n1 n2 r1 r2 => z8 i i' r hi hi' ((c3.look i).1.2 n1) ((c3.look i').1.2 n2) r1 r2, fun i hi n1 r1 => z9 i hi ((c3.look i).1.2 n1) r1⟩
          obtain ⟨u, u1, a, c, u2, u3, u4, u5⟩ := z7 i hi
          refine ⟨u, u1, a, c, by rw [c4 i hi]; exact u2, by rw [c4 i hi]; exact u3, fun q' hq' => ?_, fun hn hc => ?_⟩
          · obtain ⟨q, y1, y2⟩ := (c3.look i).2 q' hq'
            rw [c4 i hi]
            exact (VRen.vec y2 rfl rfl).out M w σ τ u hts (u4 q y1)
          · have hn' := (c3.look i).1.2 hn
            obtain ⟨r, off, ty2, us2, p1, p2, p3, p4, p5⟩ := u5 hn' hc
            refine ⟨r, off, ty2, us2, p1, p2, p3, p4, fun j t hj ht => ?_⟩
            rw [c4 i hi] at hj
            obtain ⟨x, x1, x2, x3⟩ := p5 j t hj ht
            exact ⟨x, x1, x2, (c5 i j t hi hn' hj ht).out M w x x3⟩
      · rcases hm with hm | ⟨ob, base', κ', us', ty', i, e1, e2, e3, e4, e5⟩
        · exact .inl (by simpa [blkOf, hk] using hm)
        · exact .inr ⟨ob, base', κ', us', ty', i, by rw [← hk]; exact e1, e2, e3, (c3.look i).1.2 e4, e5⟩

theorem weak_ren {N : Nat} {chg : List Nat} {env env' : Env} {own own' : Own} {ks ks' : List Nat} (ρ : Rn) (he : EnvRen ρ env env') (ho : OwnRen ρ own own') (hn : nodupB ks' = true) (hon : nodupB (own'.map (·.1)) = true)
    (h1 : rnB ρ = true) (h2 : chgB chg ρ = true) (h3 : ksB ρ ks' = true) : Weak N chg ⟨env, own, ks⟩ ⟨env', own', ks'⟩ := by
  constructor
  intro B M w σ a s
  have hts := Sg.ren_ts ρ ks' σ
  have hob := OwnRen.mem ho
  have hblk : ∀ k b, (k, b) ∈ own' → ∀ n, holds w (σ.ren ρ ks') k b n → ∃ k' b', look ρ k = some (some k') ∧ (k', b') ∈ own ∧ holds w σ k' b' n := by
    intro k b hm n hn
    rcases hob k b hm with ⟨k', b', e1, e2, e3⟩ | ⟨e1, s', f, rfl⟩
    · exact ⟨k', b', e1, look_mem e2, (blk_ren hts (hts k _ e1) (s.heap.own.blk k' b' (look_mem e2)) e3).2 n hn⟩
    · have : (σ.ren ρ ks') k = some (none, 0, 0) := hts k _ e1
      simp [holds, rowOf, blkOf, this] at hn
  refine ⟨M, σ.ren ρ ks', ⟨?_, ⟨⟨?_, nodupB_iff hon, ?_⟩, ?_, nodupB_iff hn⟩, s.size, ?_⟩, ⟨.refl _ _ _, ?_⟩, ?_⟩
  · intro t v hv
    obtain ⟨v', e1, e2⟩ := EnvRen.look he t v hv
    exact e2.out M w σ _ _ hts (s.env t v' e1)
  · intro k b hm
    rcases hob k b hm with ⟨k', b', e1, e2, e3⟩ | ⟨e1, s', f, rfl⟩
    · exact (blk_ren hts (hts k _ e1) (s.heap.own.blk k' b' (look_mem e2)) e3).1
    · have hk : (σ.ren ρ ks') k = some (none, 0, 0) := hts k _ e1
      exact ⟨none, 0, 0, hk, Nat.le_refl _, .inl ⟨rfl, rfl⟩⟩
  · intro k b k' b' n m1 m2 hne e1 e2
    obtain ⟨q, qb, a1, a2, a3⟩ := hblk k b m1 n e1
    obtain ⟨q', qb', a1', a2', a3'⟩ := hblk k' b' m2 n e2
    by_cases hq : q = q'
    · subst hq
      exact hne (rnB_inj h1 k k' q a1 a1')
    · exact s.heap.own.apart q qb q' qb' n a2 a2' hq a3 a3'
  · intro k hk
    simp [Sg.ren, ksB_look h3 k hk, memN_iff.2 hk]
  · refine ⟨s.defers.base, fun d hd => ?_, s.defers.nodup⟩
    obtain ⟨D, e, q1, q2, q3, q4⟩ := s.defers.mark d hd
    refine ⟨D, e, q1, q2, ?_, q4⟩
    rintro ⟨k, b, hm, e⟩
    obtain ⟨q, qb, _, a2, a3⟩ := hblk k b hm D e
    exact q3 ⟨q, qb, a2, a3⟩
  · rintro n ⟨k, b, hm, e⟩
    obtain ⟨q, qb, _, a2, a3⟩ := hblk k b hm n e
    exact .inl ⟨q, qb, a2, a3⟩
  · intro k hk hc
    unfold Sg.ren
    split
    · rename_i k' hr
      rcases chgB_look h2 k _ hr with e | e
      · cases e; rfl
      · exact (hc e).elim
    · rename_i hr
      rcases chgB_look h2 k _ hr with e | e
      · cases e
      · exact (hc e).elim
    · have : memN k ks' = false := by
        rw [← Bool.not_eq_true]
        exact fun h => hk (memN_iff.1 h)
      simp [this]

/-! ## a callee that gets frozen things and hands back new memory, which nobody writes any more -/

def frzT (own : Own) (v : V) (K : V → Prop) : Prop :=
  match v with
  | .tup cs => bors own cs fun cs => K (.tup cs)
  | v => bor own v K

theorem frzT_sound {own : Own} {v : V} {K : V → Prop} (h : frzT own v K) : ∃ v', K v' ∧ ∀ M w σ u, OwnSim M w σ own → Den M w σ v u → Den (lent M w σ own) w Sg.none v' u := by
  unfold frzT at h
  split at h
  · rename_i cs
    obtain ⟨cs', hK, hl, hr⟩ := bors_sound h
    refine ⟨_, hK, fun M w σ u ho hd => ?_⟩
    cases hd with
    | tup _ _ us l1 l2 =>
      refine .tup _ _ _ (by omega) fun i v' u' hv' hu' => ?_
      have hi : i < cs.length := by rw [← hl]; exact (List.getElem?_eq_some_iff.1 hv').1
      exact hr M w σ ho i cs[i] v' u' (by simp [hi]) hv' (l2 i cs[i] u' (by simp [hi]) hu')
  · exact bor_sound h

/-- A callee that gets nothing that is owned: what it hands back is frozen. -/
theorem call_new {P : Program} {f : FuncId} {args : List V} {own : Own} {ks : List Nat} {K : V → Own → List Nat → Prop} (hk : allB V.kf args = true)
    (h : CallF P f args [] KS fun v own' _ => frzT own' v fun v' => K v' own ks) : CallF P f args own ks K := by
  constructor
  intro M w σ us hlen hd hh
  refine (h.out M w Sg.none us hlen (fun i v u hv hu => (hd i v u hv hu).kf (allB_mem hk v (List.mem_of_getElem? hv)) Sg.none) (hsim_nothing KS KS_nodup)).mono ?_
  rintro e w' ⟨M', σ', v, own', ks', u, rfl, hv, hh', tr, _, hfr⟩
  obtain ⟨v', hK, hv'⟩ := frzT_sound hfr
  have hM : ∀ b, b < w.heap.size → (lent M' w' σ' own' b ↔ M b) := by
    intro b hb
    have hno : ¬ owned w' σ' own' b := fun ho => by
      rcases tr.new b ho with h1 | h1
      · exact owned_nil h1
      · omega
    constructor
    · intro h1; exact (tr.adv.muts b hb owned_nil).1 h1.1
    · intro h1; exact ⟨(tr.adv.muts b hb owned_nil).2 h1, hno⟩
  have hfr := hsim_frame (M'' := lent M' w' σ' own') hh tr hM
  exact ⟨_, σ, v', own, ks, u, rfl, (hv' M' w' σ' u hh'.own hv).mono (Ext.mk (fun _ _ h => ⟨h, rfl⟩) (Nat.le_refl _)) (Sg.none_le σ), hfr.1, hfr.2, Kd.refl _ _ _, hK⟩

end Go.Eng
