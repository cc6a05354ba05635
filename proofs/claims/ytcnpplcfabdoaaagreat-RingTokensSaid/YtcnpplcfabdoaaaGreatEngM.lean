/-
  The engine, part M: aids for proofs about functions.
-/
import Derived.Test.YtcnpplcfabdoaaaGreatEngL
import Derived.IntWalk
namespace Go.Eng

/-! ## numbers -/

theorem wrap_i64 {n : Int} (h1 : -9223372036854775808 ≤ n) (h2 : n ≤ 9223372036854775807) : IntKind.i64.wrap n = n := by
  simp only [IntKind.wrap, IntKind.bits, IntKind.signed, Bool.true_and]
  first | (split <;> omega) | (simp; omega)

theorem Ar.i64 {n : Int} {K : Int → Prop} (h1 : -9223372036854775808 ≤ n) (h2 : n ≤ 9223372036854775807) (hK : K n) : Ar .i64 n K := ⟨n, (wrap_i64 h1 h2).symm, hK⟩

theorem wrap_u32 {n : Int} (h1 : 0 ≤ n) (h2 : n ≤ 4294967295) : IntKind.u32.wrap n = n := by
  simp only [IntKind.wrap, IntKind.bits, IntKind.signed, Bool.false_and]
  first | (split <;> omega) | (simp; omega)

theorem Ar.u32 {n : Int} {K : Int → Prop} (h1 : 0 ≤ n) (h2 : n ≤ 4294967295) (hK : K n) : Ar .u32 n K := ⟨n, (wrap_u32 h1 h2).symm, hK⟩

theorem Ix.nat {m n : Nat} {K : Nat → Prop} (h : m < n) (hK : K m) : Ix (m : Int) n K := ⟨m, rfl, h, hK⟩
theorem Ix.int {i : Int} {n : Nat} {K : Nat → Prop} (h0 : 0 ≤ i) (h : i < n) (hK : K i.toNat) : Ix i n K := ⟨i.toNat, by omega, by omega, hK⟩

/-! ## keys that a value does not name -/

def V.nk1 (ks : List Nat) : V → Bool
  | .loc k _ | .oel k _ _ _ | .vec k _ _ _ | .map k | .yld k => !memN k ks
  | .agg _ | .tup _ | .fn _ _ _ | .iface _ _ => false
  | _ => true

def V.nk (ks : List Nat) : V → Bool
  | .agg cs => allB (V.nk1 ks) cs
  | .tup cs => allB (V.nk1 ks) cs
  | .fn _ _ cap => allB (V.nk1 ks) cap
  | .iface _ v => v.nk1 ks
  | v => v.nk1 ks

def Sg.drop (σ : Sg) (ks : List Nat) : Sg := fun k => if memN k ks then Option.none else σ k

theorem Sg.drop_of {σ : Sg} {ks : List Nat} {k : Nat} (h : (!memN k ks) = true) : σ.drop ks k = σ k := by
  simp only [Bool.not_eq_true'] at h
  simp [Sg.drop, h]

theorem Den.nk1 {M : Nat → Prop} {w : World} {σ : Sg} {v : V} {u : Value} {ks : List Nat} (h : Den M w σ v u) (hv : v.nk1 ks = true) : Den M w (σ.drop ks) v u := by
  cases h with
  | bool => exact .bool _ _
  | int => exact .int _ _ _
  | str => exact .str _ _
  | nilptr => exact .nilptr _
  | nilslice => exact .nilslice _
  | nilmap => exact .nilmap _
  | nilfunc => exact .nilfunc _
  | niliface => exact .niliface _
  | loc _ k off b base κ hk => exact .loc _ _ _ _ _ _ (by rw [Sg.drop_of hv]; exact hk)
  | oel _ k s i j b base κ hk => exact .oel _ _ _ _ _ _ _ _ (by rw [Sg.drop_of hv]; exact hk)
  | vec _ k s lo len bo base κ c a hk hc hl ha => exact .vec _ _ _ _ _ _ _ _ _ _ (by rw [Sg.drop_of hv]; exact hk) hc hl ha
  | map _ k b base κ hk => exact .map _ _ _ _ _ (by rw [Sg.drop_of hv]; exact hk)
  | yld _ k b base κ hk => exact .yld _ _ _ _ _ (by rw [Sg.drop_of hv]; exact hk)
  | fz0 _ _ _ _ _ _ hf => exact .fz0 _ _ _ _ _ _ hf
  | fz _ _ _ _ _ _ _ _ u hc hf hM hb hcell h1 hd => exact .fz _ _ _ _ _ _ _ _ u hc hf hM hb hcell h1 hd
  | fe _ _ _ _ _ _ _ _ u hi hM hb hcell h1 hd => exact .fe _ _ _ _ _ _ _ _ u hi hM hb hcell h1 hd
  | raw => exact .raw _ _
  | anyb => exact .anyb _ _
  | top => exact .top _ _
  | _ => simp [V.nk1] at hv

theorem Den.nk {M : Nat → Prop} {w : World} {σ : Sg} {v : V} {u : Value} {ks : List Nat} (h : Den M w σ v u) (hv : v.nk ks = true) : Den M w (σ.drop ks) v u := by
  cases v with
  | agg cs => cases h with | agg _ _ us hl hd => exact .agg _ _ _ hl fun i v u h1 h2 => (hd i v u h1 h2).nk1 (allB_mem hv v (List.mem_of_getElem? h1))
  | tup cs => cases h with | tup _ _ us hl hd => exact .tup _ _ _ hl fun i v u h1 h2 => (hd i v u h1 h2).nk1 (allB_mem hv v (List.mem_of_getElem? h1))
  | fn f b cap => cases h with | fn _ _ _ _ us hl hd => exact .fn _ _ _ _ _ hl fun i v u h1 h2 => (hd i v u h1 h2).nk1 (allB_mem hv v (List.mem_of_getElem? h1))
  | iface t v => cases h with | iface _ _ _ _ hd => exact .iface _ _ _ _ (hd.nk1 hv)
  | _ => exact h.nk1 hv

def Blk.nk (ks : List Nat) : Blk → Bool
  | .fam .. => false
  | .cells cs => allB (V.nk ks) cs
  | .vec _ _ _ => true
  | .loop _ _ _ _ _ _ => false
  | .map _ _ => true
  | .iter km _ _ => !memN km ks
  | .glob _ _ _ => true

/-! ## states seen with less -/

/-- every entry is found -/
def AllIn {α : Type} (l : List (Nat × α)) : List (Nat × α) → Prop
  | [] => True
  | (t, v) :: r => look l t = some v ∧ AllIn l r

theorem AllIn.look {α : Type} {l : List (Nat × α)} : ∀ {m : List (Nat × α)}, AllIn l m → ∀ t v, Eng.look m t = some v → Eng.look l t = some v
  | [], _, t, v, h => by simp [Eng.look] at h
  | (t', v') :: r, hm, t, v, h => by
    unfold Eng.look at h
    split at h
    · rename_i hb
      have := Nat.eq_of_beq_eq_true hb
      subst this
      cases h
      exact hm.1
    · exact AllIn.look hm.2 t v h

theorem AllIn.mem {α : Type} {l : List (Nat × α)} : ∀ {m : List (Nat × α)}, AllIn l m → ∀ t v, (t, v) ∈ m → (t, v) ∈ l
  | [], _, t, v, h => by simp at h
  | (t', v') :: r, hm, t, v, h => by
    rcases List.mem_cons.1 h with e | e
    · cases e; exact look_mem hm.1
    · exact AllIn.mem hm.2 t v e

def nkEnv (ks : List Nat) : Env → Bool
  | [] => true
  | (_, v) :: r => match v.nk ks with | true => nkEnv ks r | false => false
def nkOwn (ks : List Nat) : Own → Bool
  | [] => true
  | (k, b) :: r => match memN k ks, b.nk ks with | false, true => nkOwn ks r | _, _ => false

theorem nkEnv_look {ks : List Nat} : ∀ {env : Env}, nkEnv ks env = true → ∀ t v, look env t = some v → v.nk ks = true
  | [], _, t, v, h => by simp [look] at h
  | (t', v') :: r, he, t, v, h => by
    unfold nkEnv at he
    split at he
    · rename_i hv
      unfold look at h
      split at h
      · cases h; exact hv
      · exact nkEnv_look he t v h
    · cases he

theorem nkOwn_mem {ks : List Nat} : ∀ {own : Own}, nkOwn ks own = true → ∀ k b, (k, b) ∈ own → (!memN k ks) = true ∧ b.nk ks = true
  | [], _, k, b, h => by simp at h
  | (k', b') :: r, he, k, b, h => by
    unfold nkOwn at he
    split at he
    · rename_i h1 h2
      rcases List.mem_cons.1 h with e | e
      · cases e; exact ⟨by rw [h1]; rfl, h2⟩
      · exact nkOwn_mem he k b e
    · cases he

/-- at a loop's head: fewer entries, fewer blocks, the keys of the others free again -/
theorem weak_reset {N : Nat} {chg : List Nat} {env env' : Env} {own own' : Own} {ks ks' : List Nat} (he : AllIn env env') (ho : AllIn own own') (hn : ks'.Nodup) (hon : (own'.map (·.1)).Nodup) (h1 : nkEnv ks' env' = true) (h2 : nkOwn ks' own' = true) :
    Weak N chg ⟨env, own, ks⟩ ⟨env', own', ks'⟩ := by
  constructor
  intro B M w σ a s
  have hsub : ∀ k b, (k, b) ∈ own' → (k, b) ∈ own := AllIn.mem ho
  have hb : ∀ k b n, (k, b) ∈ own' → (holds w (σ.drop ks') k b n ↔ holds w σ k b n) := fun k b n hm => holds_at (Sg.drop_of (nkOwn_mem h2 k b hm).1)
  refine ⟨M, σ.drop ks', ⟨?_, ⟨⟨?_, hon, ?_⟩, ?_, hn⟩, s.size, ?_⟩, ⟨.refl _ _ _, ?_⟩, ?_⟩
  · intro t v hv
    exact (s.env t v (AllIn.look he t v hv)).nk (nkEnv_look h1 t v hv)
  · intro k b hm
    have hblk := s.heap.own.blk k b (hsub k b hm)
    obtain ⟨n1, n2⟩ := nkOwn_mem h2 k b hm
    cases b with
    | cells cs =>
      obtain ⟨b, κ, ty, us, z1, z2, z3, z4, z5⟩ := hblk
      exact ⟨b, κ, ty, us, by rw [Sg.drop_of n1]; exact z1, z2, z3, z4, fun i v u hv hu => (z5 i v u hv hu).nk (allB_mem n2 v (List.mem_of_getElem? hv))⟩
    | vec n s f =>
      obtain ⟨bo, base, κ, z1, z2, z3⟩ := hblk
      exact ⟨bo, base, κ, by rw [Sg.drop_of n1]; exact z1, z2, z3⟩
    | loop st pe env N ps C => cases n2
    | fam n s len f op => cases n2
    | map ik es =>
      obtain ⟨b, κ, arr, z1, z2, z3, z4⟩ := hblk
      exact ⟨b, κ, arr, by rw [Sg.drop_of n1]; exact z1, z2, z3, z4⟩
    | glob g n f =>
      obtain ⟨⟨base, κ, z1⟩, z2⟩ := hblk
      exact ⟨⟨base, κ, by rw [Sg.drop_of n1]; exact z1⟩, z2⟩
    | iter km n idxs =>
      obtain ⟨r, κ, b, base, κ', z1, z2, z3, z4⟩ := hblk
      exact ⟨r, κ, b, base, κ', by rw [Sg.drop_of n1]; exact z1, z2, by rw [Sg.drop_of n2]; exact z3, z4⟩
  · intro k b k' b' n m1 m2 hne e1 e2
    rw [hb k b n m1] at e1
    rw [hb k' b' n m2] at e2
    exact s.heap.own.apart k b k' b' n (hsub k b m1) (hsub k' b' m2) hne e1 e2
  · intro k hk
    simp [Sg.drop, memN_iff.2 hk]
  · refine ⟨s.defers.base, fun d hd => ?_, s.defers.nodup⟩
    obtain ⟨D, e, q1, q2, q3, q4⟩ := s.defers.mark d hd
    refine ⟨D, e, q1, q2, ?_, q4⟩
    rintro ⟨k, b, hm, e⟩
    rw [hb k b _ hm] at e
    exact q3 ⟨k, b, hsub k b hm, e⟩
  · rintro n ⟨k, b, hm, e⟩
    rw [hb k b n hm] at e
    exact .inl ⟨k, b, hsub k b hm, e⟩
  · intro k hk _
    exact Sg.drop_of (by simpa using fun h => hk (memN_iff.1 h))

end Go.Eng
