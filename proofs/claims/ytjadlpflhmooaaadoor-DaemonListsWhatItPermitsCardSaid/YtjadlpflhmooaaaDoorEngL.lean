/-
  The engine, part L: rules for calls and for loops' ends.
-/
import Derived.Test.YtjadlpflhmooaaaDoorEngK
namespace Go.Eng

/-- the keys that a function of its own uses -/
def KS : List Nat := [0, 1, 2, 3, 4, 5, 6, 7, 8, 9, 10, 11, 12, 13, 14, 15, 16, 17, 18, 19, 20, 21, 22, 23, 24, 25, 26, 27, 28, 29]

theorem KS_nodup : KS.Nodup := by decide

def V.flat1 : V → Bool
  | .bool _ | .int _ _ | .str _ | .nilptr | .nilslice | .nilmap | .nilfunc | .niliface | .raw _ => true
  | _ => false

def V.flat : V → Bool
  | .agg cs => allB V.flat1 cs
  | .tup cs => allB V.flat1 cs
  | v => v.flat1

theorem Den.flat1 {M M' : Nat → Prop} {w w' : World} {σ σ' : Sg} {v : V} {u : Value} (h : Den M w σ v u) (hv : v.flat1 = true) : Den M' w' σ' v u := by
  cases h <;> first | (simp [V.flat1] at hv; done) | constructor

theorem Den.flat {M M' : Nat → Prop} {w w' : World} {σ σ' : Sg} {v : V} {u : Value} (h : Den M w σ v u) (hv : v.flat = true) : Den M' w' σ' v u := by
  cases v with
  | agg cs => cases h with | agg _ _ us hl hd => exact .agg _ _ _ hl fun i v u h1 h2 => (hd i v u h1 h2).flat1 (allB_mem hv v (List.mem_of_getElem? h1))
  | tup cs => cases h with | tup _ _ us hl hd => exact .tup _ _ _ hl fun i v u h1 h2 => (hd i v u h1 h2).flat1 (allB_mem hv v (List.mem_of_getElem? h1))
  | _ => exact h.flat1 hv

/-- memory that the callee does not get -/
theorem hsim_nothing {M : Nat → Prop} {w : World} (ks : List Nat) (hk : ks.Nodup) : HSim M w Sg.none [] ks :=
  ⟨⟨fun _ _ h => by simp at h, by simp, fun _ _ _ _ _ h => by simp at h⟩, fun _ _ => rfl, hk⟩

theorem owned_nil {σ : Sg} {b : Nat} : ¬ owned σ [] b := fun ⟨_, _, h, _⟩ => by simp at h

/-- what we own is as it was behind a call that got nothing of it -/
theorem hsim_frame {M M₁ M' M'' : Nat → Prop} {w w' : World} {σ σ' : Sg} {own own' : Own} {ks : List Nat} (h : HSim M w σ own ks) (tr : Tr M₁ w Sg.none [] M' w' σ' own')
    (h2 : ∀ b, b < w.heap.size → (M'' b ↔ M b)) : HSim M'' w' σ own ks ∧ Tr M w σ own M'' w' σ own := by
  have hE : Ext M w M'' w' := ⟨fun b hb hM => ⟨fun hm => hM ((h2 b hb).1 hm), tr.adv.same b hb owned_nil⟩, tr.adv.size⟩
  refine ⟨⟨⟨fun k b hm => ?_, h.own.nodup, h.own.apart⟩, h.fresh, h.knodup⟩, ⟨⟨tr.adv.os, tr.adv.tape, tr.adv.output, tr.adv.size, fun b hb _ => tr.adv.same b hb owned_nil, fun b hb _ => h2 b hb⟩, fun b hb => .inl hb, Sg.le_refl _⟩⟩
  refine (h.own.blk k b hm).mono hE (Sg.le_refl _) fun n hn => ?_
  obtain ⟨m1, m2⟩ := owned_M h.own ⟨k, b, hm, hn⟩
  exact ⟨(h2 n m2).2 m1, tr.adv.same n m2 owned_nil⟩

/-- what is handed to a callee that only reads -/
def bor0 (own : Own) (v : V) (K : V → Prop) : Prop :=
  match v with
  | .vec k s lo len => match look own k with
    | some (.vec n s' f) => match Nat.beq s s' with
      | true => Len (lo + len) n (K (.fz len s false (shiftF lo f)))
      | false => False
    | _ => False
  | v => match v.kf2 with
    | true => K v
    | false => False

def borL0 (own : Own) : List V → (List V → Prop) → Prop
  | [], K => K []
  | v :: r, K => bor0 own v fun v => borL0 own r fun r => K (v :: r)

def nthD (l : List V) (i : Nat) : V := match nth l i with | some v => v | none => .top

/-- as bor0, and a slice whose elements are slices that are owned, too -/
def bor1 (own : Own) (v : V) (K : V → Prop) : Prop :=
  match v with
  | .vec k 1 0 len => match look own k with
    | some (.cells cs) => match Nat.beq len cs.length, allB V.cellB cs with
      | true, true => borL0 own cs fun cs' => K (.fz len 1 false fun i _ => nthD cs' i)
      | _, _ => False
    | _ => bor0 own (.vec k 1 0 len) K
  | v => bor0 own v K

def borL (own : Own) : List V → (List V → Prop) → Prop
  | [], K => K []
  | v :: r, K => bor1 own v fun v => borL own r fun r => K (v :: r)

def bor (own : Own) (v : V) (K : V → Prop) : Prop :=
  match v with
  | .agg cs => borL own cs fun cs => K (.agg cs)
  | v => bor1 own v K

def bors (own : Own) : List V → (List V → Prop) → Prop
  | [], K => K []
  | v :: r, K => bor own v fun v => bors own r fun r => K (v :: r)

/-- blocks that somebody else may write while the callee runs -/
def lent (M : Nat → Prop) (σ : Sg) (own : Own) : Nat → Prop := fun b => M b ∧ ¬ owned σ own b

theorem lent_ext (M : Nat → Prop) (w : World) (σ : Sg) (own : Own) : Ext M w (lent M σ own) w := ⟨fun _ _ hM => ⟨fun h => hM h.1, rfl⟩, Nat.le_refl _⟩

theorem bor0_sound {own : Own} {v : V} {K : V → Prop} (h : bor0 own v K) : ∃ v', K v' ∧ ∀ M w σ u, OwnSim M w σ own → Den M w σ v u → Den (lent M σ own) w Sg.none v' u := by
  unfold bor0 at h
  split at h
  · rename_i k s lo len
    split at h
    · rename_i n s' f hlook
      split at h
      · rename_i e
        have e := Nat.eq_of_beq_eq_true e
        subst e
        obtain ⟨hle, hK⟩ := h
        refine ⟨_, hK, fun M w σ u ho hd => ?_⟩
        have hmem := look_mem hlook
        obtain ⟨bo, base, κ, s1, s2, s3⟩ := ho.blk k _ hmem
        cases hd with
        | vec _ _ _ _ _ bo' base' κ' c a hk hc hl ha =>
          rw [s1] at hk
          simp only [Option.some.injEq, Prod.mk.injEq] at hk
          obtain ⟨q1, q2, q3⟩ := hk
          subst q1 q2 q3
          rcases Nat.eq_zero_or_pos len with h0 | h0
          · subst h0
            exact .fz0 _ _ _ _ _ _ (by simp)
          · obtain ⟨b, hb', ha'⟩ := ha (by omega)
            clear ha
            subst hb' ha'
            rcases s3 with ⟨_, s3⟩ | ⟨b', ty, us, s3, s4, s5, s6, s7⟩
            · cases s3
            cases s3
            have hlt := lt_of_getElem? s5
            have hx : ∀ i j, i < len → j < s → ∃ x, us[base + ((lo + i) * s + j)]? = some x ∧ x.oneCell' = true ∧ Den M w Sg.none (f (lo + i) j) x := fun i j hi hj => s7 (lo + i) j (by omega) hj
            let U : Nat → Nat → Value := fun i j => if h : i < len ∧ j < s then Classical.choose (hx i j h.1 h.2) else undef
            have hU : ∀ i j (hi : i < len) (hj : j < s), us[base + ((lo + i) * s + j)]? = some (U i j) ∧ (U i j).oneCell' = true ∧ Den M w Sg.none (f (lo + i) j) (U i j) := fun i j hi hj => by
              simp only [U, hi, hj, and_self, dite_true]
              exact Classical.choose_spec (hx i j hi hj)
            refine .fz _ _ _ _ _ _ _ _ U hl (by simp) (fun hM => hM.2 ⟨k, _, hmem, by simp [blkOf, s1]⟩) hlt ?_ (fun i j hi hj => (hU i j hi hj).2.1) ?_
            · intro i j hi hj
              rw [show base + lo * s + (i * s + j) = base + ((lo + i) * s + j) by rw [Nat.add_mul]; omega]
              simp [World.cell?, s5, (hU i j hi hj).1]
            · intro i j hi hj
              rw [shiftF_eq]
              exact (hU i j hi hj).2.2.mono (lent_ext M w σ own) (Sg.le_refl _)
      · exact h.elim
    · exact h.elim
  · split at h
    · rename_i hkf
      exact ⟨v, h, fun M w σ u _ hd => (hd.kf2 hkf Sg.none).mono (lent_ext M w σ own) (Sg.le_refl _)⟩
    · exact h.elim

theorem borL0_sound {own : Own} : ∀ {vs : List V} {K : List V → Prop}, borL0 own vs K → ∃ vs', K vs' ∧ vs'.length = vs.length ∧ ∀ M w σ, OwnSim M w σ own → ∀ (i : Nat) (v v' : V) (u : Value), vs[i]? = some v → vs'[i]? = some v' → Den M w σ v u → Den (lent M σ own) w Sg.none v' u
  | [], K, h => ⟨[], h, rfl, fun _ _ _ _ => by simp⟩
  | v :: r, K, h => by
    obtain ⟨v', h, hv⟩ := bor0_sound h
    obtain ⟨r', hK, hl, hr⟩ := borL0_sound h
    refine ⟨_, hK, by simp [hl], fun M w σ ho i x x' u hx hx' hd => ?_⟩
    cases i with
    | zero => simp at hx hx'; subst hx hx'; exact hv M w σ u ho hd
    | succ i => exact hr M w σ ho i x x' u (by simpa using hx) (by simpa using hx') hd

theorem bor1_sound {own : Own} {v : V} {K : V → Prop} (h : bor1 own v K) : ∃ v', K v' ∧ ∀ M w σ u, OwnSim M w σ own → Den M w σ v u → Den (lent M σ own) w Sg.none v' u := by
  unfold bor1 at h
  split at h
  · rename_i k len
    split at h
    · rename_i cs hlook
      split at h
      · rename_i hlen hcb
        have hlen := Nat.eq_of_beq_eq_true hlen
        obtain ⟨cs', hK, hl, hr⟩ := borL0_sound h
        refine ⟨_, hK, fun M w σ u ho hd => ?_⟩
        have hmem := look_mem hlook
        obtain ⟨b, κ, ty, us, s1, s2, s3, s4, s5⟩ := ho.blk k _ hmem
        cases hd with
        | vec _ _ _ _ _ bo base κ' c a hk hc hlc ha =>
          rw [s1] at hk
          simp only [Option.some.injEq, Prod.mk.injEq] at hk
          obtain ⟨q1, q2, q3⟩ := hk
          subst q1 q2 q3
          rcases Nat.eq_zero_or_pos len with h0 | h0
          · subst h0
            exact .fz0 _ _ _ _ _ _ (by simp)
          · obtain ⟨b', hb', ha'⟩ := ha (by omega)
            cases hb'
            subst ha'
            have hU : ∀ i, i < len → ∃ x v, us[i]? = some x ∧ cs[i]? = some v ∧ x.oneCell' = true ∧ Den M w σ v x := fun i hi => by
              have h1 : i < us.size := by omega
              have h2 : i < cs.length := by omega
              have hdd := s5 i cs[i] us[i] (by simp [h2]) (by simp [h1])
              exact ⟨us[i], cs[i], by simp [h1], by simp [h2], hdd.oneCell (allB_mem hcb _ (List.getElem_mem h2)), hdd⟩
            refine .fz _ _ _ _ _ _ _ _ (fun i _ => us.getD i undef) hlc (by simp) (fun hM => hM.2 ⟨k, _, hmem, by simp [blkOf, s1]⟩) (lt_of_getElem? s3) ?_ ?_ ?_
            · intro i j hi hj
              obtain ⟨x, v, a1, _⟩ := hU i hi
              have hj0 : j = 0 := by omega
              subst hj0
              simp [World.cell?, s3, Array.getD_eq_getD_getElem?, a1]
            · intro i j hi hj
              obtain ⟨x, v, a1, _, a3, _⟩ := hU i hi
              simpa [Array.getD_eq_getD_getElem?, a1] using a3
            · intro i j hi hj
              obtain ⟨x, v, a1, a2, _, a4⟩ := hU i hi
              have h2 : i < cs'.length := by omega
              have := hr M w σ ho i v cs'[i] x a2 (by simp [h2]) a4
              have e1 : nthD cs' i = cs'[i] := by simp [nthD, nth_eq, h2]
              rw [e1]
              simpa [Array.getD_eq_getD_getElem?, a1] using this
      · exact h.elim
    · exact bor0_sound h
  · exact bor0_sound h

theorem borL_sound {own : Own} : ∀ {vs : List V} {K : List V → Prop}, borL own vs K → ∃ vs', K vs' ∧ vs'.length = vs.length ∧ ∀ M w σ, OwnSim M w σ own → ∀ (i : Nat) (v v' : V) (u : Value), vs[i]? = some v → vs'[i]? = some v' → Den M w σ v u → Den (lent M σ own) w Sg.none v' u
  | [], K, h => ⟨[], h, rfl, fun _ _ _ _ => by simp⟩
  | v :: r, K, h => by
    obtain ⟨v', h, hv⟩ := bor1_sound h
    obtain ⟨r', hK, hl, hr⟩ := borL_sound h
    refine ⟨_, hK, by simp [hl], fun M w σ ho i x x' u hx hx' hd => ?_⟩
    cases i with
    | zero => simp at hx hx'; subst hx hx'; exact hv M w σ u ho hd
    | succ i => exact hr M w σ ho i x x' u (by simpa using hx) (by simpa using hx') hd

theorem bor_sound {own : Own} {v : V} {K : V → Prop} (h : bor own v K) : ∃ v', K v' ∧ ∀ M w σ u, OwnSim M w σ own → Den M w σ v u → Den (lent M σ own) w Sg.none v' u := by
  unfold bor at h
  split at h
  · rename_i cs
    obtain ⟨cs', hK, hl, hr⟩ := borL_sound h
    refine ⟨_, hK, fun M w σ u ho hd => ?_⟩
    obtain ⟨us, rfl, l1, l2⟩ := hd.agg_inv
    refine .agg _ _ _ (by omega) fun i v' u' hv' hu' => ?_
    have hi : i < cs.length := by rw [← hl]; exact (List.getElem?_eq_some_iff.1 hv').1
    exact hr M w σ ho i cs[i] v' u' (by simp [hi]) hv' (l2 i cs[i] u' (by simp [hi]) hu')
  · exact bor1_sound h

theorem bors_sound {own : Own} : ∀ {vs : List V} {K : List V → Prop}, bors own vs K → ∃ vs', K vs' ∧ vs'.length = vs.length ∧ ∀ M w σ, OwnSim M w σ own → ∀ (i : Nat) (v v' : V) (u : Value), vs[i]? = some v → vs'[i]? = some v' → Den M w σ v u → Den (lent M σ own) w Sg.none v' u
  | [], K, h => ⟨[], h, rfl, fun _ _ _ _ => by simp⟩
  | v :: r, K, h => by
    obtain ⟨v', h, hv⟩ := bor_sound h
    obtain ⟨r', hK, hl, hr⟩ := bors_sound h
    refine ⟨_, hK, by simp [hl], fun M w σ ho i x x' u hx hx' hd => ?_⟩
    cases i with
    | zero => simp at hx hx'; subst hx hx'; exact hv M w σ u ho hd
    | succ i => exact hr M w σ ho i x x' u (by simpa using hx) (by simpa using hx') hd

/-- A callee that only reads what it gets and hands back plain values. -/
theorem call_read {P : Program} {f : FuncId} {args : List V} {own : Own} {ks : List Nat} {K : V → Own → List Nat → Prop}
    (h : bors own args fun args' => CallF P f args' [] KS fun v _ _ => v.flat = true ∧ K v own ks) : CallF P f args own ks K := by
  obtain ⟨args', h, hl, hb⟩ := bors_sound h
  constructor
  intro M w σ us hlen hd hh
  have hE := lent_ext M w σ own
  refine (h.out (lent M σ own) w Sg.none us (by omega) (fun i v' u hv' hu => ?_) (hsim_nothing KS KS_nodup)).mono ?_
  · have hi : i < args.length := by rw [← hl]; exact (List.getElem?_eq_some_iff.1 hv').1
    exact hb M w σ hh.own i args[i] v' u (by simp [hi]) hv' (hd i args[i] u (by simp [hi]) hu)
  · rintro e w' ⟨M', σ', v, own', ks', u, rfl, hv, hh', tr, _, hfl, hK⟩
    have hfr := hsim_frame (M'' := fun b => (b < w.heap.size ∧ M b) ∨ (w.heap.size ≤ b ∧ M' b)) hh tr
      (fun b hb => by constructor <;> intro h; (rcases h with h | h; exact h.2; omega); exact .inl ⟨hb, h⟩)
    exact ⟨_, σ, v, own, ks, u, rfl, hv.flat hfl, hfr.1, hfr.2, Kd.refl _ _ _, hK⟩


/-! ## loops' ends -/

/-- every entry of the new environment is in the old one; the owned blocks are the same -/
theorem weak_env {N : Nat} {chg : List Nat} {env env' : Env} {own : Own} {ks ks' : List Nat} (h : ∀ t v, look env' t = some v → look env t = some v) (hk : ∀ k, k ∈ ks' → k ∈ ks) (hn : ks'.Nodup) : Weak N chg ⟨env, own, ks⟩ ⟨env', own, ks'⟩ :=
  ⟨fun _ M _ σ _ s => ⟨M, σ, ⟨fun t v hv => s.env t v (h t v hv), ⟨s.heap.own, fun k hk' => s.heap.fresh k (hk k hk'), hn⟩, s.size, s.defers⟩, Tr0.refl _ _ _ _, fun _ _ _ => rfl⟩⟩

end Go.Eng
