/-
  The engine, part L: rules for calls and for loops' ends.
-/
import Derived.Test.YtcnpplcfabdoaaaGreatEngK
namespace Go.Eng

/-- the keys that a function of its own uses -/
def KS : List Nat := [0, 1, 2, 3, 4, 5, 6, 7, 8, 9, 10, 11, 12, 13, 14, 15, 16, 17, 18, 19, 20, 21, 22, 23, 24, 25, 26, 27, 28, 29]

theorem KS_nodup : KS.Nodup := by decide

def V.flat1 : V → Bool
  | .bool _ | .int _ _ | .str _ | .nilptr | .nilslice | .nilmap | .nilfunc | .niliface | .raw _ => true
  | _ => false

def V.flat : V → Bool
  | .agg cs => allB V.flat1 cs
  | .tup cs => allB V.flat1 cs
  | v => v.flat1

theorem Den.flat1 {M M' : Nat → Prop} {w w' : World} {σ σ' : Sg} {v : V} {u : Value} (h : Den M w σ v u) (hv : v.flat1 = true) : Den M' w' σ' v u := by
  cases h <;> first | (simp [V.flat1] at hv; done) | constructor

theorem Den.flat {M M' : Nat → Prop} {w w' : World} {σ σ' : Sg} {v : V} {u : Value} (h : Den M w σ v u) (hv : v.flat = true) : Den M' w' σ' v u := by
  cases v with
  | agg cs => cases h with | agg _ _ us hl hd => exact .agg _ _ _ hl fun i v u h1 h2 => (hd i v u h1 h2).flat1 (allB_mem hv v (List.mem_of_getElem? h1))
  | tup cs => cases h with | tup _ _ us hl hd => exact .tup _ _ _ hl fun i v u h1 h2 => (hd i v u h1 h2).flat1 (allB_mem hv v (List.mem_of_getElem? h1))
  | _ => exact h.flat1 hv

/-- memory that the callee does not get -/
theorem hsim_nothing {M : Nat → Prop} {w : World} (ks : List Nat) (hk : ks.Nodup) : HSim M w Sg.none [] ks :=
  ⟨⟨fun _ _ h => by simp at h, by simp, fun _ _ _ _ _ h => by simp at h⟩, fun _ _ => rfl, hk⟩

theorem owned_nil {w : World} {σ : Sg} {b : Nat} : ¬ owned w σ [] b := fun ⟨_, _, h, _⟩ => by simp at h

/-- what we own is as it was behind a call that got nothing of it -/
theorem hsim_frame {M M₁ M' M'' : Nat → Prop} {w w' : World} {σ σ' : Sg} {own own' : Own} {ks : List Nat} (h : HSim M w σ own ks) (tr : Tr M₁ w Sg.none [] M' w' σ' own')
    (h2 : ∀ b, b < w.heap.size → (M'' b ↔ M b)) : HSim M'' w' σ own ks ∧ Tr M w σ own M'' w' σ own := by
  have hE : Ext M w M'' w' := ⟨fun b hb hM => ⟨fun hm => hM ((h2 b hb).1 hm), tr.adv.same b hb owned_nil⟩, tr.adv.size⟩
  have same : ∀ b, owned w σ own b → w'.heap[b]? = w.heap[b]? := fun b hb => tr.adv.same b (owned_M h.own hb).2 owned_nil
  have keep : ∀ k b n, (k, b) ∈ own → (holds w' σ k b n ↔ holds w σ k b n) := fun k b n hm => holds_same (Sg.le_refl _) (h.own.key hm) fun ob hob => same ob ⟨k, b, hm, .inl hob⟩
  refine ⟨⟨⟨fun k b hm => ?_, h.own.nodup, fun k b k' b' n m1 m2 hne e1 e2 => h.own.apart k b k' b' n m1 m2 hne ((keep k b n m1).1 e1) ((keep k' b' n m2).1 e2)⟩, h.fresh, h.knodup⟩, ⟨⟨tr.adv.os, tr.adv.tape, tr.adv.output, tr.adv.size, fun b hb _ => tr.adv.same b hb owned_nil, fun b hb _ => h2 b hb⟩, fun b hb => .inl ((owned_le h.own (Sg.le_refl _) same).1 hb), Sg.le_refl _⟩⟩
  refine (h.own.blk k b hm).mono hE (Sg.le_refl _) fun n hn => ?_
  obtain ⟨m1, m2⟩ := owned_M h.own ⟨k, b, hm, hn⟩
  exact ⟨(h2 n m2).2 m1, tr.adv.same n m2 owned_nil⟩

/-- A callee that only reads what it gets and hands back plain values. -/
theorem call_read {P : Program} {f : FuncId} {args : List V} {own : Own} {ks : List Nat} {K : V → Own → List Nat → Prop}
    (h : bors own args fun args' => CallF P f args' [] KS fun v _ _ => v.flat = true ∧ K v own ks) : CallF P f args own ks K := by
  obtain ⟨args', h, hl, hb⟩ := bors_sound h
  constructor
  intro M w σ us hlen hd hh
  have hE := lent_ext M w σ own
  refine (h.out (lent M w σ own) w Sg.none us (by omega) (fun i v' u hv' hu => ?_) (hsim_nothing KS KS_nodup)).mono ?_
  · have hi : i < args.length := by rw [← hl]; exact (List.getElem?_eq_some_iff.1 hv').1
    exact hb M w σ hh.own i args[i] v' u (by simp [hi]) hv' (hd i args[i] u (by simp [hi]) hu)
  · rintro e w' ⟨M', σ', v, own', ks', u, rfl, hv, hh', tr, _, hfl, hK⟩
    have hfr := hsim_frame (M'' := fun b => (b < w.heap.size ∧ M b) ∨ (w.heap.size ≤ b ∧ M' b)) hh tr
      (fun b hb => by constructor <;> intro h; (rcases h with h | h; exact h.2; omega); exact .inl ⟨hb, h⟩)
    exact ⟨_, σ, v, own, ks, u, rfl, hv.flat hfl, hfr.1, hfr.2, Kd.refl _ _ _, hK⟩


/-! ## loops' ends -/

/-- every entry of the new environment is in the old one; the owned blocks are the same -/
theorem weak_env {N : Nat} {chg : List Nat} {env env' : Env} {own : Own} {ks ks' : List Nat} (h : ∀ t v, look env' t = some v → look env t = some v) (hk : ∀ k, k ∈ ks' → k ∈ ks) (hn : ks'.Nodup) : Weak N chg ⟨env, own, ks⟩ ⟨env', own, ks'⟩ :=
  ⟨fun _ M _ σ _ s => ⟨M, σ, ⟨fun t v hv => s.env t v (h t v hv), ⟨s.heap.own, fun k hk' => s.heap.fresh k (hk k hk'), hn⟩, s.size, s.defers⟩, Tr0.refl _ _ _ _, fun _ _ _ => rfl⟩⟩

end Go.Eng
