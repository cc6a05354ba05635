/-
  The engine, part R: calls that freeze what they get.
-/
import Derived.Test.YtcnpplcfabdoaaaGreatEngQ
namespace Go.Eng

theorem LLe.dens {cs cs' : List V} (h : LLe cs cs') {M : Nat → Prop} {w : World} {us : List Value} (hl : cs.length = us.length) (hd : ∀ (i : Nat) (v : V) (u : Value), cs[i]? = some v → us[i]? = some u → Den M w Sg.none v u) :
    cs'.length = us.length ∧ ∀ (i : Nat) (v : V) (u : Value), cs'[i]? = some v → us[i]? = some u → Den M w Sg.none v u := by
  obtain ⟨l, hr⟩ := h.out
  refine ⟨by omega, fun i v u hv hu => ?_⟩
  have hi : i < cs.length := by rw [← l]; exact (List.getElem?_eq_some_iff.1 hv).1
  exact (hr i cs[i] v (by simp [hi]) hv).out M w u (hd i cs[i] u (by simp [hi]) hu)

/-- A call of what hands back X, the arguments frozen for good. -/
theorem call_frz {P : Program} {f : FuncId} {args args0 : List V} {X : V} {own : Own} {ks : List Nat} {K : V → Own → List Nat → Prop} (keys : List Nat) (h : Ret P f args0 X)
    (hb : bors (keepK keys own) args fun args' => LLe args' args0) (hK : K X (dropK keys own) ks) : CallF P f args own ks K := by
  obtain ⟨args', hle, hl, hs⟩ := bors_sound hb
  constructor
  intro M w σ us hlen hd hh
  obtain ⟨s2, hM⟩ := freeze_sim hh keys
  have ho := keep_sim hh keys
  obtain ⟨d1, d2⟩ := hle.dens (M := lent M w σ (keepK keys own)) (w := w) (us := us) (by omega) (fun i v' u hv' hu => by
    have hi : i < args.length := by rw [← hl]; exact (List.getElem?_eq_some_iff.1 hv').1
    exact hs M w σ ho i args[i] v' u (by simp [hi]) hv' (hd i args[i] u (by simp [hi]) hu))
  refine ((h (dropK keys own) ks).out (lent M w σ (keepK keys own)) w σ us d1 (fun i v u hv hu => (d2 i v u hv hu).mono (Ext.mk (fun _ _ h => ⟨h, rfl⟩) (Nat.le_refl _)) (Sg.none_le σ)) s2).mono ?_
  rintro e w' ⟨M', σ', v, own', ks', u, rfl, hv, hh', tr, kd, rfl, rfl, rfl⟩
  have hsub : ∀ b, owned w σ (dropK keys own) b → owned w σ own b := fun b ⟨k, c, h1, h2⟩ => ⟨k, c, (dropK_mem.1 h1).1, h2⟩
  refine ⟨M', σ', _, _, _, u, rfl, hv, hh', ⟨⟨tr.adv.os, tr.adv.tape, tr.adv.output, tr.adv.size, fun b hb hn => tr.adv.same b hb fun x => hn (hsub b x), fun b hb hn => (tr.adv.muts b hb fun x => hn (hsub b x)).trans (hM b hn)⟩, ?_, tr.le⟩, ⟨kd.1, kd.2.1, fun k hk => ?_⟩, hK⟩
  · intro b hb
    rcases tr.new b hb with x | x
    · exact .inl (hsub b x)
    · exact .inr x
  · rcases kd.2.2 k hk with x | x
    · obtain ⟨⟨q, c⟩, h1, h2⟩ := List.mem_map.1 x
      exact .inl (List.mem_map.2 ⟨_, (dropK_mem.1 h1).1, h2⟩)
    · exact .inr x

end Go.Eng
