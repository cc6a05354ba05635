import Derived.Test.YtcnpplcfabdoaaaGreatEngV
/-! ## calls that read the package's table -/
namespace Go.Eng

/-- a call that leaves everything as it was and hands back X, where the table is at hand -/
def RetG (P : Program) (G : Blk) (f : FuncId) (args : List V) (X : V) : Prop := ∀ own ks, look own 999 = some G → CallF P f args own ks fun v o k => v = X ∧ o = own ∧ k = ks
theorem Ret.g {P : Program} {f : FuncId} {args : List V} {X : V} (h : Ret P f args X) (G : Blk) : RetG P G f args X := fun own ks _ => h own ks

def σG : Sg := fun k => match Nat.beq k 999 with | true => some (none, 0, 0) | false => none
theorem σG_owned {w : World} {g n : Nat} {f : Nat → Nat → V} {b : Nat} : ¬ owned w σG [(999, .glob g n f)] b := by
  rintro ⟨k, c, hm, hb⟩
  simp only [List.mem_singleton, Prod.mk.injEq] at hm
  obtain ⟨rfl, rfl⟩ := hm
  simp [holds, rowOf, blkOf, σG] at hb

theorem hsim_glob {M : Nat → Prop} {w : World} {g n : Nat} {f : Nat → Nat → V} (ks : List Nat) (hk : ks.Nodup) (h9 : memN 999 ks = false) (hd : Den M w Sg.none (.fe n 1 f 0 0) (.pointer (some ⟨g, 0, none⟩))) : HSim M w σG [(999, .glob g n f)] ks := by
  refine ⟨⟨fun k b hm => ?_, by simp, fun k b k' b' n h1 h2 hne => ?_⟩, fun k hk' => ?_, hk⟩
  · simp only [List.mem_singleton, Prod.mk.injEq] at hm
    obtain ⟨rfl, rfl⟩ := hm
    exact ⟨⟨0, 0, rfl⟩, hd⟩
  · simp only [List.mem_singleton, Prod.mk.injEq] at h1 h2
    exact (hne (h1.1.trans h2.1.symm)).elim
  · have hne : k ≠ 999 := fun e => by subst e; rw [memN_iff.2 hk'] at h9; cases h9
    simp only [σG]
    have : Nat.beq k 999 = false := by
      cases e : Nat.beq k 999 with
      | false => rfl
      | true => exact (hne (Nat.eq_of_beq_eq_true e)).elim
    rw [this]

theorem tr_glob {M M' : Nat → Prop} {w w' : World} {σ' : Sg} {g n : Nat} {f : Nat → Nat → V} {own' : Own} (tr : Tr M w σG [(999, .glob g n f)] M' w' σ' own') : Tr M w Sg.none [] M' w' σ' own' :=
  ⟨⟨tr.adv.os, tr.adv.tape, tr.adv.output, tr.adv.size, fun b hb _ => tr.adv.same b hb σG_owned, fun b hb _ => tr.adv.muts b hb σG_owned⟩, fun b hb => .inr ((tr.new b hb).resolve_left σG_owned), Sg.none_le _⟩

theorem ret_frzGk {P : Program} {f : FuncId} {args : List V} {X : V} {g n : Nat} {F : Nat → Nat → V} (ks0 : List Nat) (hn : ks0.Nodup) (h9 : memN 999 ks0 = false) (hk : allB V.kf args = true) (h : CallF P f args [(999, .glob g n F)] ks0 fun v own' _ => frzT own' v fun v' => VLe v' X) : RetG P (.glob g n F) f args X := by
  intro own ks hl
  constructor
  intro M w σ us hlen hd hh
  have hG := (hh.own.blk 999 _ (look_mem hl)).2
  refine (h.out M w σG us hlen (fun i v u hv hu => (hd i v u hv hu).kf (allB_mem hk v (List.mem_of_getElem? hv)) σG) (hsim_glob ks0 hn h9 hG)).mono ?_
  rintro e w' ⟨M', σ', v, own', ks', u, rfl, hv, hh', tr0, _, hfr⟩
  have tr := tr_glob tr0
  obtain ⟨v', hK, hv'⟩ := frzT_sound hfr
  have hM : ∀ b, b < w.heap.size → (lent M' w' σ' own' b ↔ M b) := by
    intro b hb
    have hno : ¬ owned w' σ' own' b := fun ho => by
      rcases tr.new b ho with h1 | h1
      · exact owned_nil h1
      · omega
    constructor
    · intro h1; exact (tr.adv.muts b hb owned_nil).1 h1.1
    · intro h1; exact ⟨(tr.adv.muts b hb owned_nil).2 h1, hno⟩
  have hfr := hsim_frame (M'' := lent M' w' σ' own') hh tr hM
  exact ⟨_, σ, X, own, ks, u, rfl, (hK.out _ _ _ (hv' M' w' σ' u hh'.own hv)).mono (Ext.mk (fun _ _ h => ⟨h, rfl⟩) (Nat.le_refl _)) (Sg.none_le σ), hfr.1, hfr.2, Kd.refl _ _ _, rfl, rfl, rfl⟩
theorem ret_frzG {P : Program} {f : FuncId} {args : List V} {X : V} {g n : Nat} {F : Nat → Nat → V} (hk : allB V.kf args = true) (h : CallF P f args [(999, .glob g n F)] KS fun v own' _ => frzT own' v fun v' => VLe v' X) : RetG P (.glob g n F) f args X :=
  ret_frzGk KS KS_nodup rfl hk h
theorem ret_frzG2 {P : Program} {f : FuncId} {args : List V} {X : V} {g n : Nat} {F : Nat → Nat → V} (hk : allB V.kf args = true) (h : CallF P f args [(999, .glob g n F)] KS2 fun v own' _ => frzT own' v fun v' => VLe v' X) : RetG P (.glob g n F) f args X :=
  ret_frzGk KS2 KS2_nodup rfl hk h

/-- A call of what hands back X, the arguments frozen for good. -/
theorem call_frzG {P : Program} {f : FuncId} {args args0 : List V} {X : V} {G : Blk} {own : Own} {ks : List Nat} {K : V → Own → List Nat → Prop} (keys : List Nat) (h : RetG P G f args0 X) (hl : look (dropK keys own) 999 = some G)
    (hb : bors (keepK keys own) args fun args' => LLe args' args0) (hK : K X (dropK keys own) ks) : CallF P f args own ks K := by
  obtain ⟨args', hle, hl', hs⟩ := bors_sound hb
  constructor
  intro M w σ us hlen hd hh
  obtain ⟨s2, hM⟩ := freeze_sim hh keys
  have ho := keep_sim hh keys
  obtain ⟨d1, d2⟩ := hle.dens (M := lent M w σ (keepK keys own)) (w := w) (us := us) (by omega) (fun i v' u hv' hu => by
    have hi : i < args.length := by rw [← hl']; exact (List.getElem?_eq_some_iff.1 hv').1
    exact hs M w σ ho i args[i] v' u (by simp [hi]) hv' (hd i args[i] u (by simp [hi]) hu))
  refine ((h (dropK keys own) ks hl).out (lent M w σ (keepK keys own)) w σ us d1 (fun i v u hv hu => (d2 i v u hv hu).mono (Ext.mk (fun _ _ h => ⟨h, rfl⟩) (Nat.le_refl _)) (Sg.none_le σ)) s2).mono ?_
  rintro e w' ⟨M', σ', v, own', ks', u, rfl, hv, hh', tr, kd, rfl, rfl, rfl⟩
  have hsub : ∀ b, owned w σ (dropK keys own) b → owned w σ own b := fun b ⟨k, c, h1, h2⟩ => ⟨k, c, (dropK_mem.1 h1).1, h2⟩
  refine ⟨M', σ', _, _, _, u, rfl, hv, hh', ⟨⟨tr.adv.os, tr.adv.tape, tr.adv.output, tr.adv.size, fun b hb hn => tr.adv.same b hb fun x => hn (hsub b x), fun b hb hn => (tr.adv.muts b hb fun x => hn (hsub b x)).trans (hM b hn)⟩, ?_, tr.le⟩, ⟨kd.1, kd.2.1, fun k hk => ?_⟩, hK⟩
  · intro b hb
    rcases tr.new b hb with x | x
    · exact .inl (hsub b x)
    · exact .inr x
  · rcases kd.2.2 k hk with x | x
    · obtain ⟨⟨q, c⟩, h1, h2⟩ := List.mem_map.1 x
      exact .inl (List.mem_map.2 ⟨_, (dropK_mem.1 h1).1, h2⟩)
    · exact .inr x


open Go.ChangeShapes Go.WideShapes Go.ChangeAt Go.RowKit in
/-- what the engine says of a call, in the form's words -/
theorem retG_calls {P : Program} {f : FuncId} {vs : List V} {W : World} {args : Array Value} {g n : Nat} {F : Nat → Nat → V} (h : RetG P (.glob g n F) f vs (.bool true)) (hl : vs.length = args.size)
    (hG : Den (fun _ => False) W Sg.none (.fe n 1 F 0 0) (.pointer (some ⟨g, 0, none⟩)))
    (hd : ∀ (i : Nat) (v : V) (u : Value), vs[i]? = some v → args[i]? = some u → Den (fun _ => False) W Sg.none v u) :
    Calls P f args W fun e W' => e = .returned (.bool true) ∧ Below W.heap.size W W' := by
  have := (h [(999, .glob g n F)] KS rfl).out (fun _ => False) W σG args.toList (by simpa using hl) (fun i v u hv hu => (hd i v u hv (by simpa using hu)).mono (Ext.mk (fun _ _ h => ⟨h, rfl⟩) (Nat.le_refl _)) (Sg.none_le σG)) (hsim_glob KS KS_nodup rfl hG)
  rw [Array.toArray_toList] at this
  refine this.mono ?_
  rintro e W' ⟨M', σ', v, own', ks', u, rfl, hv, hh', tr, _, rfl, rfl, rfl⟩
  cases hv
  exact ⟨rfl, tr.adv.os, tr.adv.tape, tr.adv.output, tr.adv.size, fun b hb => tr.adv.same b hb σG_owned⟩
end Go.Eng
