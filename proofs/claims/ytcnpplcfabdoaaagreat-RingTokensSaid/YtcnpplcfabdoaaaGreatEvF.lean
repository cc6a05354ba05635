/-
  Closed states are run, part F: a call of closed things, as a theorem.
-/
import Derived.Test.YtcnpplcfabdoaaaGreatEvE
namespace Go.Eng

noncomputable def cfin (r : R) : Option C := match r.v with
  | .tup cs => match cbors r.o cs with
    | some l => some (.tup l)
    | none => none
  | v => cbor r.o v
theorem cfin_ok {r : R} {c : C} {K : V → Prop} (h : cfin r = some c) (hK : K c.v) : frzT (ownV r.o) r.v.v K := by
  obtain ⟨v, o, k⟩ := r
  unfold cfin at h
  simp only at h ⊢
  split at h
  · split at h
    · rename_i l hl
      cases h
      simp only [C.v, frzT]
      exact cbors_ok hl (by simpa [C.v] using hK)
    · cases h
  · rename_i hne
    have hb := cbor_ok h hK
    cases v <;> first
      | exact (hne _ rfl).elim
      | (simp only [C.v] at hb ⊢; simp only [frzT]; exact hb)

noncomputable def evX (tb : List (Nat × FDef)) (lf fuel : Nat) (f : FuncId) (args : List C) : Option C := match allC kfC args with
  | true => match evF tb lf fuel f args [] 0 with
    | some r => cfin r
    | none => none
  | false => none

theorem ev_ret {P : Program} (hm : P.follows .mixedOrders = true) {tb : List (Nat × FDef)} (ht : TbOk P tb) {lf fuel : Nat} {f : FuncId} {args : List C} {c : C} (h : evX tb lf fuel f args = some c) : Ret P f (C.vs args) c.v := by
  unfold evX at h
  split at h
  case h_2 => cases h
  rename_i hk
  have hk : allB V.kf (C.vs args) = true := by rw [allB_vs kfC_eq]; exact hk
  split at h
  case h_2 => cases h
  rename_i r hr
  have hc := ((evF_ok hm ht (lf := lf) fuel).out _ _ _ _ _ hr).2 (fun v own' _ => frzT own' v fun v' => v' = c.v) (cfin_ok h rfl)
  intro own ks
  constructor
  intro M w σ us hlen hd hh
  refine (hc.out M w Sg.none us hlen (fun i v u hv hu => (hd i v u hv hu).kf (allB_mem hk v (List.mem_of_getElem? hv)) Sg.none) (hsim_nothing (ksV 0) List.nodup_range')).mono ?_
  rintro e w' ⟨M', σ', v, own', ks', u, rfl, hv, hh', tr, _, hfr⟩
  obtain ⟨v', hK, hv'⟩ := frzT_sound hfr
  subst hK
  have hM : ∀ b, b < w.heap.size → (lent M' w' σ' own' b ↔ M b) := by
    intro b hb
    have hno : ¬ owned w' σ' own' b := fun ho => by
      rcases tr.new b ho with h1 | h1
      · exact owned_nil h1
      · omega
    constructor
    · intro h1; exact (tr.adv.muts b hb owned_nil).1 h1.1
    · intro h1; exact ⟨(tr.adv.muts b hb owned_nil).2 h1, hno⟩
  have hfr := hsim_frame (M'' := lent M' w' σ' own') hh tr hM
  exact ⟨_, σ, c.v, own, ks, u, rfl, (hv' M' w' σ' u hh'.own hv).mono (Ext.mk (fun _ _ h => ⟨h, rfl⟩) (Nat.le_refl _)) (Sg.none_le σ), hfr.1, hfr.2, Kd.refl _ _ _, rfl, rfl, rfl⟩

theorem fd_code {P : Program} {f : FuncId} {fn : Func} {c : Code} {sc : SC} {n : Nat} {rs : List RV} (hf : P.funcs[f]? = some fn) (hb : fn.body = some c) (hn : fn.ntmps = n) (hnm : (fn.name == "runtime.NumGoroutine") = false)
    (hc : cCode P fn.ntmps c = some sc) (hr : cRes P fn.results.toList = some rs) : FdOk P f (.code sc n rs) := by
  subst hn
  exact ⟨by simp [callable, hf, hb, hnm], fn, c, hf, hb, rfl, hc, hr⟩

/-- a function that is run by itself: what it returns is frozen, and computed once -/
theorem fd_pure {P : Program} (hm : P.follows .mixedOrders = true) {tb : List (Nat × FDef)} (ht : TbOk P tb) {lf fuel : Nat} {f : FuncId} (hf : callable P f = true) : FdOk P f (.ext (evX tb lf fuel f)) :=
  ⟨hf, fun _ _ h => ev_ret hm ht h⟩

/-- blocks that nobody owns may change, if they may be written at all -/
theorem hsim_ext {M M' : Nat → Prop} {w w' : World} {σ : Sg} {own : Own} {ks : List Nat} (hh : HSim M w σ own ks) (hE : Ext M w M' w') (hM : ∀ b, owned w σ own b → M' b ∧ w'.heap[b]? = w.heap[b]?) :
    HSim M' w' σ own ks ∧ ∀ n, owned w' σ own n ↔ owned w σ own n := by
  have keep : ∀ k b n, (k, b) ∈ own → (holds w' σ k b n ↔ holds w σ k b n) := fun k b n hm => holds_same (Sg.le_refl _) (hh.own.key hm) fun ob hob => (hM ob ⟨k, b, hm, .inl hob⟩).2
  exact ⟨⟨⟨fun k b hm => (hh.own.blk k b hm).mono hE (Sg.le_refl _) fun n hn => hM n ⟨k, b, hm, hn⟩, hh.own.nodup, fun k b k' b' n m1 m2 hne e1 e2 => hh.own.apart k b k' b' n m1 m2 hne ((keep k b n m1).1 e1) ((keep k' b' n m2).1 e2)⟩, hh.fresh, hh.knodup⟩,
    fun n => owned_le hh.own (Sg.le_refl _) fun b hb => (hM b hb).2⟩

end Go.Eng
