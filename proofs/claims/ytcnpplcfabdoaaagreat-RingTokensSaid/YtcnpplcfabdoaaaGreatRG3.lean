import Derived.Test.YtcnpplcfabdoaaaGreatRG1
import Derived.Test.YtcnpplcfabdoaaaGreatRG2
import Derived.Test.YtcnpplcfabdoaaaGreatR2
import Derived.Test.YtcnpplcfabdoaaaGreatGR25
namespace Go.Proofs.YtcnpplcfabdoaaaGreat
open Go.Eng
set_option maxRecDepth 100000
set_option linter.unusedVariables false

/-! ## the closed program as a list of trees -/

theorem ret_args {P : Program} {f : FuncId} {args args' : List V} {X : V} (hk : allB V.kf args' = true) (hl : LLe args' args) (h : Ret P f args X) : Ret P f args' X := fun own ks => by
  constructor
  intro M w σ us hlen hd hh
  obtain ⟨d1, d2⟩ := hl.dens (M := M) (w := w) (us := us) hlen (fun i v u hv hu => (hd i v u hv hu).kf (allB_mem hk v (List.mem_of_getElem? hv)) Sg.none)
  exact (h own ks).out M w σ us d1 (fun i v u hv hu => (d2 i v u hv hu).mono (Ext.mk (fun _ _ h => ⟨h, rfl⟩) (Nat.le_refl _)) (Sg.none_le σ)) hh
theorem ret_res {P : Program} {f : FuncId} {args : List V} {X X' : V} (hk : X.kf = true) (hl : VLe X X') (h : Ret P f args X) : Ret P f args X' := fun own ks => by
  constructor
  intro M w σ us hlen hd hh
  refine ((h own ks).out M w σ us hlen hd hh).mono ?_
  rintro e w' ⟨M', σ', v, own', ks', u, rfl, hv, hh', tr, kd, rfl, rfl, rfl⟩
  exact ⟨M', σ', X', _, _, u, rfl, (hl.out _ _ _ (hv.kf hk Sg.none)).mono (Ext.mk (fun _ _ h => ⟨h, rfl⟩) (Nat.le_refl _)) (Sg.none_le σ'), hh', tr, kd, rfl, rfl, rfl⟩

def AllLt : Nat → (Nat → Prop) → Prop
  | 0, _ => True
  | n + 1, P => P 0 ∧ AllLt n fun i => P (i + 1)
theorem AllLt.out : ∀ {n : Nat} {P : Nat → Prop}, AllLt n P → ∀ i, i < n → P i
  | n + 1, P, h, 0, _ => h.1
  | n + 1, P, h, i + 1, hi => AllLt.out h.2 i (by omega)
theorem vle_fzA {n s : Nat} {f g : Nat → Nat → V} (h : AllLt n fun i => AllLt s fun j => VLe (f i j) (g i j)) : VLe (.fz n s false f) (.fz n s false g) :=
  VLe.fz rfl (fun h => h) fun i j hi hj => (h.out i hi).out j hj

theorem vle_str {a b : ByteArray} (h : a = b) : VLe (.str a) (.str b) := by subst h; exact .rfl
theorem pr_agg : VLe pRing.v aggC.v := by
  repeat' (first | exact True.intro | exact VLe.rfl | exact vle_str (by kernel_rfl) | (refine VLe.agg ?_) | (refine vle_fzA ?_) | (refine And.intro ?_ ?_))
theorem agg_pr : VLe aggC.v pRing.v := by
  repeat' (first | exact True.intro | exact VLe.rfl | exact vle_str (by kernel_rfl) | (refine VLe.agg ?_) | (refine vle_fzA ?_) | (refine And.intro ?_ ?_))
theorem ring_types : Ret Tryz.prog 196 [pRing.v] (.bool true) := by
  have h := ev_ret mixed tb_ok ev_types
  exact ret_args (args := [aggC.v]) rfl ⟨pr_agg, True.intro⟩ (by simpa only [C.vs, C.v] using h)
def txtB : ByteArray := match textC with | .str l c => bytesOf l c | _ => default
theorem text_ok : Ret Tryz.prog 44 [] (.str txtB) := by
  have := ev_ret mixed tb_ok ev_text
  simpa only [C.vs, C.v, textC, txtB] using this
theorem parse_ok : Ret Tryz.prog 9 [.str txtB] (.tup [aggC.v, .int .i64 0, .int .i64 0]) := by
  have := ev_ret mixed tb_ok ev_parse
  simpa only [C.vs, C.v, textC, txtB, progC] using this
theorem parse_ok2 : Ret Tryz.prog 9 [.str txtB] (.tup [pRing.v, .int .i64 0, .int .i64 0]) :=
  ret_res (X := .tup [aggC.v, .int .i64 0, .int .i64 0]) rfl (VLe.tup ⟨agg_pr, VLe.rfl, VLe.rfl, True.intro⟩) parse_ok
theorem program_ok : Ret Tryz.prog 43 [.str txtB] pRing.v := by
  refine ret_frz rfl ?_
  refine fn_rule mixed Tryz.func43 rfl hc43 hr43 rfl ?_
  repeat' ((conv => whnf); first | (refine (parse_ok2 _ _).mono ?_; rintro _ _ _ ⟨rfl, rfl, rfl⟩))
  all_goals (conv => whnf)
  exact VLe.rfl
theorem ring_prOk : PrOk pRing where
  vlen := by decide
  var := fun i hi => by
    obtain rfl : i = 0 := by have : i < 1 := hi; omega
    exact ⟨.inl rfl, by decide, by decide, by decide, by decide, by decide⟩
  rlen := by decide
  gd := fun i hi => by
    rcases (show i = 0 ∨ i = 1 by have : i < 2 := hi; omega) with rfl | rfl
    · decide
    · decide
  slen := fun i hi => by
    rcases (show i = 0 ∨ i = 1 by have : i < 2 := hi; omega) with rfl | rfl
    · decide
    · decide
  set := fun i hi j hj => by
    rcases (show i = 0 ∨ i = 1 by have : i < 2 := hi; omega) with rfl | rfl
    · obtain rfl : j = 0 := by have : j < 1 := hj; omega
      decide
    · obtain rfl : j = 0 := by have : j < 1 := hj; omega
      decide
  types := ring_types

/-! ## configurations made of numbers -/

theorem cfg_len (g : G) (vs : List Vr) (raw : List Int) : (cfg g vs raw).length = g.ports.length := cfgC_len _ _ _ _
theorem cfg_row (g : G) (vs : List Vr) (raw : List Int) {v : Nat} (hv : v < g.ports.length) : gC (cfg g vs raw) v = cfgR g vs raw v vs.length := by
  simp [gC, cfg, cfgC, List.getD, hv]
theorem cfgR_get (g : G) (vs : List Vr) (raw : List Int) (v k : Nat) {i : Nat} (hi : i < k) : gI (cfgR g vs raw v k) i = cfgE g vs raw v i := by
  simp [gI, cfgR, List.getD, hi]
theorem cfg_small (g : G) (hg : g.valid = true) (vs : List Vr) (hv : vs.length ≤ 1000) (raw : List Int) : CSmall (cfg g vs raw) := by
  obtain ⟨f1, f2, f3, f4, f5, f6, f7⟩ := val_facts hg
  refine ⟨by rw [cfg_len]; omega, fun r hr => ?_⟩
  obtain ⟨i, hi, e⟩ := List.mem_iff_getElem.1 hr
  rw [cfg_len] at hi
  have h1 := cfg_row g vs raw hi
  have h2 : gC (cfg g vs raw) i = r := by simp [gC, List.getD, cfg_len, hi, e]
  rw [← h2, h1, cfgR_len]
  omega
theorem bV_bnd (p : Pr) (hp : PrOk p) (g : G) (hg : g.valid = true) (v x : Nat) (hx : x < p.vars.length) : bV g p.vars v x = bnd g (gV p.vars x) v := by
  obtain ⟨f1, f2, f3, f4, f5, f6, f7⟩ := val_facts hg
  rw [bV, bnd, f3]
  rcases (hp.var x hx).kind with h | h | h
  · rw [if_neg (by omega), if_neg (by omega), if_pos h]; rfl
  · rw [if_pos h, if_neg (by omega), if_pos h]
  · rw [if_neg (by omega), if_pos h, if_neg (by omega), if_neg (by omega)]
/-- what is made of numbers is a configuration -/
theorem cfg_conf (p : Pr) (hp : PrOk p) (g : G) (hg : g.valid = true) (raw : List Int) : Conf p g (cfg g p.vars raw) := by
  obtain ⟨f1, f2, f3, f4, f5, f6, f7⟩ := val_facts hg
  refine ⟨by rw [cfg_len]; exact f3, fun v hv => ?_, fun v hv x hx => ?_⟩
  · rw [cfg_len] at hv
    rw [cfg_row g _ raw hv, cfgR_len]
  · rw [cfg_len] at hv
    rw [cfg_row g _ raw hv, cfgR_get _ _ _ _ _ hx, cfgE, bV_bnd p hp g hg v x hx]
    have hb : (bnd g (gV p.vars x) v).1 ≤ (bnd g (gV p.vars x) v).2 := by
      have hx := hp.var x hx
      have h1 := bnd_in hg hx hv
      rcases hx.kind with h | h | h
      · have := h1.2.2.2.2 h; omega
      · rw [bnd, if_neg (by omega), if_pos h]; decide
      · rw [bnd, if_neg (by omega), if_neg (by omega)]; simp only; omega
    have hw := within_range (gI raw (v * p.vars.length + x)) (b := (bnd g (gV p.vars x) v).2 - (bnd g (gV p.vars x) v).1 + 1) (by omega)
    omega
theorem cfg_rconf (g : G) (hg : g.valid = true) (raw : List Int) : g.rconf (cfg g vX raw) = true := by
  obtain ⟨f1, f2, f3, f4, f5, f6, f7⟩ := val_facts hg
  have h := cfg_conf pRing ring_prOk g hg raw
  rw [G.rconf, conf_iff]
  refine ⟨h.len, fun v hv => ?_⟩
  have hl : v < (cfg g vX raw).length := by rw [cfg_len]; omega
  refine ⟨h.row v hl, fun x hx => ?_⟩
  obtain rfl : x = 0 := by omega
  have := h.val v hl 0 (by decide)
  have e : bnd g (gV pRing.vars 0) v = (0, 0 + 1 * (g.ids.length : Int) + 0 * topI g) := rfl
  rw [e] at this
  simp only [bN]
  change 0 ≤ gI (gC (cfg g vX raw) v) 0 ∧ gI (gC (cfg g vX raw) v) 0 ≤ 0 + 1 * (g.ids.length : Int) + 0 * topI g at this
  omega

set_option maxHeartbeats 8000000 in
theorem lawTokens (x : Net) (hx : x.Small) (raw : List Int) (hraw : raw.length ≤ 9223372036854775807) : Ret Tryz.prog 8 [x.v, .fz raw.length 1 false (vI raw)] (.bool true) := by
  have hR := ringNet_ok x hx 12 (by omega) (by omega)
  obtain ⟨hfit, hs⟩ := ringG_ok x (most := 12) (by omega) (by omega)
  generalize x.ringG 12 = g at *
  have hg : g.valid = true := (rfit_facts hfit).1
  have hcf := config_ok g hg vX vX_ok (fun x => ⟨by rcases x with _ | x <;> simp [gV, vX] <;> decide, by rcases x with _ | x <;> simp [gV, vX] <;> decide⟩) raw hraw
  have hc := cfg_conf pRing ring_prOk g hg raw
  have hrc := cfg_rconf g hg raw
  have hsm := cfg_small g hg vX (by decide) raw
  change Conf pRing g (cfg g vX raw) at hc
  generalize cfg g vX raw = c at *
  have hv := vars_ok
  have hp := privileged_ok g hs c hsm
  have he := senabled_ok pRing ring_prOk g hs hg c hc
  have hl := legit_ok g hs c hsm
  have hk := known_ok
  have htx := text_ok
  have hpr := program_ok
  obtain ⟨t1, t2⟩ := ring_tokens hfit hrc
  rw [ring_en hfit hrc] at he
  have hlt : g.rpriv c < 4294967296 := by
    rw [G.rpriv]; split
    · exact nb_lt _ (by rw [(conf_small hrc).1]; have := (rfit_facts hfit).2.2.1; omega)
    · decide
  generalize g.rpriv c = s at *
  have hband : bitI .and .u32 (s : Int) ((s : Int) - 1) = ((s &&& (s - 1) : Nat) : Int) := by
    rw [show (s : Int) - 1 = ((s - 1 : Nat) : Int) by omega]
    exact bit_and hlt (by omega)
  refine ret_frz rfl ?_
  refine fn_rule mixed Tryz.func8 rfl hc8 hr8 rfl ?_
  repeat' ((conv => whnf); first | (refine Sv.mk ((s &&& (s - 1) : Nat) : Int) hband.symm ?_) | (refine Br.tt ?_) | (refine Br.ff ?_) | (refine Br.dec ?_ ?_ <;> intro _ <;> try omega) | (refine Br.bne ?_ ?_ <;> intro _ <;> try omega) | (refine Ar.u32 (by omega) (by omega) ?_) | (refine (hR _ _).mono ?_; rintro _ _ _ ⟨rfl, rfl, rfl⟩) | (refine (hcf _ _).mono ?_; rintro _ _ _ ⟨rfl, rfl, rfl⟩) | (refine (hv _ _).mono ?_; rintro _ _ _ ⟨rfl, rfl, rfl⟩) | (refine (hp _ _).mono ?_; rintro _ _ _ ⟨rfl, rfl, rfl⟩) | (refine (he _ _).mono ?_; rintro _ _ _ ⟨rfl, rfl, rfl⟩) | (refine (hl _ _).mono ?_; rintro _ _ _ ⟨rfl, rfl, rfl⟩) | (refine (hk _ _).mono ?_; rintro _ _ _ ⟨rfl, rfl, rfl⟩) | (refine (htx _ _).mono ?_; rintro _ _ _ ⟨rfl, rfl, rfl⟩) | (refine (hpr _ _).mono ?_; rintro _ _ _ ⟨rfl, rfl, rfl⟩) | (refine And.intro rfl ?_) | (refine Br.any (fun _ => ?_) (fun _ => ?_)))
  all_goals (conv => whnf)
  all_goals first
    | exact VLe.rfl
    | (rename_i h1 h2; have := t2.2 (by omega); rw [h2] at this; cases this)
    | (rename_i h1 h2; have := t2.1 h2; omega)
end Go.Proofs.YtcnpplcfabdoaaaGreat
