import Derived.Test.YtjadlpflhmooaaaGR25
namespace Go.Proofs.Ytjadlpflhmooaaa
open Go.Eng
set_option maxRecDepth 100000
set_option linter.unusedVariables false

theorem mx_good {g : G} (hg : g.valid = true) (p : Nat → Bool) : mx g p = (g.indep (nb p g.ports.length) && decide (nb p g.ports.length ||| g.nbrs (nb p g.ports.length) = full g.ports.length)) := by
  obtain ⟨f1, f2, f3, f4, f5, f6, f7⟩ := val_facts hg
  rw [Bool.eq_iff_iff, Bool.and_eq_true, mx, decide_eq_true_eq, decide_eq_true_eq, G.indep, hg, Bool.true_and, decide_eq_true_eq, nbrs_valid hg, nb_and_nb, nb_or_nb, nb_ndiff _ _ (by omega), nb_zero_iff, nb_zero_iff]
  show _ ↔ _ ∧ nb _ _ = nb _ _
  rw [nb_inj]
  generalize nb p g.ports.length = s
  constructor
  · intro h
    refine ⟨⟨fun i hi => by simp, fun i hi => by rw [h i hi]; cases p i <;> rfl⟩, fun i hi => by rw [h i hi]; cases p i <;> rfl⟩
  · rintro ⟨⟨_, h2⟩, h3⟩ v hv
    have a := h2 v hv
    have b := h3 v hv
    revert a b
    cases p v <;> cases nbr g s v <;> simp

theorem cfg_len (g : G) (vs : List Vr) (raw : List Int) : (cfg g vs raw).length = g.ports.length := cfgC_len _ _ _ _
theorem cfg_row (g : G) (vs : List Vr) (raw : List Int) {v : Nat} (hv : v < g.ports.length) : gC (cfg g vs raw) v = cfgR g vs raw v vs.length := by
  simp [gC, cfg, cfgC, List.getD, hv]
theorem cfgR_get (g : G) (vs : List Vr) (raw : List Int) (v k : Nat) {i : Nat} (hi : i < k) : gI (cfgR g vs raw v k) i = cfgE g vs raw v i := by
  simp [gI, cfgR, List.getD, hi]
theorem cfg_small (g : G) (hg : g.valid = true) (vs : List Vr) (hv : vs.length ≤ 1000) (raw : List Int) : CSmall (cfg g vs raw) := by
  obtain ⟨f1, f2, f3, f4, f5, f6, f7⟩ := val_facts hg
  refine ⟨by rw [cfg_len]; omega, fun r hr => ?_⟩
  obtain ⟨i, hi, e⟩ := List.mem_iff_getElem.1 hr
  rw [cfg_len] at hi
  have h1 := cfg_row g vs raw hi
  have h2 : gC (cfg g vs raw) i = r := by simp [gC, List.getD, cfg_len, hi, e]
  rw [← h2, h1, cfgR_len]
  omega
theorem cfg_iconf (g : G) (hg : g.valid = true) (raw : List Int) : g.iconf (cfg g vM raw) = true := by
  obtain ⟨f1, f2, f3, f4, f5, f6, f7⟩ := val_facts hg
  rw [G.iconf, conf_iff]
  refine ⟨by rw [cfg_len]; omega, fun v hv => ?_⟩
  rw [cfg_row g vM raw (by omega)]
  refine ⟨by rw [cfgR_len]; rfl, fun x hx => ?_⟩
  rw [cfgR_get _ _ _ _ _ (show x < vM.length from hx)]
  have e : x = 0 := by omega
  subst e
  have hb : bV g vM v 0 = (0, 1) := rfl
  have hw := within_range (gI raw (v * vM.length + 0)) (b := 1 - 0 + 1) (by omega)
  simp only [cfgE, hb, b01]
  omega
theorem vM_lo (x : Nat) : 0 ≤ (gV vM x).lo ∧ (gV vM x).lo ≤ 1000 := by
  rcases x with _ | x
  · exact ⟨by decide, by decide⟩
  · have : gV vM (x + 1) = default := by simp [gV, vM, List.getD]
    rw [this]; exact ⟨by decide, by decide⟩

set_option maxHeartbeats 8000000 in
theorem lawSet (x : Net) (hx : x.Small) (raw : List Int) (hraw : raw.length ≤ 9223372036854775807) : Ret Try.prog 3 [x.v, .fz raw.length 1 false (vI raw)] (.bool true) := by
  have h0 := any_ok x hx 9 (by omega) (by omega)
  have hg := any_valid x (most := 9) (by omega) (by omega)
  generalize x.any 9 = g at *
  obtain ⟨f1, f2, f3, f4, f5, f6, f7⟩ := val_facts hg
  have hs := valid_small hg
  have h1 := config_ok g hg vM vM_ok vM_lo raw hraw
  have hic := cfg_iconf g hg raw
  have hcs := cfg_small g hg vM (by decide) raw
  have hcl := cfg_len g vM raw
  generalize cfg g vM raw = c at *
  obtain ⟨i1, i2⟩ := iconf_facts hic
  have h2 := members_ok g hs c hcs
  have hm : g.imem c = nb (one c 0) g.ports.length := by rw [G.imem, hg, hic, hcl]; rfl
  rw [hm] at h2
  have hlt := nb_lt (one c 0) (k := g.ports.length) (by omega)
  have h3 := independent_ok g hs _ hlt
  have h4 := rneighbours_ok g hs _ hlt
  have h5 := rall_ok g.ports.length (by omega)
  have h6 := ilegit_ok g hs c hcs
  have hil : g.ilegit c = mx g (one c 0) := by rw [G.ilegit, hg, hic]; rfl
  rw [hil, mx_good hg] at h6
  have hnl : g.nbrs (nb (one c 0) g.ports.length) < 4294967296 := by rw [nbrs_valid hg]; exact nb_lt _ (by omega)
  have hor := bit_or hlt hnl
  refine ret_frz rfl ?_
  refine fn_rule mixed Try.func3 rfl hc3 hr3 rfl ?_
  repeat' ((conv => whnf); first
      | (refine Br.tt ?_)
      | (refine Br.ff ?_)
      | (refine Br.dec (fun _ => ?_) (fun _ => ?_) <;> first | (exfalso; omega) | skip)
      | (refine Br.beq (fun _ => ?_) (fun _ => ?_) <;> first | (exfalso; omega) | skip)
      | (refine Br.bne (fun _ => ?_) (fun _ => ?_) <;> first | (exfalso; omega) | skip)
      | (refine Br.nbeq (fun _ => ?_) (fun _ => ?_) <;> first | (exfalso; omega) | skip)
      | (refine Br.nble (fun _ => ?_) (fun _ => ?_) <;> first | (exfalso; omega) | skip)
      | (refine Ar.i64 (by omega) (by omega) ?_)
      | (refine Ar.u32 (by omega) (by omega) ?_)
      | (refine Ar.sh1 (by omega) ?_)
      | (refine Ar.u64 (by omega) (by omega) ?_)
      | (refine Sv.mk _ rfl ?_)
      | (refine Nz.mk (by omega) ?_)
      | (refine Nn.mk (by omega) ?_)
      | (refine Ix.nat (by omega) ?_)
      | (refine Ix.ofNat (by omega) ?_)
      | (refine Ix.mk 0 rfl (by omega) ?_)
      | (refine Ix.mk 1 rfl (by omega) ?_)
      | (refine Ix.int (by omega) (by omega) ?_)
      | (refine Bd.nat (by omega) ?_)
      | (refine Bd.mk 0 rfl (by omega) ?_)
      | (refine Bd.mk 1 rfl (by omega) ?_)
      | (refine Bd.int (by omega) (by omega) ?_)
      | (refine Len.mk (by omega) ?_)
      | (refine Len.mk (by simp only [List.length_cons, List.length_nil]; omega) ?_)
      | (refine Ltn.mk (by omega) ?_)
      | (refine Both.mk ?_ ?_)
      | (refine MkS.vec ?_)
      | (refine (h0 _ _).mono ?_; rintro _ _ _ ⟨rfl, rfl, rfl⟩)
      | (refine (ivars_ok _ _).mono ?_; rintro _ _ _ ⟨rfl, rfl, rfl⟩)
      | (refine (h1 _ _).mono ?_; rintro _ _ _ ⟨rfl, rfl, rfl⟩)
      | (refine (h2 _ _).mono ?_; rintro _ _ _ ⟨rfl, rfl, rfl⟩)
      | (refine And.intro rfl ?_)
      | (refine Br.any (fun _ => ?_) (fun _ => ?_)))
  all_goals (conv => whnf)
  refine loop_r mixed [5, 6, 7] (fun i : Nat => [(8, .int .i64 i)]) (fun m v => m = c.length - v ∧ v ≤ c.length) c.length 0 ⟨rfl, Nat.zero_le _⟩ ?_ ?_
  · refine weak_by (fun _ _ => [(0, some 0), (1, some 1)]) ?_ ?_ rfl
    · repeat' (first | exact True.intro | exact VRen.oel rfl rfl | exact VRen.map rfl | exact VRen.yld rfl | (refine VRen.fn ?_) | exact ⟨rfl, rfl⟩ | exact ⟨rfl, rfl, rfl⟩ | (refine ⟨rfl, rfl, rfl, rfl, rfl, ?_⟩) | (refine ⟨⟨_, rfl, ?_⟩, ?_⟩) | exact VRen.kf rfl | exact VRen.int rfl | exact VRen.int (by omega) | exact VRen.loc rfl | exact VRen.vec rfl rfl rfl | exact VRen.vec rfl (by omega) (by omega) | exact VRen.nil rfl rfl | exact VRen.nil rfl (by omega) | exact VRen.fz rfl (fun h => h) (fun _ _ _ _ => VLe.rfl) | (refine ⟨Nat.le_refl _, rfl, fun i j hi hj => ?_⟩) | (refine ⟨by omega, rfl, fun i j hi hj => ?_⟩) | exact VLe.rfl | (refine ⟨⟨_, _, rfl⟩, ?_⟩) | (refine And.intro ?_ ?_))
    · repeat' (first | exact True.intro | exact VRen.oel rfl rfl | exact VRen.map rfl | exact VRen.yld rfl | (refine VRen.fn ?_) | exact ⟨rfl, rfl⟩ | exact ⟨rfl, rfl, rfl⟩ | (refine ⟨rfl, rfl, rfl, rfl, rfl, ?_⟩) | (refine ⟨⟨_, rfl, ?_⟩, ?_⟩) | exact VRen.kf rfl | exact VRen.int rfl | exact VRen.int (by omega) | exact VRen.loc rfl | exact VRen.vec rfl rfl rfl | exact VRen.vec rfl (by omega) (by omega) | exact VRen.nil rfl rfl | exact VRen.nil rfl (by omega) | exact VRen.fz rfl (fun h => h) (fun _ _ _ _ => VLe.rfl) | (refine ⟨Nat.le_refl _, rfl, fun i j hi hj => ?_⟩) | (refine ⟨by omega, rfl, fun i j hi hj => ?_⟩) | exact VLe.rfl | (refine ⟨⟨_, _, rfl⟩, ?_⟩) | (refine And.intro ?_ ?_))
  rintro m v ⟨hm2, hv⟩
  by_cases hvl : v < c.length
  · obtain ⟨r1, r2, r3⟩ := i2 v hvl
    have hb := bit_ok (nb (one c 0) g.ports.length) hlt v
    have hbv : hasB (nb (one c 0) g.ports.length) v = decide (gI (gC c v) 0 = 1) := by
      rw [hasB, decide_eq_true (by omega), Bool.true_and, Int.toNat_natCast, nb_bit, decide_eq_true (by omega), Bool.true_and]; rfl
    rw [hbv] at hb
    by_cases e1 : gI (gC c v) 0 = 1
    · rw [decide_eq_true e1] at hb
      repeat' ((conv => whnf); first
          | (refine Br.tt ?_)
          | (refine Br.ff ?_)
          | (refine Br.dec (fun _ => ?_) (fun _ => ?_) <;> first | (exfalso; omega) | skip)
          | (refine Br.beq (fun _ => ?_) (fun _ => ?_) <;> first | (exfalso; omega) | skip)
          | (refine Br.bne (fun _ => ?_) (fun _ => ?_) <;> first | (exfalso; omega) | skip)
          | (refine Br.nbeq (fun _ => ?_) (fun _ => ?_) <;> first | (exfalso; omega) | skip)
          | (refine Br.nble (fun _ => ?_) (fun _ => ?_) <;> first | (exfalso; omega) | skip)
          | (refine Ar.i64 (by omega) (by omega) ?_)
          | (refine Ar.u32 (by omega) (by omega) ?_)
          | (refine Ar.sh1 (by omega) ?_)
          | (refine Ar.u64 (by omega) (by omega) ?_)
          | (refine Sv.mk _ rfl ?_)
          | (refine Nz.mk (by omega) ?_)
          | (refine Nn.mk (by omega) ?_)
          | (refine Ix.nat (by omega) ?_)
          | (refine Ix.ofNat (by omega) ?_)
          | (refine Ix.mk 0 rfl (by omega) ?_)
          | (refine Ix.mk 1 rfl (by omega) ?_)
          | (refine Ix.int (by omega) (by omega) ?_)
          | (refine Bd.nat (by omega) ?_)
          | (refine Bd.mk 0 rfl (by omega) ?_)
          | (refine Bd.mk 1 rfl (by omega) ?_)
          | (refine Bd.int (by omega) (by omega) ?_)
          | (refine Len.mk (by omega) ?_)
          | (refine Len.mk (by simp only [List.length_cons, List.length_nil]; omega) ?_)
          | (refine Ltn.mk (by omega) ?_)
          | (refine Both.mk ?_ ?_)
          | (refine MkS.vec ?_)
          | (refine (hb _ _).mono ?_; rintro _ _ _ ⟨rfl, rfl, rfl⟩)
          | (refine And.intro rfl ?_)
          | (refine Br.any (fun _ => ?_) (fun _ => ?_)))
      all_goals (conv => whnf)
      all_goals try (exfalso; rename_i hh; simp [e1] at hh; done)
      all_goals
        refine ⟨c.length - (v + 1), v + 1, by omega, ⟨rfl, by omega⟩, ?_⟩
        refine weak_by (fun _ _ => [(0, some 0), (1, some 1)]) ?_ ?_ rfl
        · repeat' (first | exact True.intro | exact VRen.oel rfl rfl | exact VRen.map rfl | exact VRen.yld rfl | (refine VRen.fn ?_) | exact ⟨rfl, rfl⟩ | exact ⟨rfl, rfl, rfl⟩ | (refine ⟨rfl, rfl, rfl, rfl, rfl, ?_⟩) | (refine ⟨⟨_, rfl, ?_⟩, ?_⟩) | exact VRen.kf rfl | exact VRen.int rfl | exact VRen.int (by omega) | exact VRen.loc rfl | exact VRen.vec rfl rfl rfl | exact VRen.vec rfl (by omega) (by omega) | exact VRen.nil rfl rfl | exact VRen.nil rfl (by omega) | exact VRen.fz rfl (fun h => h) (fun _ _ _ _ => VLe.rfl) | (refine ⟨Nat.le_refl _, rfl, fun i j hi hj => ?_⟩) | (refine ⟨by omega, rfl, fun i j hi hj => ?_⟩) | exact VLe.rfl | (refine ⟨⟨_, _, rfl⟩, ?_⟩) | (refine And.intro ?_ ?_))
        · repeat' (first | exact True.intro | exact VRen.oel rfl rfl | exact VRen.map rfl | exact VRen.yld rfl | (refine VRen.fn ?_) | exact ⟨rfl, rfl⟩ | exact ⟨rfl, rfl, rfl⟩ | (refine ⟨rfl, rfl, rfl, rfl, rfl, ?_⟩) | (refine ⟨⟨_, rfl, ?_⟩, ?_⟩) | exact VRen.kf rfl | exact VRen.int rfl | exact VRen.int (by omega) | exact VRen.loc rfl | exact VRen.vec rfl rfl rfl | exact VRen.vec rfl (by omega) (by omega) | exact VRen.nil rfl rfl | exact VRen.nil rfl (by omega) | exact VRen.fz rfl (fun h => h) (fun _ _ _ _ => VLe.rfl) | (refine ⟨Nat.le_refl _, rfl, fun i j hi hj => ?_⟩) | (refine ⟨by omega, rfl, fun i j hi hj => ?_⟩) | exact VLe.rfl | (refine ⟨⟨_, _, rfl⟩, ?_⟩) | (refine And.intro ?_ ?_))
    · rw [decide_eq_false e1] at hb
      repeat' ((conv => whnf); first
          | (refine Br.tt ?_)
          | (refine Br.ff ?_)
          | (refine Br.dec (fun _ => ?_) (fun _ => ?_) <;> first | (exfalso; omega) | skip)
          | (refine Br.beq (fun _ => ?_) (fun _ => ?_) <;> first | (exfalso; omega) | skip)
          | (refine Br.bne (fun _ => ?_) (fun _ => ?_) <;> first | (exfalso; omega) | skip)
          | (refine Br.nbeq (fun _ => ?_) (fun _ => ?_) <;> first | (exfalso; omega) | skip)
          | (refine Br.nble (fun _ => ?_) (fun _ => ?_) <;> first | (exfalso; omega) | skip)
          | (refine Ar.i64 (by omega) (by omega) ?_)
          | (refine Ar.u32 (by omega) (by omega) ?_)
          | (refine Ar.sh1 (by omega) ?_)
          | (refine Ar.u64 (by omega) (by omega) ?_)
          | (refine Sv.mk _ rfl ?_)
          | (refine Nz.mk (by omega) ?_)
          | (refine Nn.mk (by omega) ?_)
          | (refine Ix.nat (by omega) ?_)
          | (refine Ix.ofNat (by omega) ?_)
          | (refine Ix.mk 0 rfl (by omega) ?_)
          | (refine Ix.mk 1 rfl (by omega) ?_)
          | (refine Ix.int (by omega) (by omega) ?_)
          | (refine Bd.nat (by omega) ?_)
          | (refine Bd.mk 0 rfl (by omega) ?_)
          | (refine Bd.mk 1 rfl (by omega) ?_)
          | (refine Bd.int (by omega) (by omega) ?_)
          | (refine Len.mk (by omega) ?_)
          | (refine Len.mk (by simp only [List.length_cons, List.length_nil]; omega) ?_)
          | (refine Ltn.mk (by omega) ?_)
          | (refine Both.mk ?_ ?_)
          | (refine MkS.vec ?_)
          | (refine (hb _ _).mono ?_; rintro _ _ _ ⟨rfl, rfl, rfl⟩)
          | (refine And.intro rfl ?_)
          | (refine Br.any (fun _ => ?_) (fun _ => ?_)))
      all_goals (conv => whnf)
      all_goals try (exfalso; rename_i hh; simp [e1] at hh; done)
      all_goals
        refine ⟨c.length - (v + 1), v + 1, by omega, ⟨rfl, by omega⟩, ?_⟩
        refine weak_by (fun _ _ => [(0, some 0), (1, some 1)]) ?_ ?_ rfl
        · repeat' (first | exact True.intro | exact VRen.oel rfl rfl | exact VRen.map rfl | exact VRen.yld rfl | (refine VRen.fn ?_) | exact ⟨rfl, rfl⟩ | exact ⟨rfl, rfl, rfl⟩ | (refine ⟨rfl, rfl, rfl, rfl, rfl, ?_⟩) | (refine ⟨⟨_, rfl, ?_⟩, ?_⟩) | exact VRen.kf rfl | exact VRen.int rfl | exact VRen.int (by omega) | exact VRen.loc rfl | exact VRen.vec rfl rfl rfl | exact VRen.vec rfl (by omega) (by omega) | exact VRen.nil rfl rfl | exact VRen.nil rfl (by omega) | exact VRen.fz rfl (fun h => h) (fun _ _ _ _ => VLe.rfl) | (refine ⟨Nat.le_refl _, rfl, fun i j hi hj => ?_⟩) | (refine ⟨by omega, rfl, fun i j hi hj => ?_⟩) | exact VLe.rfl | (refine ⟨⟨_, _, rfl⟩, ?_⟩) | (refine And.intro ?_ ?_))
        · repeat' (first | exact True.intro | exact VRen.oel rfl rfl | exact VRen.map rfl | exact VRen.yld rfl | (refine VRen.fn ?_) | exact ⟨rfl, rfl⟩ | exact ⟨rfl, rfl, rfl⟩ | (refine ⟨rfl, rfl, rfl, rfl, rfl, ?_⟩) | (refine ⟨⟨_, rfl, ?_⟩, ?_⟩) | exact VRen.kf rfl | exact VRen.int rfl | exact VRen.int (by omega) | exact VRen.loc rfl | exact VRen.vec rfl rfl rfl | exact VRen.vec rfl (by omega) (by omega) | exact VRen.nil rfl rfl | exact VRen.nil rfl (by omega) | exact VRen.fz rfl (fun h => h) (fun _ _ _ _ => VLe.rfl) | (refine ⟨Nat.le_refl _, rfl, fun i j hi hj => ?_⟩) | (refine ⟨by omega, rfl, fun i j hi hj => ?_⟩) | exact VLe.rfl | (refine ⟨⟨_, _, rfl⟩, ?_⟩) | (refine And.intro ?_ ?_))
  · have e : (c.length : Int) = g.ports.length := by omega
    rw [hcl] at hvl
    generalize g.nbrs (nb (one c 0) g.ports.length) = N at *
    generalize hA : full g.ports.length = A at *
    generalize nb (one c 0) g.ports.length = S at *
    cases hin : g.indep S with
    | false =>
      rw [hin] at h3 h6
      repeat' ((conv => whnf); first
          | (refine Sv.mk _ hor.symm ?_)
          | (refine Br.tt ?_)
          | (refine Br.ff ?_)
          | (refine Br.dec (fun _ => ?_) (fun _ => ?_) <;> first | (exfalso; omega) | skip)
          | (refine Br.beq (fun _ => ?_) (fun _ => ?_) <;> first | (exfalso; omega) | skip)
          | (refine Br.bne (fun _ => ?_) (fun _ => ?_) <;> first | (exfalso; omega) | skip)
          | (refine Br.nbeq (fun _ => ?_) (fun _ => ?_) <;> first | (exfalso; omega) | skip)
          | (refine Br.nble (fun _ => ?_) (fun _ => ?_) <;> first | (exfalso; omega) | skip)
          | (refine Ar.i64 (by omega) (by omega) ?_)
          | (refine Ar.u32 (by omega) (by omega) ?_)
          | (refine Ar.sh1 (by omega) ?_)
          | (refine Ar.u64 (by omega) (by omega) ?_)
          | (refine Sv.mk _ rfl ?_)
          | (refine Nz.mk (by omega) ?_)
          | (refine Nn.mk (by omega) ?_)
          | (refine Ix.nat (by omega) ?_)
          | (refine Ix.ofNat (by omega) ?_)
          | (refine Ix.mk 0 rfl (by omega) ?_)
          | (refine Ix.mk 1 rfl (by omega) ?_)
          | (refine Ix.int (by omega) (by omega) ?_)
          | (refine Bd.nat (by omega) ?_)
          | (refine Bd.mk 0 rfl (by omega) ?_)
          | (refine Bd.mk 1 rfl (by omega) ?_)
          | (refine Bd.int (by omega) (by omega) ?_)
          | (refine Len.mk (by omega) ?_)
          | (refine Len.mk (by simp only [List.length_cons, List.length_nil]; omega) ?_)
          | (refine Ltn.mk (by omega) ?_)
          | (refine Both.mk ?_ ?_)
          | (refine MkS.vec ?_)
          | (refine (h3 _ _).mono ?_; rintro _ _ _ ⟨rfl, rfl, rfl⟩)
          | (refine (h4 _ _).mono ?_; rintro _ _ _ ⟨rfl, rfl, rfl⟩)
          | (refine (h5 _ _).mono ?_; rintro _ _ _ ⟨rfl, rfl, rfl⟩)
          | (refine (h6 _ _).mono ?_; rintro _ _ _ ⟨rfl, rfl, rfl⟩)
          | (refine (known31_ok _ _).mono ?_; rintro _ _ _ ⟨rfl, rfl, rfl⟩)
          | (refine And.intro rfl ?_)
          | (refine Br.any (fun _ => ?_) (fun _ => ?_)))
      all_goals (conv => whnf)
      all_goals exact VLe.rfl
    | true =>
      rw [hin, Bool.true_and] at h6
      rw [hin] at h3
      rw [← e] at h5
      by_cases hfl : S ||| N = A
      · rw [decide_eq_true hfl] at h6
        rw [hfl] at hor
        repeat' ((conv => whnf); first
            | (refine Sv.mk _ hor.symm ?_)
            | (refine Br.tt ?_)
            | (refine Br.ff ?_)
            | (refine Br.dec (fun _ => ?_) (fun _ => ?_) <;> first | (exfalso; omega) | skip)
            | (refine Br.beq (fun _ => ?_) (fun _ => ?_) <;> first | (exfalso; omega) | skip)
            | (refine Br.bne (fun _ => ?_) (fun _ => ?_) <;> first | (exfalso; omega) | skip)
            | (refine Br.nbeq (fun _ => ?_) (fun _ => ?_) <;> first | (exfalso; omega) | skip)
            | (refine Br.nble (fun _ => ?_) (fun _ => ?_) <;> first | (exfalso; omega) | skip)
            | (refine Ar.i64 (by omega) (by omega) ?_)
            | (refine Ar.u32 (by omega) (by omega) ?_)
            | (refine Ar.sh1 (by omega) ?_)
            | (refine Ar.u64 (by omega) (by omega) ?_)
            | (refine Sv.mk _ rfl ?_)
            | (refine Nz.mk (by omega) ?_)
            | (refine Nn.mk (by omega) ?_)
            | (refine Ix.nat (by omega) ?_)
            | (refine Ix.ofNat (by omega) ?_)
            | (refine Ix.mk 0 rfl (by omega) ?_)
            | (refine Ix.mk 1 rfl (by omega) ?_)
            | (refine Ix.int (by omega) (by omega) ?_)
            | (refine Bd.nat (by omega) ?_)
            | (refine Bd.mk 0 rfl (by omega) ?_)
            | (refine Bd.mk 1 rfl (by omega) ?_)
            | (refine Bd.int (by omega) (by omega) ?_)
            | (refine Len.mk (by omega) ?_)
            | (refine Len.mk (by simp only [List.length_cons, List.length_nil]; omega) ?_)
            | (refine Ltn.mk (by omega) ?_)
            | (refine Both.mk ?_ ?_)
            | (refine MkS.vec ?_)
            | (refine (h3 _ _).mono ?_; rintro _ _ _ ⟨rfl, rfl, rfl⟩)
            | (refine (h4 _ _).mono ?_; rintro _ _ _ ⟨rfl, rfl, rfl⟩)
            | (refine (h5 _ _).mono ?_; rintro _ _ _ ⟨rfl, rfl, rfl⟩)
            | (refine (h6 _ _).mono ?_; rintro _ _ _ ⟨rfl, rfl, rfl⟩)
            | (refine (known31_ok _ _).mono ?_; rintro _ _ _ ⟨rfl, rfl, rfl⟩)
            | (refine And.intro rfl ?_)
            | (refine Br.any (fun _ => ?_) (fun _ => ?_)))
        all_goals (conv => whnf)
        all_goals exact VLe.rfl
      · rw [decide_eq_false hfl] at h6
        repeat' ((conv => whnf); first
            | (refine Sv.mk _ hor.symm ?_)
            | (refine Br.tt ?_)
            | (refine Br.ff ?_)
            | (refine Br.dec (fun _ => ?_) (fun _ => ?_) <;> first | (exfalso; omega) | skip)
            | (refine Br.beq (fun _ => ?_) (fun _ => ?_) <;> first | (exfalso; omega) | skip)
            | (refine Br.bne (fun _ => ?_) (fun _ => ?_) <;> first | (exfalso; omega) | skip)
            | (refine Br.nbeq (fun _ => ?_) (fun _ => ?_) <;> first | (exfalso; omega) | skip)
            | (refine Br.nble (fun _ => ?_) (fun _ => ?_) <;> first | (exfalso; omega) | skip)
            | (refine Ar.i64 (by omega) (by omega) ?_)
            | (refine Ar.u32 (by omega) (by omega) ?_)
            | (refine Ar.sh1 (by omega) ?_)
            | (refine Ar.u64 (by omega) (by omega) ?_)
            | (refine Sv.mk _ rfl ?_)
            | (refine Nz.mk (by omega) ?_)
            | (refine Nn.mk (by omega) ?_)
            | (refine Ix.nat (by omega) ?_)
            | (refine Ix.ofNat (by omega) ?_)
            | (refine Ix.mk 0 rfl (by omega) ?_)
            | (refine Ix.mk 1 rfl (by omega) ?_)
            | (refine Ix.int (by omega) (by omega) ?_)
            | (refine Bd.nat (by omega) ?_)
            | (refine Bd.mk 0 rfl (by omega) ?_)
            | (refine Bd.mk 1 rfl (by omega) ?_)
            | (refine Bd.int (by omega) (by omega) ?_)
            | (refine Len.mk (by omega) ?_)
            | (refine Len.mk (by simp only [List.length_cons, List.length_nil]; omega) ?_)
            | (refine Ltn.mk (by omega) ?_)
            | (refine Both.mk ?_ ?_)
            | (refine MkS.vec ?_)
            | (refine (h3 _ _).mono ?_; rintro _ _ _ ⟨rfl, rfl, rfl⟩)
            | (refine (h4 _ _).mono ?_; rintro _ _ _ ⟨rfl, rfl, rfl⟩)
            | (refine (h5 _ _).mono ?_; rintro _ _ _ ⟨rfl, rfl, rfl⟩)
            | (refine (h6 _ _).mono ?_; rintro _ _ _ ⟨rfl, rfl, rfl⟩)
            | (refine (known31_ok _ _).mono ?_; rintro _ _ _ ⟨rfl, rfl, rfl⟩)
            | (refine And.intro rfl ?_)
            | (refine Br.any (fun _ => ?_) (fun _ => ?_)))
        all_goals (conv => whnf)
        all_goals exact VLe.rfl
end Go.Proofs.Ytjadlpflhmooaaa
