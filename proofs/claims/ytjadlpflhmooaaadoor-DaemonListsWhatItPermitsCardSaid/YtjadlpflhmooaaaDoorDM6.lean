import Derived.Test.YtjadlpflhmooaaaDoorDM5
namespace Go.Proofs.YtjadlpflhmooaaaDoor
open Go.Eng
set_option maxRecDepth 100000
set_option linter.unusedVariables false

/-! ## independent -/

def ind (g : G) (s : Nat) : Bool := decide (∀ v, v < g.ports.length → s.testBit v = true → nm (gR g.ports v) &&& s = 0)
theorem ind_no {g : G} {s v : Nat} (hv : v < g.ports.length) (hb : s.testBit v = true) (h : nm (gR g.ports v) &&& s ≠ 0) : VLe (.bool false) (.bool (ind g s)) := VLe.bool (by rw [ind, decide_eq_false (fun hh => h (hh v hv hb))])
theorem full_bit {n i : Nat} : (full n).testBit i = decide (i < n) := by rw [full, nb_bit]; simp
theorem part_full {s n : Nat} (h : Part s (full n)) {i : Nat} (hi : s.testBit i = true) : i < n := by
  have := h i hi
  rw [full_bit, decide_eq_true_eq] at this
  exact this

set_option maxHeartbeats 8000000 in
theorem dindep_ok (g : G) (hg : g.valid = true) (s : Nat) (hs : s < 4294967296) (hp : Part s (full g.ports.length)) : RG 49 [.fz g.ports.length 1 false (vNet g), .int .u32 s] (.bool (ind g s)) := by
  obtain ⟨f1, f2, f3, f4, f5, f6, f7⟩ := val_facts hg
  refine ret_frzG rfl ?_
  refine fn_rule mixed Tryd.func49 rfl hc49 hr49 rfl ?_
  repeat' ((conv => whnf); first
      | (refine Br.tt ?_)
      | (refine Br.ff ?_)
      | (refine Br.dec (fun _ => ?_) (fun _ => ?_) <;> first | (exfalso; omega) | skip)
      | (refine Br.beq (fun _ => ?_) (fun _ => ?_) <;> first | (exfalso; omega) | skip)
      | (refine Br.bne (fun _ => ?_) (fun _ => ?_) <;> first | (exfalso; omega) | skip)
      | (refine Br.nbeq (fun _ => ?_) (fun _ => ?_) <;> first | (exfalso; omega) | skip)
      | (refine Br.nble (fun _ => ?_) (fun _ => ?_) <;> first | (exfalso; omega) | skip)
      | (refine Ar.i64 (by omega) (by omega) ?_)
      | (refine Ar.u32 (by omega) (by omega) ?_)
      | (refine Ar.sh1 (by omega) ?_)
      | (refine Ar.u64 (by omega) (by omega) ?_)
      | (refine Sv.mk _ rfl ?_)
      | (refine Nz.mk (by omega) ?_)
      | (refine Nn.mk (by omega) ?_)
      | (refine Ix.nat (by omega) ?_)
      | (refine Ix.ofNat (by omega) ?_)
      | (refine Ix.mk 0 rfl (by omega) ?_)
      | (refine Ix.mk 1 rfl (by omega) ?_)
      | (refine Ix.int (by omega) (by omega) ?_)
      | (refine Bd.nat (by omega) ?_)
      | (refine Bd.mk 0 rfl (by omega) ?_)
      | (refine Bd.mk 1 rfl (by omega) ?_)
      | (refine Bd.int (by omega) (by omega) ?_)
      | (refine Len.mk (by omega) ?_)
      | (refine Len.mk (by simp only [List.length_cons, List.length_nil]; omega) ?_)
      | (refine Ltn.mk (by omega) ?_)
      | (refine Both.mk ?_ ?_)
      | (refine MkS.vec ?_)
      | (refine fn_rule mixed Tryd.func44 rfl hc44 hr44 rfl ?_)
      | (refine range_rule ?_)
      | (refine Chk.mk (by kernel_rfl) ?_)
      | (refine fn_rule mixed Tryd.func50 rfl hc50 hr50 rfl ?_)
      | (refine Br.any (fun _ => ?_) (fun _ => ?_)))
  all_goals (conv => whnf)
  refine loop_u mixed [0, 1] [] [5, 6, 7, 8, 9, 10, 11, 12, 13, 14, 15, 16, 17, 18, 19, 20, 21, 22, 23, 24, 25, 26, 27, 28, 29] [4, 3, 2, 1, 0, 999] (fun b : Nat => []) (fun own b => updO own 3 (.cells [.int .u32 (upS s b)])) (fun m b => m = 32 - b ∧ b ≤ 32 ∧ ∀ v, v < b → s.testBit v = true → nm (gR g.ports v) &&& s = 0) 32 0 ⟨rfl, by omega, fun v hv => by omega⟩ rfl (fun _ => rfl) ?_ ?_
  · have hx := upS_zero hs
    refine weak_by (fun _ _ => [(0, some 0), (1, some 1), (2, some 2), (3, some 3), (4, some 4), (999, some 999)]) ?_ ?_ rfl
    · repeat' (first | exact VRen.int (by rw [hx]) | exact VRen.yld rfl | (refine VRen.fn ?_) | (refine ⟨rfl, rfl, rfl, rfl, rfl, ?_⟩) | exact True.intro | exact VRen.oel rfl rfl | exact VRen.map rfl | exact VRen.yld rfl | (refine VRen.fn ?_) | exact ⟨rfl, rfl⟩ | exact ⟨rfl, rfl, rfl⟩ | (refine ⟨rfl, rfl, rfl, rfl, rfl, ?_⟩) | (refine ⟨⟨_, rfl, ?_⟩, ?_⟩) | exact VRen.kf rfl | exact VRen.int rfl | exact VRen.int (by omega) | exact VRen.loc rfl | exact VRen.vec rfl rfl rfl | exact VRen.vec rfl (by omega) (by omega) | exact VRen.nil rfl rfl | exact VRen.nil rfl (by omega) | exact VRen.fz rfl (fun h => h) (fun _ _ _ _ => VLe.rfl) | (refine ⟨Nat.le_refl _, rfl, fun i j hi hj => ?_⟩) | (refine ⟨by omega, rfl, fun i j hi hj => ?_⟩) | exact VLe.rfl | (refine ⟨⟨_, _, rfl⟩, ?_⟩) | (refine And.intro ?_ ?_))
    · repeat' (first | exact VRen.int (by rw [hx]) | exact VRen.yld rfl | (refine VRen.fn ?_) | (refine ⟨rfl, rfl, rfl, rfl, rfl, ?_⟩) | exact True.intro | exact VRen.oel rfl rfl | exact VRen.map rfl | exact VRen.yld rfl | (refine VRen.fn ?_) | exact ⟨rfl, rfl⟩ | exact ⟨rfl, rfl, rfl⟩ | (refine ⟨rfl, rfl, rfl, rfl, rfl, ?_⟩) | (refine ⟨⟨_, rfl, ?_⟩, ?_⟩) | exact VRen.kf rfl | exact VRen.int rfl | exact VRen.int (by omega) | exact VRen.loc rfl | exact VRen.vec rfl rfl rfl | exact VRen.vec rfl (by omega) (by omega) | exact VRen.nil rfl rfl | exact VRen.nil rfl (by omega) | exact VRen.fz rfl (fun h => h) (fun _ _ _ _ => VLe.rfl) | (refine ⟨Nat.le_refl _, rfl, fun i j hi hj => ?_⟩) | (refine ⟨by omega, rfl, fun i j hi hj => ?_⟩) | exact VLe.rfl | (refine ⟨⟨_, _, rfl⟩, ?_⟩) | (refine And.intro ?_ ?_))
  rintro m b ⟨hm, hb, hall⟩
  have hul := upS_lt s b
  by_cases hu : upS s b = 0
  · repeat' ((conv => whnf); first
        | (refine Br.tt ?_)
        | (refine Br.ff ?_)
        | (refine Br.dec (fun _ => ?_) (fun _ => ?_) <;> first | (exfalso; omega) | skip)
        | (refine Br.beq (fun _ => ?_) (fun _ => ?_) <;> first | (exfalso; omega) | skip)
        | (refine Br.bne (fun _ => ?_) (fun _ => ?_) <;> first | (exfalso; omega) | skip)
        | (refine Br.nbeq (fun _ => ?_) (fun _ => ?_) <;> first | (exfalso; omega) | skip)
        | (refine Br.nble (fun _ => ?_) (fun _ => ?_) <;> first | (exfalso; omega) | skip)
        | (refine Ar.i64 (by omega) (by omega) ?_)
        | (refine Ar.u32 (by omega) (by omega) ?_)
        | (refine Ar.sh1 (by omega) ?_)
        | (refine Ar.u64 (by omega) (by omega) ?_)
        | (refine Sv.mk _ rfl ?_)
        | (refine Nz.mk (by omega) ?_)
        | (refine Nn.mk (by omega) ?_)
        | (refine Ix.nat (by omega) ?_)
        | (refine Ix.ofNat (by omega) ?_)
        | (refine Ix.mk 0 rfl (by omega) ?_)
        | (refine Ix.mk 1 rfl (by omega) ?_)
        | (refine Ix.int (by omega) (by omega) ?_)
        | (refine Bd.nat (by omega) ?_)
        | (refine Bd.mk 0 rfl (by omega) ?_)
        | (refine Bd.mk 1 rfl (by omega) ?_)
        | (refine Bd.int (by omega) (by omega) ?_)
        | (refine Len.mk (by omega) ?_)
        | (refine Len.mk (by simp only [List.length_cons, List.length_nil]; omega) ?_)
        | (refine Ltn.mk (by omega) ?_)
        | (refine Both.mk ?_ ?_)
        | (refine MkS.vec ?_)
        | (refine Br.any (fun _ => ?_) (fun _ => ?_)))
    all_goals (conv => whnf)
    exact VLe.bool (by
      rw [ind, decide_eq_true]
      intro v hv hbv
      by_cases h : v < b
      · exact hall v h hbv
      · rw [upS_end hs hu v (by omega)] at hbv; cases hbv)
  · obtain ⟨v1, v2, v3, v4, v5⟩ := upS_next hs hu
    have htz := tz_ok _ hu hul
    have hr : bitI .and .u32 ((upS s b : Nat) : Int) ((upS s b : Nat) - 1 : Int) = ((upS s (ctz (upS s b) + 1) : Nat) : Int) := by
      rw [← v5, show ((upS s b : Nat) : Int) - 1 = ((upS s b - 1 : Nat) : Int) by omega, bit_and hul (by omega)]
    generalize ctz (upS s b) = v at *
    have hvn := part_full hp v3
    have hnl := nm_lt _ (row_lt hg hvn)
    have ha := bit_and hnl hs
    repeat' ((conv => whnf); first
        | (refine Br.tt ?_)
        | (refine Br.ff ?_)
        | (refine Br.dec (fun _ => ?_) (fun _ => ?_) <;> first | (exfalso; omega) | skip)
        | (refine Br.beq (fun _ => ?_) (fun _ => ?_) <;> first | (exfalso; omega) | skip)
        | (refine Br.bne (fun _ => ?_) (fun _ => ?_) <;> first | (exfalso; omega) | skip)
        | (refine Br.nbeq (fun _ => ?_) (fun _ => ?_) <;> first | (exfalso; omega) | skip)
        | (refine Br.nble (fun _ => ?_) (fun _ => ?_) <;> first | (exfalso; omega) | skip)
        | (refine Ar.i64 (by omega) (by omega) ?_)
        | (refine Ar.u32 (by omega) (by omega) ?_)
        | (refine Ar.sh1 (by omega) ?_)
        | (refine Ar.u64 (by omega) (by omega) ?_)
        | (refine Sv.mk _ rfl ?_)
        | (refine Nz.mk (by omega) ?_)
        | (refine Nn.mk (by omega) ?_)
        | (refine Ix.nat (by omega) ?_)
        | (refine Ix.ofNat (by omega) ?_)
        | (refine Ix.mk 0 rfl (by omega) ?_)
        | (refine Ix.mk 1 rfl (by omega) ?_)
        | (refine Ix.int (by omega) (by omega) ?_)
        | (refine Bd.nat (by omega) ?_)
        | (refine Bd.mk 0 rfl (by omega) ?_)
        | (refine Bd.mk 1 rfl (by omega) ?_)
        | (refine Bd.int (by omega) (by omega) ?_)
        | (refine Len.mk (by omega) ?_)
        | (refine Len.mk (by simp only [List.length_cons, List.length_nil]; omega) ?_)
        | (refine Ltn.mk (by omega) ?_)
        | (refine Both.mk ?_ ?_)
        | (refine MkS.vec ?_)
        | (refine fn_rule mixed Tryd.func44 rfl hc44 hr44 rfl ?_)
        | (refine (htz _ _ rfl).mono ?_; rintro _ _ _ ⟨rfl, rfl, rfl⟩)
        | (refine Chk.mk (by kernel_rfl) ?_)
        | (refine yield_rule mixed rfl rfl ?_)
        | (refine Br.any (fun _ => ?_) (fun _ => ?_)))
    all_goals (conv => whnf)
    · rename_i hh
      rw [ha] at hh
      exact ind_no hvn v3 (fun e => hh (by rw [e]; rfl))
    · rename_i hh
      rw [ha] at hh
      refine ⟨32 - (v + 1), v + 1, by omega, ⟨rfl, by omega, fun u hu2 hb2 => ?_⟩, ?_⟩
      · by_cases h : u < b
        · exact hall u h hb2
        · by_cases e : u = v
          · subst e; omega
          · rw [v4 u (by omega) (by omega)] at hb2; cases hb2
      · refine weak_by (fun _ _ => [(0, some 0), (1, some 1), (2, some 2), (3, some 3), (4, some 4), (999, some 999)]) ?_ ?_ rfl
        · repeat' (first | exact VRen.int hr | exact VRen.yld rfl | (refine VRen.fn ?_) | (refine ⟨rfl, rfl, rfl, rfl, rfl, ?_⟩) | exact True.intro | exact VRen.oel rfl rfl | exact VRen.map rfl | exact VRen.yld rfl | (refine VRen.fn ?_) | exact ⟨rfl, rfl⟩ | exact ⟨rfl, rfl, rfl⟩ | (refine ⟨rfl, rfl, rfl, rfl, rfl, ?_⟩) | (refine ⟨⟨_, rfl, ?_⟩, ?_⟩) | exact VRen.kf rfl | exact VRen.int rfl | exact VRen.int (by omega) | exact VRen.loc rfl | exact VRen.vec rfl rfl rfl | exact VRen.vec rfl (by omega) (by omega) | exact VRen.nil rfl rfl | exact VRen.nil rfl (by omega) | exact VRen.fz rfl (fun h => h) (fun _ _ _ _ => VLe.rfl) | (refine ⟨Nat.le_refl _, rfl, fun i j hi hj => ?_⟩) | (refine ⟨by omega, rfl, fun i j hi hj => ?_⟩) | exact VLe.rfl | (refine ⟨⟨_, _, rfl⟩, ?_⟩) | (refine And.intro ?_ ?_))
        · repeat' (first | exact VRen.int hr | exact VRen.yld rfl | (refine VRen.fn ?_) | (refine ⟨rfl, rfl, rfl, rfl, rfl, ?_⟩) | exact True.intro | exact VRen.oel rfl rfl | exact VRen.map rfl | exact VRen.yld rfl | (refine VRen.fn ?_) | exact ⟨rfl, rfl⟩ | exact ⟨rfl, rfl, rfl⟩ | (refine ⟨rfl, rfl, rfl, rfl, rfl, ?_⟩) | (refine ⟨⟨_, rfl, ?_⟩, ?_⟩) | exact VRen.kf rfl | exact VRen.int rfl | exact VRen.int (by omega) | exact VRen.loc rfl | exact VRen.vec rfl rfl rfl | exact VRen.vec rfl (by omega) (by omega) | exact VRen.nil rfl rfl | exact VRen.nil rfl (by omega) | exact VRen.fz rfl (fun h => h) (fun _ _ _ _ => VLe.rfl) | (refine ⟨Nat.le_refl _, rfl, fun i j hi hj => ?_⟩) | (refine ⟨by omega, rfl, fun i j hi hj => ?_⟩) | exact VLe.rfl | (refine ⟨⟨_, _, rfl⟩, ?_⟩) | (refine And.intro ?_ ?_))

theorem nm_and {g : G} {v c : Nat} : nm (gR g.ports v) &&& c = 0 ↔ nbr g c v = false := by
  rw [nbr, nbrR, List.any_eq_false]
  constructor
  · intro h l hl hb
    have := congrArg (Nat.testBit · l.1.toNat) h
    simp only [Nat.zero_testBit, Nat.testBit_and, nm_bit] at this
    rw [hb, Bool.and_true, List.any_eq_false] at this
    exact this l hl (by simp)
  · intro h
    apply Nat.eq_of_testBit_eq
    intro u
    rw [Nat.zero_testBit, Nat.testBit_and, nm_bit]
    cases e : c.testBit u with
    | false => rw [Bool.and_false]
    | true =>
      rw [Bool.and_true, List.any_eq_false]
      intro l hl hb
      rw [decide_eq_true_eq] at hb
      exact h l hl (by rw [hb]; exact e)
theorem indep_ind {g : G} (hg : g.valid = true) {c : Nat} (hc : c < 4294967296) (hp : Part c (full g.ports.length)) : g.indep c = ind g c := by
  rw [Bool.eq_iff_iff, G.indep, hg, Bool.true_and, ind, decide_eq_true_eq, decide_eq_true_eq, nbrs_valid hg, part_iff hc]
  have hbit : nb (nbr g c) g.ports.length &&& c = 0 ↔ ∀ v, v < g.ports.length → c.testBit v = true → nbr g c v = false := by
    constructor
    · intro h v hv hb
      have := congrArg (Nat.testBit · v) h
      simp only [Nat.zero_testBit, Nat.testBit_and, nb_bit] at this
      simpa [hv, hb] using this
    · intro h
      apply Nat.eq_of_testBit_eq
      intro v
      rw [Nat.zero_testBit, Nat.testBit_and, nb_bit]
      cases e : c.testBit v with
      | false => rw [Bool.and_false]
      | true => rw [h v (part_full hp e) e]; simp
  rw [hbit]
  constructor
  · rintro ⟨_, h⟩ v hv hb
    exact nm_and.2 (h v hv hb)
  · intro h
    exact ⟨hp, fun v hv hb => nm_and.1 (h v hv hb)⟩

/-! ## Permits -/

def okC (g : G) (k : Int) (e c : Nat) : Bool := if k = 1 then decide (c &&& (c - 1) = 0) else if k = 2 then ind g c else if k = 4 then decide (c = e) else true
def inner (g : G) (k : Int) (e c : Nat) : Bool := decide (c ≠ 0 ∧ ndiff c e = 0) && okC g k e c
def G.perm (g : G) (k : Int) (e c : Nat) : Bool := g.poss k e && inner g k e c

theorem part_trans {a b c : Nat} (h1 : Part a b) (h2 : Part b c) : Part a c := fun i h => h2 i (h1 i h)

set_option maxHeartbeats 4000000 in
theorem npermits_ok (g : G) (hg : g.valid = true) (k : Int) (e c : Nat) (he : e < 4294967296) (hc : c < 4294967296) (hp : Part e (full g.ports.length)) : RG 41 [.fz g.ports.length 1 false (vNet g), .int .i64 k, .int .u32 e, .int .u32 c] (.bool (inner g k e c)) := by
  have hd := bit_andNot hc he
  refine ret_frzG rfl ?_
  refine fn_rule mixed Tryd.func41 rfl hc41 hr41 rfl ?_
  rw [inner]
  by_cases h : c ≠ 0 ∧ ndiff c e = 0
  · rw [decide_eq_true h, Bool.true_and]
    have hpc := part_trans ((part_iff hc).1 h.2) hp
    have hi := dindep_ok g hg c hc hpc
    have h0 := h.1
    have hd0 : bitI .andNot .u32 (c : Int) (e : Int) = 0 := by rw [hd, h.2]; rfl
    have ha : bitI .and .u32 (c : Int) ((c : Int) - 1) = ((c &&& (c - 1) : Nat) : Int) := by
      rw [show (c : Int) - 1 = ((c - 1 : Nat) : Int) by omega, bit_and hc (by omega)]
    repeat' ((conv => whnf); first
        | (refine Sv.mk 0 hd0.symm ?_)
        | (refine Sv.mk _ ha.symm ?_)
        | (refine Br.tt ?_)
        | (refine Br.ff ?_)
        | (refine Br.dec (fun _ => ?_) (fun _ => ?_) <;> first | (exfalso; omega) | skip)
        | (refine Br.beq (fun _ => ?_) (fun _ => ?_) <;> first | (exfalso; omega) | skip)
        | (refine Br.bne (fun _ => ?_) (fun _ => ?_) <;> first | (exfalso; omega) | skip)
        | (refine Br.nbeq (fun _ => ?_) (fun _ => ?_) <;> first | (exfalso; omega) | skip)
        | (refine Br.nble (fun _ => ?_) (fun _ => ?_) <;> first | (exfalso; omega) | skip)
        | (refine Ar.i64 (by omega) (by omega) ?_)
        | (refine Ar.u32 (by omega) (by omega) ?_)
        | (refine Ar.sh1 (by omega) ?_)
        | (refine Ar.u64 (by omega) (by omega) ?_)
        | (refine Sv.mk _ rfl ?_)
        | (refine Nz.mk (by omega) ?_)
        | (refine Nn.mk (by omega) ?_)
        | (refine Ix.nat (by omega) ?_)
        | (refine Ix.ofNat (by omega) ?_)
        | (refine Ix.mk 0 rfl (by omega) ?_)
        | (refine Ix.mk 1 rfl (by omega) ?_)
        | (refine Ix.int (by omega) (by omega) ?_)
        | (refine Bd.nat (by omega) ?_)
        | (refine Bd.mk 0 rfl (by omega) ?_)
        | (refine Bd.mk 1 rfl (by omega) ?_)
        | (refine Bd.int (by omega) (by omega) ?_)
        | (refine Len.mk (by omega) ?_)
        | (refine Len.mk (by simp only [List.length_cons, List.length_nil]; omega) ?_)
        | (refine Ltn.mk (by omega) ?_)
        | (refine Both.mk ?_ ?_)
        | (refine MkS.vec ?_)
        | (refine (hi _ _ rfl).mono ?_; rintro _ _ _ ⟨rfl, rfl, rfl⟩)
        | (refine Br.any (fun _ => ?_) (fun _ => ?_)))
    all_goals (conv => whnf)
    all_goals first
      | (rw [okC, if_pos (by assumption)]; first | exact VLe.bool (by symm; first | exact decide_eq_true (by omega) | exact decide_eq_false (by omega)))
      | (rw [okC, if_neg (by assumption), if_pos (by assumption)]; first | exact VLe.bool (Eq.symm (by assumption)) | exact VLe.bool (by rw [ind]; symm; first | exact decide_eq_true (by assumption) | exact decide_eq_false (by assumption)))
      | (rw [okC, if_neg (by assumption), if_neg (by assumption), if_pos (by assumption)]; exact VLe.bool (by symm; first | exact decide_eq_true (by omega) | exact decide_eq_false (by omega)))
      | (rw [okC, if_neg (by assumption), if_neg (by assumption), if_neg (by assumption)]; exact VLe.rfl)
  · rw [decide_eq_false h, Bool.false_and]
    by_cases h0 : c = 0
    · subst h0
      repeat' ((conv => whnf); first
          | (refine Br.tt ?_)
          | (refine Br.ff ?_)
          | (refine Br.dec (fun _ => ?_) (fun _ => ?_) <;> first | (exfalso; omega) | skip)
          | (refine Br.beq (fun _ => ?_) (fun _ => ?_) <;> first | (exfalso; omega) | skip)
          | (refine Br.bne (fun _ => ?_) (fun _ => ?_) <;> first | (exfalso; omega) | skip)
          | (refine Br.nbeq (fun _ => ?_) (fun _ => ?_) <;> first | (exfalso; omega) | skip)
          | (refine Br.nble (fun _ => ?_) (fun _ => ?_) <;> first | (exfalso; omega) | skip)
          | (refine Ar.i64 (by omega) (by omega) ?_)
          | (refine Ar.u32 (by omega) (by omega) ?_)
          | (refine Ar.sh1 (by omega) ?_)
          | (refine Ar.u64 (by omega) (by omega) ?_)
          | (refine Sv.mk _ rfl ?_)
          | (refine Nz.mk (by omega) ?_)
          | (refine Nn.mk (by omega) ?_)
          | (refine Ix.nat (by omega) ?_)
          | (refine Ix.ofNat (by omega) ?_)
          | (refine Ix.mk 0 rfl (by omega) ?_)
          | (refine Ix.mk 1 rfl (by omega) ?_)
          | (refine Ix.int (by omega) (by omega) ?_)
          | (refine Bd.nat (by omega) ?_)
          | (refine Bd.mk 0 rfl (by omega) ?_)
          | (refine Bd.mk 1 rfl (by omega) ?_)
          | (refine Bd.int (by omega) (by omega) ?_)
          | (refine Len.mk (by omega) ?_)
          | (refine Len.mk (by simp only [List.length_cons, List.length_nil]; omega) ?_)
          | (refine Ltn.mk (by omega) ?_)
          | (refine Both.mk ?_ ?_)
          | (refine MkS.vec ?_)
          | (refine Br.any (fun _ => ?_) (fun _ => ?_)))
      all_goals (conv => whnf)
      all_goals exact VLe.rfl
    · have h1 : ndiff c e ≠ 0 := fun x => h ⟨h0, x⟩
      repeat' ((conv => whnf); first
          | (refine Sv.mk _ hd.symm ?_)
          | (refine Br.tt ?_)
          | (refine Br.ff ?_)
          | (refine Br.dec (fun _ => ?_) (fun _ => ?_) <;> first | (exfalso; omega) | skip)
          | (refine Br.beq (fun _ => ?_) (fun _ => ?_) <;> first | (exfalso; omega) | skip)
          | (refine Br.bne (fun _ => ?_) (fun _ => ?_) <;> first | (exfalso; omega) | skip)
          | (refine Br.nbeq (fun _ => ?_) (fun _ => ?_) <;> first | (exfalso; omega) | skip)
          | (refine Br.nble (fun _ => ?_) (fun _ => ?_) <;> first | (exfalso; omega) | skip)
          | (refine Ar.i64 (by omega) (by omega) ?_)
          | (refine Ar.u32 (by omega) (by omega) ?_)
          | (refine Ar.sh1 (by omega) ?_)
          | (refine Ar.u64 (by omega) (by omega) ?_)
          | (refine Sv.mk _ rfl ?_)
          | (refine Nz.mk (by omega) ?_)
          | (refine Nn.mk (by omega) ?_)
          | (refine Ix.nat (by omega) ?_)
          | (refine Ix.ofNat (by omega) ?_)
          | (refine Ix.mk 0 rfl (by omega) ?_)
          | (refine Ix.mk 1 rfl (by omega) ?_)
          | (refine Ix.int (by omega) (by omega) ?_)
          | (refine Bd.nat (by omega) ?_)
          | (refine Bd.mk 0 rfl (by omega) ?_)
          | (refine Bd.mk 1 rfl (by omega) ?_)
          | (refine Bd.int (by omega) (by omega) ?_)
          | (refine Len.mk (by omega) ?_)
          | (refine Len.mk (by simp only [List.length_cons, List.length_nil]; omega) ?_)
          | (refine Ltn.mk (by omega) ?_)
          | (refine Both.mk ?_ ?_)
          | (refine MkS.vec ?_)
          | (refine Br.any (fun _ => ?_) (fun _ => ?_)))
      all_goals (conv => whnf)
      all_goals exact VLe.rfl

theorem poss_facts {g : G} {k : Int} {e : Nat} (he : e < 4294967296) (h : g.poss k e = true) : g.valid = true ∧ dk k = true ∧ Part e (full g.ports.length) := by
  rw [G.poss, Bool.and_eq_true, Bool.and_eq_true, decide_eq_true_eq] at h
  exact ⟨h.1, h.2.1, (part_iff he).1 h.2.2⟩

set_option maxHeartbeats 4000000 in
theorem permits_ok (g : G) (hs : g.Small) (k : Int) (e c : Nat) (he : e < 4294967296) (hc : c < 4294967296) : RG 23 [g.v, .int .i64 k, .int .u32 e, .int .u32 c] (.bool (g.perm k e c)) := by
  have h1 := valid_ok g hs
  have h2 := dvalid_ok k
  refine ret_frzG rfl ?_
  refine fn_rule mixed Tryd.func23 rfl hc23 hr23 rfl ?_
  cases hg : g.valid with
  | false =>
    rw [G.perm, G.poss, hg]
    rw [hg] at h1
    repeat' ((conv => whnf); first
        | (refine Br.tt ?_)
        | (refine Br.ff ?_)
        | (refine Br.dec (fun _ => ?_) (fun _ => ?_) <;> first | (exfalso; omega) | skip)
        | (refine Br.beq (fun _ => ?_) (fun _ => ?_) <;> first | (exfalso; omega) | skip)
        | (refine Br.bne (fun _ => ?_) (fun _ => ?_) <;> first | (exfalso; omega) | skip)
        | (refine Br.nbeq (fun _ => ?_) (fun _ => ?_) <;> first | (exfalso; omega) | skip)
        | (refine Br.nble (fun _ => ?_) (fun _ => ?_) <;> first | (exfalso; omega) | skip)
        | (refine Ar.i64 (by omega) (by omega) ?_)
        | (refine Ar.u32 (by omega) (by omega) ?_)
        | (refine Ar.sh1 (by omega) ?_)
        | (refine Ar.u64 (by omega) (by omega) ?_)
        | (refine Sv.mk _ rfl ?_)
        | (refine Nz.mk (by omega) ?_)
        | (refine Nn.mk (by omega) ?_)
        | (refine Ix.nat (by omega) ?_)
        | (refine Ix.ofNat (by omega) ?_)
        | (refine Ix.mk 0 rfl (by omega) ?_)
        | (refine Ix.mk 1 rfl (by omega) ?_)
        | (refine Ix.int (by omega) (by omega) ?_)
        | (refine Bd.nat (by omega) ?_)
        | (refine Bd.mk 0 rfl (by omega) ?_)
        | (refine Bd.mk 1 rfl (by omega) ?_)
        | (refine Bd.int (by omega) (by omega) ?_)
        | (refine Len.mk (by omega) ?_)
        | (refine Len.mk (by simp only [List.length_cons, List.length_nil]; omega) ?_)
        | (refine Ltn.mk (by omega) ?_)
        | (refine Both.mk ?_ ?_)
        | (refine MkS.vec ?_)
        | (refine (h1 _ _).mono ?_; rintro _ _ _ ⟨rfl, rfl, rfl⟩)
        | (refine Br.any (fun _ => ?_) (fun _ => ?_)))
    all_goals (conv => whnf)
    all_goals exact VLe.rfl
  | true =>
    rw [hg] at h1
    obtain ⟨f1, f2, f3, f4, f5, f6, f7⟩ := val_facts hg
    have h3 := all_ok g hg
    rw [← f3] at h3
    have hd : bitI .andNot .u32 (e : Int) (full g.ports.length : Nat) = ((ndiff e (full g.ports.length) : Nat) : Int) := bit_andNot he (nb_lt (fun _ => true) (k := g.ports.length) (by omega))
    cases hk : dk k with
    | false =>
      rw [G.perm, G.poss, hg, hk]
      rw [hk] at h2
      repeat' ((conv => whnf); first
          | (refine Br.tt ?_)
          | (refine Br.ff ?_)
          | (refine Br.dec (fun _ => ?_) (fun _ => ?_) <;> first | (exfalso; omega) | skip)
          | (refine Br.beq (fun _ => ?_) (fun _ => ?_) <;> first | (exfalso; omega) | skip)
          | (refine Br.bne (fun _ => ?_) (fun _ => ?_) <;> first | (exfalso; omega) | skip)
          | (refine Br.nbeq (fun _ => ?_) (fun _ => ?_) <;> first | (exfalso; omega) | skip)
          | (refine Br.nble (fun _ => ?_) (fun _ => ?_) <;> first | (exfalso; omega) | skip)
          | (refine Ar.i64 (by omega) (by omega) ?_)
          | (refine Ar.u32 (by omega) (by omega) ?_)
          | (refine Ar.sh1 (by omega) ?_)
          | (refine Ar.u64 (by omega) (by omega) ?_)
          | (refine Sv.mk _ rfl ?_)
          | (refine Nz.mk (by omega) ?_)
          | (refine Nn.mk (by omega) ?_)
          | (refine Ix.nat (by omega) ?_)
          | (refine Ix.ofNat (by omega) ?_)
          | (refine Ix.mk 0 rfl (by omega) ?_)
          | (refine Ix.mk 1 rfl (by omega) ?_)
          | (refine Ix.int (by omega) (by omega) ?_)
          | (refine Bd.nat (by omega) ?_)
          | (refine Bd.mk 0 rfl (by omega) ?_)
          | (refine Bd.mk 1 rfl (by omega) ?_)
          | (refine Bd.int (by omega) (by omega) ?_)
          | (refine Len.mk (by omega) ?_)
          | (refine Len.mk (by simp only [List.length_cons, List.length_nil]; omega) ?_)
          | (refine Ltn.mk (by omega) ?_)
          | (refine Both.mk ?_ ?_)
          | (refine MkS.vec ?_)
          | (refine (h1 _ _).mono ?_; rintro _ _ _ ⟨rfl, rfl, rfl⟩)
          | (refine (h2 _ _).mono ?_; rintro _ _ _ ⟨rfl, rfl, rfl⟩)
          | (refine Br.any (fun _ => ?_) (fun _ => ?_)))
      all_goals (conv => whnf)
      all_goals exact VLe.rfl
    | true =>
      rw [hk] at h2
      by_cases hz : ndiff e (full g.ports.length) = 0
      · rw [G.perm, G.poss, hg, hk, decide_eq_true hz]
        have hd0 : bitI .andNot .u32 (e : Int) (full g.ports.length : Nat) = 0 := by rw [hd, hz]; rfl
        have h4 := newnet_ok g hs hg
        have h5 := npermits_ok g hg k e c he hc ((part_iff he).1 hz)
        repeat' ((conv => whnf); first
            | (refine Sv.mk 0 hd0.symm ?_)
            | (refine Br.tt ?_)
            | (refine Br.ff ?_)
            | (refine Br.dec (fun _ => ?_) (fun _ => ?_) <;> first | (exfalso; omega) | skip)
            | (refine Br.beq (fun _ => ?_) (fun _ => ?_) <;> first | (exfalso; omega) | skip)
            | (refine Br.bne (fun _ => ?_) (fun _ => ?_) <;> first | (exfalso; omega) | skip)
            | (refine Br.nbeq (fun _ => ?_) (fun _ => ?_) <;> first | (exfalso; omega) | skip)
            | (refine Br.nble (fun _ => ?_) (fun _ => ?_) <;> first | (exfalso; omega) | skip)
            | (refine Ar.i64 (by omega) (by omega) ?_)
            | (refine Ar.u32 (by omega) (by omega) ?_)
            | (refine Ar.sh1 (by omega) ?_)
            | (refine Ar.u64 (by omega) (by omega) ?_)
            | (refine Sv.mk _ rfl ?_)
            | (refine Nz.mk (by omega) ?_)
            | (refine Nn.mk (by omega) ?_)
            | (refine Ix.nat (by omega) ?_)
            | (refine Ix.ofNat (by omega) ?_)
            | (refine Ix.mk 0 rfl (by omega) ?_)
            | (refine Ix.mk 1 rfl (by omega) ?_)
            | (refine Ix.int (by omega) (by omega) ?_)
            | (refine Bd.nat (by omega) ?_)
            | (refine Bd.mk 0 rfl (by omega) ?_)
            | (refine Bd.mk 1 rfl (by omega) ?_)
            | (refine Bd.int (by omega) (by omega) ?_)
            | (refine Len.mk (by omega) ?_)
            | (refine Len.mk (by simp only [List.length_cons, List.length_nil]; omega) ?_)
            | (refine Ltn.mk (by omega) ?_)
            | (refine Both.mk ?_ ?_)
            | (refine MkS.vec ?_)
            | (refine (h1 _ _).mono ?_; rintro _ _ _ ⟨rfl, rfl, rfl⟩)
            | (refine (h2 _ _).mono ?_; rintro _ _ _ ⟨rfl, rfl, rfl⟩)
            | (refine (h3 _ _).mono ?_; rintro _ _ _ ⟨rfl, rfl, rfl⟩)
            | (refine (h4 _ _).mono ?_; rintro _ _ _ ⟨rfl, rfl, rfl⟩)
            | (refine (h5 _ _ rfl).mono ?_; rintro _ _ _ ⟨rfl, rfl, rfl⟩)
            | (refine And.intro rfl ?_)
            | (refine Br.any (fun _ => ?_) (fun _ => ?_)))
        all_goals (conv => whnf)
        all_goals exact VLe.bool (Eq.symm (by assumption))
      · rw [G.perm, G.poss, hg, hk, decide_eq_false hz]
        repeat' ((conv => whnf); first
            | (refine Sv.mk _ hd.symm ?_)
            | (refine Br.tt ?_)
            | (refine Br.ff ?_)
            | (refine Br.dec (fun _ => ?_) (fun _ => ?_) <;> first | (exfalso; omega) | skip)
            | (refine Br.beq (fun _ => ?_) (fun _ => ?_) <;> first | (exfalso; omega) | skip)
            | (refine Br.bne (fun _ => ?_) (fun _ => ?_) <;> first | (exfalso; omega) | skip)
            | (refine Br.nbeq (fun _ => ?_) (fun _ => ?_) <;> first | (exfalso; omega) | skip)
            | (refine Br.nble (fun _ => ?_) (fun _ => ?_) <;> first | (exfalso; omega) | skip)
            | (refine Ar.i64 (by omega) (by omega) ?_)
            | (refine Ar.u32 (by omega) (by omega) ?_)
            | (refine Ar.sh1 (by omega) ?_)
            | (refine Ar.u64 (by omega) (by omega) ?_)
            | (refine Sv.mk _ rfl ?_)
            | (refine Nz.mk (by omega) ?_)
            | (refine Nn.mk (by omega) ?_)
            | (refine Ix.nat (by omega) ?_)
            | (refine Ix.ofNat (by omega) ?_)
            | (refine Ix.mk 0 rfl (by omega) ?_)
            | (refine Ix.mk 1 rfl (by omega) ?_)
            | (refine Ix.int (by omega) (by omega) ?_)
            | (refine Bd.nat (by omega) ?_)
            | (refine Bd.mk 0 rfl (by omega) ?_)
            | (refine Bd.mk 1 rfl (by omega) ?_)
            | (refine Bd.int (by omega) (by omega) ?_)
            | (refine Len.mk (by omega) ?_)
            | (refine Len.mk (by simp only [List.length_cons, List.length_nil]; omega) ?_)
            | (refine Ltn.mk (by omega) ?_)
            | (refine Both.mk ?_ ?_)
            | (refine MkS.vec ?_)
            | (refine (h1 _ _).mono ?_; rintro _ _ _ ⟨rfl, rfl, rfl⟩)
            | (refine (h2 _ _).mono ?_; rintro _ _ _ ⟨rfl, rfl, rfl⟩)
            | (refine (h3 _ _).mono ?_; rintro _ _ _ ⟨rfl, rfl, rfl⟩)
            | (refine And.intro rfl ?_)
            | (refine Br.any (fun _ => ?_) (fun _ => ?_)))
        all_goals (conv => whnf)
        all_goals exact VLe.rfl

set_option maxHeartbeats 4000000 in
theorem rpermits_ok (g : G) (hs : g.Small) (k : Int) (e c : Nat) (he : e < 4294967296) (hc : c < 4294967296) : Ret Tryd.prog 26 [g.v, .int .i64 k, .int .u32 e, .int .u32 c] (.bool (g.perm k e c)) := by
  have h1 := possible_ok g hs k e he
  have hd := bit_andNot hc he
  refine ret_frz rfl ?_
  refine fn_rule mixed Tryd.func26 rfl hc26 hr26 rfl ?_
  cases hp : g.poss k e with
  | false =>
    rw [G.perm, hp]
    rw [hp] at h1
    repeat' ((conv => whnf); first
        | (refine Br.tt ?_)
        | (refine Br.ff ?_)
        | (refine Br.dec (fun _ => ?_) (fun _ => ?_) <;> first | (exfalso; omega) | skip)
        | (refine Br.beq (fun _ => ?_) (fun _ => ?_) <;> first | (exfalso; omega) | skip)
        | (refine Br.bne (fun _ => ?_) (fun _ => ?_) <;> first | (exfalso; omega) | skip)
        | (refine Br.nbeq (fun _ => ?_) (fun _ => ?_) <;> first | (exfalso; omega) | skip)
        | (refine Br.nble (fun _ => ?_) (fun _ => ?_) <;> first | (exfalso; omega) | skip)
        | (refine Ar.i64 (by omega) (by omega) ?_)
        | (refine Ar.u32 (by omega) (by omega) ?_)
        | (refine Ar.sh1 (by omega) ?_)
        | (refine Ar.u64 (by omega) (by omega) ?_)
        | (refine Sv.mk _ rfl ?_)
        | (refine Nz.mk (by omega) ?_)
        | (refine Nn.mk (by omega) ?_)
        | (refine Ix.nat (by omega) ?_)
        | (refine Ix.ofNat (by omega) ?_)
        | (refine Ix.mk 0 rfl (by omega) ?_)
        | (refine Ix.mk 1 rfl (by omega) ?_)
        | (refine Ix.int (by omega) (by omega) ?_)
        | (refine Bd.nat (by omega) ?_)
        | (refine Bd.mk 0 rfl (by omega) ?_)
        | (refine Bd.mk 1 rfl (by omega) ?_)
        | (refine Bd.int (by omega) (by omega) ?_)
        | (refine Len.mk (by omega) ?_)
        | (refine Len.mk (by simp only [List.length_cons, List.length_nil]; omega) ?_)
        | (refine Ltn.mk (by omega) ?_)
        | (refine Both.mk ?_ ?_)
        | (refine MkS.vec ?_)
        | (refine (h1 _ _).mono ?_; rintro _ _ _ ⟨rfl, rfl, rfl⟩)
        | (refine Br.any (fun _ => ?_) (fun _ => ?_)))
    all_goals (conv => whnf)
    all_goals exact VLe.rfl
  | true =>
    rw [G.perm, hp, Bool.true_and, inner]
    rw [hp] at h1
    obtain ⟨p1, p2, p3⟩ := poss_facts he hp
    by_cases h : c ≠ 0 ∧ ndiff c e = 0
    · rw [decide_eq_true h, Bool.true_and]
      have hpc := part_trans ((part_iff hc).1 h.2) p3
      have hi := independent_ok g hs c hc
      rw [indep_ind p1 hc hpc] at hi
      have h0 := h.1
      have hd0 : bitI .andNot .u32 (c : Int) (e : Int) = 0 := by rw [hd, h.2]; rfl
      have hcn := count_ok c hc
      have hsi := single_iff h0 hc
      repeat' ((conv => whnf); first
          | (refine Sv.mk 0 hd0.symm ?_)
          | (refine Br.tt ?_)
          | (refine Br.ff ?_)
          | (refine Br.dec (fun _ => ?_) (fun _ => ?_) <;> first | (exfalso; omega) | skip)
          | (refine Br.beq (fun _ => ?_) (fun _ => ?_) <;> first | (exfalso; omega) | skip)
          | (refine Br.bne (fun _ => ?_) (fun _ => ?_) <;> first | (exfalso; omega) | skip)
          | (refine Br.nbeq (fun _ => ?_) (fun _ => ?_) <;> first | (exfalso; omega) | skip)
          | (refine Br.nble (fun _ => ?_) (fun _ => ?_) <;> first | (exfalso; omega) | skip)
          | (refine Ar.i64 (by omega) (by omega) ?_)
          | (refine Ar.u32 (by omega) (by omega) ?_)
          | (refine Ar.sh1 (by omega) ?_)
          | (refine Ar.u64 (by omega) (by omega) ?_)
          | (refine Sv.mk _ rfl ?_)
          | (refine Nz.mk (by omega) ?_)
          | (refine Nn.mk (by omega) ?_)
          | (refine Ix.nat (by omega) ?_)
          | (refine Ix.ofNat (by omega) ?_)
          | (refine Ix.mk 0 rfl (by omega) ?_)
          | (refine Ix.mk 1 rfl (by omega) ?_)
          | (refine Ix.int (by omega) (by omega) ?_)
          | (refine Bd.nat (by omega) ?_)
          | (refine Bd.mk 0 rfl (by omega) ?_)
          | (refine Bd.mk 1 rfl (by omega) ?_)
          | (refine Bd.int (by omega) (by omega) ?_)
          | (refine Len.mk (by omega) ?_)
          | (refine Len.mk (by simp only [List.length_cons, List.length_nil]; omega) ?_)
          | (refine Ltn.mk (by omega) ?_)
          | (refine Both.mk ?_ ?_)
          | (refine MkS.vec ?_)
          | (refine (h1 _ _).mono ?_; rintro _ _ _ ⟨rfl, rfl, rfl⟩)
          | (refine (hi _ _).mono ?_; rintro _ _ _ ⟨rfl, rfl, rfl⟩)
          | (refine (hcn _ _).mono ?_; rintro _ _ _ ⟨rfl, rfl, rfl⟩)
          | (refine Br.any (fun _ => ?_) (fun _ => ?_)))
      all_goals (conv => whnf)
      all_goals first
        | (rw [okC, if_pos (by assumption)]; exact VLe.bool (by symm; first | exact decide_eq_true (hsi.2 (by omega)) | exact decide_eq_false (fun x => absurd (hsi.1 x) (by omega))))
        | (rw [okC, if_neg (by assumption), if_pos (by assumption)]; first | exact VLe.bool (Eq.symm (by assumption)) | exact VLe.bool (by rw [ind]; symm; first | exact decide_eq_true (by assumption) | exact decide_eq_false (by assumption)))
        | (rw [okC, if_neg (by assumption), if_neg (by assumption), if_pos (by assumption)]; exact VLe.bool (by symm; first | exact decide_eq_true (by omega) | exact decide_eq_false (by omega)))
        | (rw [okC, if_neg (by assumption), if_neg (by assumption), if_neg (by assumption)]; exact VLe.rfl)
    · rw [decide_eq_false h, Bool.false_and]
      by_cases h0 : c = 0
      · subst h0
        repeat' ((conv => whnf); first
            | (refine Br.tt ?_)
            | (refine Br.ff ?_)
            | (refine Br.dec (fun _ => ?_) (fun _ => ?_) <;> first | (exfalso; omega) | skip)
            | (refine Br.beq (fun _ => ?_) (fun _ => ?_) <;> first | (exfalso; omega) | skip)
            | (refine Br.bne (fun _ => ?_) (fun _ => ?_) <;> first | (exfalso; omega) | skip)
            | (refine Br.nbeq (fun _ => ?_) (fun _ => ?_) <;> first | (exfalso; omega) | skip)
            | (refine Br.nble (fun _ => ?_) (fun _ => ?_) <;> first | (exfalso; omega) | skip)
            | (refine Ar.i64 (by omega) (by omega) ?_)
            | (refine Ar.u32 (by omega) (by omega) ?_)
            | (refine Ar.sh1 (by omega) ?_)
            | (refine Ar.u64 (by omega) (by omega) ?_)
            | (refine Sv.mk _ rfl ?_)
            | (refine Nz.mk (by omega) ?_)
            | (refine Nn.mk (by omega) ?_)
            | (refine Ix.nat (by omega) ?_)
            | (refine Ix.ofNat (by omega) ?_)
            | (refine Ix.mk 0 rfl (by omega) ?_)
            | (refine Ix.mk 1 rfl (by omega) ?_)
            | (refine Ix.int (by omega) (by omega) ?_)
            | (refine Bd.nat (by omega) ?_)
            | (refine Bd.mk 0 rfl (by omega) ?_)
            | (refine Bd.mk 1 rfl (by omega) ?_)
            | (refine Bd.int (by omega) (by omega) ?_)
            | (refine Len.mk (by omega) ?_)
            | (refine Len.mk (by simp only [List.length_cons, List.length_nil]; omega) ?_)
            | (refine Ltn.mk (by omega) ?_)
            | (refine Both.mk ?_ ?_)
            | (refine MkS.vec ?_)
            | (refine (h1 _ _).mono ?_; rintro _ _ _ ⟨rfl, rfl, rfl⟩)
            | (refine Br.any (fun _ => ?_) (fun _ => ?_)))
        all_goals (conv => whnf)
        all_goals exact VLe.rfl
      · have hh1 : ndiff c e ≠ 0 := fun x => h ⟨h0, x⟩
        repeat' ((conv => whnf); first
            | (refine Sv.mk _ hd.symm ?_)
            | (refine Br.tt ?_)
            | (refine Br.ff ?_)
            | (refine Br.dec (fun _ => ?_) (fun _ => ?_) <;> first | (exfalso; omega) | skip)
            | (refine Br.beq (fun _ => ?_) (fun _ => ?_) <;> first | (exfalso; omega) | skip)
            | (refine Br.bne (fun _ => ?_) (fun _ => ?_) <;> first | (exfalso; omega) | skip)
            | (refine Br.nbeq (fun _ => ?_) (fun _ => ?_) <;> first | (exfalso; omega) | skip)
            | (refine Br.nble (fun _ => ?_) (fun _ => ?_) <;> first | (exfalso; omega) | skip)
            | (refine Ar.i64 (by omega) (by omega) ?_)
            | (refine Ar.u32 (by omega) (by omega) ?_)
            | (refine Ar.sh1 (by omega) ?_)
            | (refine Ar.u64 (by omega) (by omega) ?_)
            | (refine Sv.mk _ rfl ?_)
            | (refine Nz.mk (by omega) ?_)
            | (refine Nn.mk (by omega) ?_)
            | (refine Ix.nat (by omega) ?_)
            | (refine Ix.ofNat (by omega) ?_)
            | (refine Ix.mk 0 rfl (by omega) ?_)
            | (refine Ix.mk 1 rfl (by omega) ?_)
            | (refine Ix.int (by omega) (by omega) ?_)
            | (refine Bd.nat (by omega) ?_)
            | (refine Bd.mk 0 rfl (by omega) ?_)
            | (refine Bd.mk 1 rfl (by omega) ?_)
            | (refine Bd.int (by omega) (by omega) ?_)
            | (refine Len.mk (by omega) ?_)
            | (refine Len.mk (by simp only [List.length_cons, List.length_nil]; omega) ?_)
            | (refine Ltn.mk (by omega) ?_)
            | (refine Both.mk ?_ ?_)
            | (refine MkS.vec ?_)
            | (refine (h1 _ _).mono ?_; rintro _ _ _ ⟨rfl, rfl, rfl⟩)
            | (refine Br.any (fun _ => ?_) (fun _ => ?_)))
        all_goals (conv => whnf)
        all_goals exact VLe.rfl
end Go.Proofs.YtjadlpflhmooaaaDoor
