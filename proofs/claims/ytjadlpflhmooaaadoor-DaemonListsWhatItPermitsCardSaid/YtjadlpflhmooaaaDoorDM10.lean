import Derived.Test.YtjadlpflhmooaaaDoorDM9
namespace Go.Proofs.YtjadlpflhmooaaaDoor
open Go.Eng
set_option maxRecDepth 100000
set_option linter.unusedVariables false

def G.resolve (g : G) (k : Int) (e w : Nat) : Nat := if g.poss k e then rs g k e w else 0

set_option maxHeartbeats 4000000 in
theorem resolve_ok (g : G) (hs : g.Small) (k : Int) (e w : Nat) (he : e < 4294967296) (hw : w < 4294967296) : RG 15 [g.v, .int .i64 k, .int .u32 e, .int .u32 w] (.int .u32 (g.resolve k e w)) := by
  have h1 := valid_ok g hs
  have h2 := dvalid_ok k
  refine ret_frzG rfl ?_
  refine fn_rule mixed Tryd.func15 rfl hc15 hr15 rfl ?_
  rw [G.resolve, G.poss]
  cases hg : g.valid with
  | false =>
    rw [hg] at h1
    repeat' ((conv => whnf); first
        | (refine Br.tt ?_)
        | (refine Br.ff ?_)
        | (refine Br.dec (fun _ => ?_) (fun _ => ?_) <;> first | (exfalso; omega) | skip)
        | (refine Br.beq (fun _ => ?_) (fun _ => ?_) <;> first | (exfalso; omega) | skip)
        | (refine Br.bne (fun _ => ?_) (fun _ => ?_) <;> first | (exfalso; omega) | skip)
        | (refine Br.nbeq (fun _ => ?_) (fun _ => ?_) <;> first | (exfalso; omega) | skip)
        | (refine Br.nble (fun _ => ?_) (fun _ => ?_) <;> first | (exfalso; omega) | skip)
        | (refine Ar.i64 (by omega) (by omega) ?_)
        | (refine Ar.u32 (by omega) (by omega) ?_)
        | (refine Ar.sh1 (by omega) ?_)
        | (refine Ar.u64 (by omega) (by omega) ?_)
        | (refine Sv.mk _ rfl ?_)
        | (refine Nz.mk (by omega) ?_)
        | (refine Nn.mk (by omega) ?_)
        | (refine Ix.nat (by omega) ?_)
        | (refine Ix.ofNat (by omega) ?_)
        | (refine Ix.mk 0 rfl (by omega) ?_)
        | (refine Ix.mk 1 rfl (by omega) ?_)
        | (refine Ix.int (by omega) (by omega) ?_)
        | (refine Bd.nat (by omega) ?_)
        | (refine Bd.mk 0 rfl (by omega) ?_)
        | (refine Bd.mk 1 rfl (by omega) ?_)
        | (refine Bd.int (by omega) (by omega) ?_)
        | (refine Len.mk (by omega) ?_)
        | (refine Len.mk (by simp only [List.length_cons, List.length_nil]; omega) ?_)
        | (refine Ltn.mk (by omega) ?_)
        | (refine Both.mk ?_ ?_)
        | (refine MkS.vec ?_)
        | (refine (h1 _ _).mono ?_; rintro _ _ _ ⟨rfl, rfl, rfl⟩)
        | (refine Br.any (fun _ => ?_) (fun _ => ?_)))
    all_goals (conv => whnf)
    all_goals exact VLe.rfl
  | true =>
    rw [hg] at h1
    obtain ⟨f1, f2, f3, f4, f5, f6, f7⟩ := val_facts hg
    have h3 := all_ok g hg
    rw [← f3] at h3
    have hd : bitI .andNot .u32 (e : Int) (full g.ports.length : Nat) = ((ndiff e (full g.ports.length) : Nat) : Int) := bit_andNot he (nb_lt (fun _ => true) (k := g.ports.length) (by omega))
    cases hk : dk k with
    | false =>
      rw [hk] at h2
      repeat' ((conv => whnf); first
          | (refine Br.tt ?_)
          | (refine Br.ff ?_)
          | (refine Br.dec (fun _ => ?_) (fun _ => ?_) <;> first | (exfalso; omega) | skip)
          | (refine Br.beq (fun _ => ?_) (fun _ => ?_) <;> first | (exfalso; omega) | skip)
          | (refine Br.bne (fun _ => ?_) (fun _ => ?_) <;> first | (exfalso; omega) | skip)
          | (refine Br.nbeq (fun _ => ?_) (fun _ => ?_) <;> first | (exfalso; omega) | skip)
          | (refine Br.nble (fun _ => ?_) (fun _ => ?_) <;> first | (exfalso; omega) | skip)
          | (refine Ar.i64 (by omega) (by omega) ?_)
          | (refine Ar.u32 (by omega) (by omega) ?_)
          | (refine Ar.sh1 (by omega) ?_)
          | (refine Ar.u64 (by omega) (by omega) ?_)
          | (refine Sv.mk _ rfl ?_)
          | (refine Nz.mk (by omega) ?_)
          | (refine Nn.mk (by omega) ?_)
          | (refine Ix.nat (by omega) ?_)
          | (refine Ix.ofNat (by omega) ?_)
          | (refine Ix.mk 0 rfl (by omega) ?_)
          | (refine Ix.mk 1 rfl (by omega) ?_)
          | (refine Ix.int (by omega) (by omega) ?_)
          | (refine Bd.nat (by omega) ?_)
          | (refine Bd.mk 0 rfl (by omega) ?_)
          | (refine Bd.mk 1 rfl (by omega) ?_)
          | (refine Bd.int (by omega) (by omega) ?_)
          | (refine Len.mk (by omega) ?_)
          | (refine Len.mk (by simp only [List.length_cons, List.length_nil]; omega) ?_)
          | (refine Ltn.mk (by omega) ?_)
          | (refine Both.mk ?_ ?_)
          | (refine MkS.vec ?_)
          | (refine (h1 _ _).mono ?_; rintro _ _ _ ⟨rfl, rfl, rfl⟩)
          | (refine (h2 _ _).mono ?_; rintro _ _ _ ⟨rfl, rfl, rfl⟩)
          | (refine Br.any (fun _ => ?_) (fun _ => ?_)))
      all_goals (conv => whnf)
      all_goals exact VLe.rfl
    | true =>
      rw [hk] at h2
      by_cases hz : ndiff e (full g.ports.length) = 0
      · rw [decide_eq_true hz]
        have hd0 : bitI .andNot .u32 (e : Int) (full g.ports.length : Nat) = 0 := by rw [hd, hz]; rfl
        have h4 := newnet_ok g hs hg
        have h5 := nresolve_ok g hg k e w he hw ((part_iff he).1 hz)
        repeat' ((conv => whnf); first
            | (refine Sv.mk 0 hd0.symm ?_)
            | (refine Br.tt ?_)
            | (refine Br.ff ?_)
            | (refine Br.dec (fun _ => ?_) (fun _ => ?_) <;> first | (exfalso; omega) | skip)
            | (refine Br.beq (fun _ => ?_) (fun _ => ?_) <;> first | (exfalso; omega) | skip)
            | (refine Br.bne (fun _ => ?_) (fun _ => ?_) <;> first | (exfalso; omega) | skip)
            | (refine Br.nbeq (fun _ => ?_) (fun _ => ?_) <;> first | (exfalso; omega) | skip)
            | (refine Br.nble (fun _ => ?_) (fun _ => ?_) <;> first | (exfalso; omega) | skip)
            | (refine Ar.i64 (by omega) (by omega) ?_)
            | (refine Ar.u32 (by omega) (by omega) ?_)
            | (refine Ar.sh1 (by omega) ?_)
            | (refine Ar.u64 (by omega) (by omega) ?_)
            | (refine Sv.mk _ rfl ?_)
            | (refine Nz.mk (by omega) ?_)
            | (refine Nn.mk (by omega) ?_)
            | (refine Ix.nat (by omega) ?_)
            | (refine Ix.ofNat (by omega) ?_)
            | (refine Ix.mk 0 rfl (by omega) ?_)
            | (refine Ix.mk 1 rfl (by omega) ?_)
            | (refine Ix.int (by omega) (by omega) ?_)
            | (refine Bd.nat (by omega) ?_)
            | (refine Bd.mk 0 rfl (by omega) ?_)
            | (refine Bd.mk 1 rfl (by omega) ?_)
            | (refine Bd.int (by omega) (by omega) ?_)
            | (refine Len.mk (by omega) ?_)
            | (refine Len.mk (by simp only [List.length_cons, List.length_nil]; omega) ?_)
            | (refine Ltn.mk (by omega) ?_)
            | (refine Both.mk ?_ ?_)
            | (refine MkS.vec ?_)
            | (refine (h1 _ _).mono ?_; rintro _ _ _ ⟨rfl, rfl, rfl⟩)
            | (refine (h2 _ _).mono ?_; rintro _ _ _ ⟨rfl, rfl, rfl⟩)
            | (refine (h3 _ _).mono ?_; rintro _ _ _ ⟨rfl, rfl, rfl⟩)
            | (refine (h4 _ _).mono ?_; rintro _ _ _ ⟨rfl, rfl, rfl⟩)
            | (refine (h5 _ _ rfl).mono ?_; rintro _ _ _ ⟨rfl, rfl, rfl⟩)
            | (refine And.intro rfl ?_)
            | (refine Br.any (fun _ => ?_) (fun _ => ?_)))
        all_goals (conv => whnf)
        all_goals exact VLe.rfl
      · rw [decide_eq_false hz]
        repeat' ((conv => whnf); first
            | (refine Sv.mk _ hd.symm ?_)
            | (refine Br.tt ?_)
            | (refine Br.ff ?_)
            | (refine Br.dec (fun _ => ?_) (fun _ => ?_) <;> first | (exfalso; omega) | skip)
            | (refine Br.beq (fun _ => ?_) (fun _ => ?_) <;> first | (exfalso; omega) | skip)
            | (refine Br.bne (fun _ => ?_) (fun _ => ?_) <;> first | (exfalso; omega) | skip)
            | (refine Br.nbeq (fun _ => ?_) (fun _ => ?_) <;> first | (exfalso; omega) | skip)
            | (refine Br.nble (fun _ => ?_) (fun _ => ?_) <;> first | (exfalso; omega) | skip)
            | (refine Ar.i64 (by omega) (by omega) ?_)
            | (refine Ar.u32 (by omega) (by omega) ?_)
            | (refine Ar.sh1 (by omega) ?_)
            | (refine Ar.u64 (by omega) (by omega) ?_)
            | (refine Sv.mk _ rfl ?_)
            | (refine Nz.mk (by omega) ?_)
            | (refine Nn.mk (by omega) ?_)
            | (refine Ix.nat (by omega) ?_)
            | (refine Ix.ofNat (by omega) ?_)
            | (refine Ix.mk 0 rfl (by omega) ?_)
            | (refine Ix.mk 1 rfl (by omega) ?_)
            | (refine Ix.int (by omega) (by omega) ?_)
            | (refine Bd.nat (by omega) ?_)
            | (refine Bd.mk 0 rfl (by omega) ?_)
            | (refine Bd.mk 1 rfl (by omega) ?_)
            | (refine Bd.int (by omega) (by omega) ?_)
            | (refine Len.mk (by omega) ?_)
            | (refine Len.mk (by simp only [List.length_cons, List.length_nil]; omega) ?_)
            | (refine Ltn.mk (by omega) ?_)
            | (refine Both.mk ?_ ?_)
            | (refine MkS.vec ?_)
            | (refine (h1 _ _).mono ?_; rintro _ _ _ ⟨rfl, rfl, rfl⟩)
            | (refine (h2 _ _).mono ?_; rintro _ _ _ ⟨rfl, rfl, rfl⟩)
            | (refine (h3 _ _).mono ?_; rintro _ _ _ ⟨rfl, rfl, rfl⟩)
            | (refine And.intro rfl ?_)
            | (refine Br.any (fun _ => ?_) (fun _ => ?_)))
        all_goals (conv => whnf)
        all_goals exact VLe.rfl

set_option maxHeartbeats 4000000 in
theorem greedy_ok (g : G) (hs : g.Small) (hg : g.valid = true) (W : Nat) (hW : W < 4294967296) : Ret Tryd.prog 40 [g.v, .int .u32 W] (.int .u32 (gr g W g.ports.length)) := by
  obtain ⟨f1, f2, f3, f4, f5, f6, f7⟩ := val_facts hg
  refine ret_frz rfl ?_
  refine fn_rule mixed Tryd.func40 rfl hc40 hr40 rfl ?_
  repeat' ((conv => whnf); first
      | (refine Br.tt ?_)
      | (refine Br.ff ?_)
      | (refine Br.dec (fun _ => ?_) (fun _ => ?_) <;> first | (exfalso; omega) | skip)
      | (refine Br.beq (fun _ => ?_) (fun _ => ?_) <;> first | (exfalso; omega) | skip)
      | (refine Br.bne (fun _ => ?_) (fun _ => ?_) <;> first | (exfalso; omega) | skip)
      | (refine Br.nbeq (fun _ => ?_) (fun _ => ?_) <;> first | (exfalso; omega) | skip)
      | (refine Br.nble (fun _ => ?_) (fun _ => ?_) <;> first | (exfalso; omega) | skip)
      | (refine Ar.i64 (by omega) (by omega) ?_)
      | (refine Ar.u32 (by omega) (by omega) ?_)
      | (refine Ar.sh1 (by omega) ?_)
      | (refine Ar.u64 (by omega) (by omega) ?_)
      | (refine Sv.mk _ rfl ?_)
      | (refine Nz.mk (by omega) ?_)
      | (refine Nn.mk (by omega) ?_)
      | (refine Ix.nat (by omega) ?_)
      | (refine Ix.ofNat (by omega) ?_)
      | (refine Ix.mk 0 rfl (by omega) ?_)
      | (refine Ix.mk 1 rfl (by omega) ?_)
      | (refine Ix.int (by omega) (by omega) ?_)
      | (refine Bd.nat (by omega) ?_)
      | (refine Bd.mk 0 rfl (by omega) ?_)
      | (refine Bd.mk 1 rfl (by omega) ?_)
      | (refine Bd.int (by omega) (by omega) ?_)
      | (refine Len.mk (by omega) ?_)
      | (refine Len.mk (by simp only [List.length_cons, List.length_nil]; omega) ?_)
      | (refine Ltn.mk (by omega) ?_)
      | (refine Both.mk ?_ ?_)
      | (refine MkS.vec ?_)
      | (refine Br.any (fun _ => ?_) (fun _ => ?_)))
  all_goals (conv => whnf)
  refine loop_r mixed [1, 2] (fun v : Nat => [(5, .int .u32 (gr g W v)), (6, .int .i64 v)]) (fun m v => m = g.ports.length - v ∧ v ≤ g.ports.length) g.ports.length 0 ⟨rfl, by omega⟩ ?_ ?_
  · refine weak_by (fun _ _ => [(0, some 0)]) ?_ ?_ rfl
    · repeat' (first | exact True.intro | exact VRen.oel rfl rfl | exact VRen.map rfl | exact VRen.yld rfl | (refine VRen.fn ?_) | exact ⟨rfl, rfl⟩ | exact ⟨rfl, rfl, rfl⟩ | (refine ⟨rfl, rfl, rfl, rfl, rfl, ?_⟩) | (refine ⟨⟨_, rfl, ?_⟩, ?_⟩) | exact VRen.kf rfl | exact VRen.int rfl | exact VRen.int (by omega) | exact VRen.loc rfl | exact VRen.vec rfl rfl rfl | exact VRen.vec rfl (by omega) (by omega) | exact VRen.nil rfl rfl | exact VRen.nil rfl (by omega) | exact VRen.fz rfl (fun h => h) (fun _ _ _ _ => VLe.rfl) | (refine ⟨Nat.le_refl _, rfl, fun i j hi hj => ?_⟩) | (refine ⟨by omega, rfl, fun i j hi hj => ?_⟩) | exact VLe.rfl | (refine ⟨⟨_, _, rfl⟩, ?_⟩) | (refine And.intro ?_ ?_))
    · repeat' (first | exact True.intro | exact VRen.oel rfl rfl | exact VRen.map rfl | exact VRen.yld rfl | (refine VRen.fn ?_) | exact ⟨rfl, rfl⟩ | exact ⟨rfl, rfl, rfl⟩ | (refine ⟨rfl, rfl, rfl, rfl, rfl, ?_⟩) | (refine ⟨⟨_, rfl, ?_⟩, ?_⟩) | exact VRen.kf rfl | exact VRen.int rfl | exact VRen.int (by omega) | exact VRen.loc rfl | exact VRen.vec rfl rfl rfl | exact VRen.vec rfl (by omega) (by omega) | exact VRen.nil rfl rfl | exact VRen.nil rfl (by omega) | exact VRen.fz rfl (fun h => h) (fun _ _ _ _ => VLe.rfl) | (refine ⟨Nat.le_refl _, rfl, fun i j hi hj => ?_⟩) | (refine ⟨by omega, rfl, fun i j hi hj => ?_⟩) | exact VLe.rfl | (refine ⟨⟨_, _, rfl⟩, ?_⟩) | (refine And.intro ?_ ?_))
  rintro m v ⟨hm, hv⟩
  have hgl := gr_lt g W (b := v) (by omega)
  have hn := rneighbours_ok g hs (gr g W v) hgl
  rw [nbrs_valid hg] at hn
  have hnl := nb_lt (nbr g (gr g W v)) (k := g.ports.length) (by omega)
  have hb1 : v < g.ports.length → hasB W v = W.testBit v := fun h => has_bit (by omega)
  have hb2 : v < g.ports.length → hasB (nb (nbr g (gr g W v)) g.ports.length) v = nbr g (gr g W v) v := fun h => by
    rw [has_bit (by omega), nb_bit, decide_eq_true h, Bool.true_and]
  repeat' ((conv => whnf); first
      | (refine Br.tt ?_)
      | (refine Br.ff ?_)
      | (refine Br.dec (fun _ => ?_) (fun _ => ?_) <;> first | (exfalso; omega) | skip)
      | (refine Br.beq (fun _ => ?_) (fun _ => ?_) <;> first | (exfalso; omega) | skip)
      | (refine Br.bne (fun _ => ?_) (fun _ => ?_) <;> first | (exfalso; omega) | skip)
      | (refine Br.nbeq (fun _ => ?_) (fun _ => ?_) <;> first | (exfalso; omega) | skip)
      | (refine Br.nble (fun _ => ?_) (fun _ => ?_) <;> first | (exfalso; omega) | skip)
      | (refine Ar.i64 (by omega) (by omega) ?_)
      | (refine Ar.u32 (by omega) (by omega) ?_)
      | (refine Ar.sh1 (by omega) ?_)
      | (refine Ar.u64 (by omega) (by omega) ?_)
      | (refine Sv.mk _ rfl ?_)
      | (refine Nz.mk (by omega) ?_)
      | (refine Nn.mk (by omega) ?_)
      | (refine Ix.nat (by omega) ?_)
      | (refine Ix.ofNat (by omega) ?_)
      | (refine Ix.mk 0 rfl (by omega) ?_)
      | (refine Ix.mk 1 rfl (by omega) ?_)
      | (refine Ix.int (by omega) (by omega) ?_)
      | (refine Bd.nat (by omega) ?_)
      | (refine Bd.mk 0 rfl (by omega) ?_)
      | (refine Bd.mk 1 rfl (by omega) ?_)
      | (refine Bd.int (by omega) (by omega) ?_)
      | (refine Len.mk (by omega) ?_)
      | (refine Len.mk (by simp only [List.length_cons, List.length_nil]; omega) ?_)
      | (refine Ltn.mk (by omega) ?_)
      | (refine Both.mk ?_ ?_)
      | (refine MkS.vec ?_)
      | (refine (has_ok W hW _ _ _).mono ?_; rintro _ _ _ ⟨rfl, rfl, rfl⟩)
      | (refine (hn _ _).mono ?_; rintro _ _ _ ⟨rfl, rfl, rfl⟩)
      | (refine (has_ok _ hnl _ _ _).mono ?_; rintro _ _ _ ⟨rfl, rfl, rfl⟩)
      | (refine Br.any (fun _ => ?_) (fun _ => ?_)))
  all_goals (conv => whnf)
  all_goals first
    | (have hs1 : gr g W (v + 1) = gr g W v ||| 2 ^ v := by
         rw [gr, if_pos ⟨by rw [← hb1 (by omega)]; assumption, nm_and.2 (by rw [← hb2 (by omega)]; assumption)⟩]
       have hgo := bit_or hgl (pow_lt32 (show v < 32 by omega))
       refine ⟨g.ports.length - (v + 1), v + 1, by omega, ⟨rfl, by omega⟩, ?_⟩
       refine weak_by (fun _ _ => [(0, some 0)]) ?_ ?_ rfl
       · repeat' (first | exact VRen.int (by rw [hs1]; exact hgo) | exact True.intro | exact VRen.oel rfl rfl | exact VRen.map rfl | exact VRen.yld rfl | (refine VRen.fn ?_) | exact ⟨rfl, rfl⟩ | exact ⟨rfl, rfl, rfl⟩ | (refine ⟨rfl, rfl, rfl, rfl, rfl, ?_⟩) | (refine ⟨⟨_, rfl, ?_⟩, ?_⟩) | exact VRen.kf rfl | exact VRen.int rfl | exact VRen.int (by omega) | exact VRen.loc rfl | exact VRen.vec rfl rfl rfl | exact VRen.vec rfl (by omega) (by omega) | exact VRen.nil rfl rfl | exact VRen.nil rfl (by omega) | exact VRen.fz rfl (fun h => h) (fun _ _ _ _ => VLe.rfl) | (refine ⟨Nat.le_refl _, rfl, fun i j hi hj => ?_⟩) | (refine ⟨by omega, rfl, fun i j hi hj => ?_⟩) | exact VLe.rfl | (refine ⟨⟨_, _, rfl⟩, ?_⟩) | (refine And.intro ?_ ?_))
       · repeat' (first | exact VRen.int (by rw [hs1]; exact hgo) | exact True.intro | exact VRen.oel rfl rfl | exact VRen.map rfl | exact VRen.yld rfl | (refine VRen.fn ?_) | exact ⟨rfl, rfl⟩ | exact ⟨rfl, rfl, rfl⟩ | (refine ⟨rfl, rfl, rfl, rfl, rfl, ?_⟩) | (refine ⟨⟨_, rfl, ?_⟩, ?_⟩) | exact VRen.kf rfl | exact VRen.int rfl | exact VRen.int (by omega) | exact VRen.loc rfl | exact VRen.vec rfl rfl rfl | exact VRen.vec rfl (by omega) (by omega) | exact VRen.nil rfl rfl | exact VRen.nil rfl (by omega) | exact VRen.fz rfl (fun h => h) (fun _ _ _ _ => VLe.rfl) | (refine ⟨Nat.le_refl _, rfl, fun i j hi hj => ?_⟩) | (refine ⟨by omega, rfl, fun i j hi hj => ?_⟩) | exact VLe.rfl | (refine ⟨⟨_, _, rfl⟩, ?_⟩) | (refine And.intro ?_ ?_)))
    | (have hs1 : gr g W (v + 1) = gr g W v := by
         rw [gr, if_neg (fun h => by
           have h3 := h.1
           have h4 := nm_and.1 h.2
           rw [← hb1 (by omega)] at h3
           rw [← hb2 (by omega)] at h4
           simp_all)]
       refine ⟨g.ports.length - (v + 1), v + 1, by omega, ⟨rfl, by omega⟩, ?_⟩
       refine weak_by (fun _ _ => [(0, some 0)]) ?_ ?_ rfl
       · repeat' (first | exact VRen.int (by rw [hs1]) | exact True.intro | exact VRen.oel rfl rfl | exact VRen.map rfl | exact VRen.yld rfl | (refine VRen.fn ?_) | exact ⟨rfl, rfl⟩ | exact ⟨rfl, rfl, rfl⟩ | (refine ⟨rfl, rfl, rfl, rfl, rfl, ?_⟩) | (refine ⟨⟨_, rfl, ?_⟩, ?_⟩) | exact VRen.kf rfl | exact VRen.int rfl | exact VRen.int (by omega) | exact VRen.loc rfl | exact VRen.vec rfl rfl rfl | exact VRen.vec rfl (by omega) (by omega) | exact VRen.nil rfl rfl | exact VRen.nil rfl (by omega) | exact VRen.fz rfl (fun h => h) (fun _ _ _ _ => VLe.rfl) | (refine ⟨Nat.le_refl _, rfl, fun i j hi hj => ?_⟩) | (refine ⟨by omega, rfl, fun i j hi hj => ?_⟩) | exact VLe.rfl | (refine ⟨⟨_, _, rfl⟩, ?_⟩) | (refine And.intro ?_ ?_))
       · repeat' (first | exact VRen.int (by rw [hs1]) | exact True.intro | exact VRen.oel rfl rfl | exact VRen.map rfl | exact VRen.yld rfl | (refine VRen.fn ?_) | exact ⟨rfl, rfl⟩ | exact ⟨rfl, rfl, rfl⟩ | (refine ⟨rfl, rfl, rfl, rfl, rfl, ?_⟩) | (refine ⟨⟨_, rfl, ?_⟩, ?_⟩) | exact VRen.kf rfl | exact VRen.int rfl | exact VRen.int (by omega) | exact VRen.loc rfl | exact VRen.vec rfl rfl rfl | exact VRen.vec rfl (by omega) (by omega) | exact VRen.nil rfl rfl | exact VRen.nil rfl (by omega) | exact VRen.fz rfl (fun h => h) (fun _ _ _ _ => VLe.rfl) | (refine ⟨Nat.le_refl _, rfl, fun i j hi hj => ?_⟩) | (refine ⟨by omega, rfl, fun i j hi hj => ?_⟩) | exact VLe.rfl | (refine ⟨⟨_, _, rfl⟩, ?_⟩) | (refine And.intro ?_ ?_)))
    | (have e1 : v = g.ports.length := by omega
       rw [← e1]; exact VLe.rfl)

set_option maxHeartbeats 4000000 in
theorem rresolve_ok (g : G) (hs : g.Small) (k : Int) (e w : Nat) (he : e < 4294967296) (hw : w < 4294967296) : Ret Tryd.prog 16 [g.v, .int .i64 k, .int .u32 e, .int .u32 w] (.int .u32 (g.resolve k e w)) := by
  have h1 := possible_ok g hs k e he
  refine ret_frz rfl ?_
  refine fn_rule mixed Tryd.func16 rfl hc16 hr16 rfl ?_
  rw [G.resolve]
  cases hp : g.poss k e with
  | false =>
    rw [hp] at h1
    rw [if_neg (by simp)]
    repeat' ((conv => whnf); first
        | (refine Br.tt ?_)
        | (refine Br.ff ?_)
        | (refine Br.dec (fun _ => ?_) (fun _ => ?_) <;> first | (exfalso; omega) | skip)
        | (refine Br.beq (fun _ => ?_) (fun _ => ?_) <;> first | (exfalso; omega) | skip)
        | (refine Br.bne (fun _ => ?_) (fun _ => ?_) <;> first | (exfalso; omega) | skip)
        | (refine Br.nbeq (fun _ => ?_) (fun _ => ?_) <;> first | (exfalso; omega) | skip)
        | (refine Br.nble (fun _ => ?_) (fun _ => ?_) <;> first | (exfalso; omega) | skip)
        | (refine Ar.i64 (by omega) (by omega) ?_)
        | (refine Ar.u32 (by omega) (by omega) ?_)
        | (refine Ar.sh1 (by omega) ?_)
        | (refine Ar.u64 (by omega) (by omega) ?_)
        | (refine Sv.mk _ rfl ?_)
        | (refine Nz.mk (by omega) ?_)
        | (refine Nn.mk (by omega) ?_)
        | (refine Ix.nat (by omega) ?_)
        | (refine Ix.ofNat (by omega) ?_)
        | (refine Ix.mk 0 rfl (by omega) ?_)
        | (refine Ix.mk 1 rfl (by omega) ?_)
        | (refine Ix.int (by omega) (by omega) ?_)
        | (refine Bd.nat (by omega) ?_)
        | (refine Bd.mk 0 rfl (by omega) ?_)
        | (refine Bd.mk 1 rfl (by omega) ?_)
        | (refine Bd.int (by omega) (by omega) ?_)
        | (refine Len.mk (by omega) ?_)
        | (refine Len.mk (by simp only [List.length_cons, List.length_nil]; omega) ?_)
        | (refine Ltn.mk (by omega) ?_)
        | (refine Both.mk ?_ ?_)
        | (refine MkS.vec ?_)
        | (refine (h1 _ _).mono ?_; rintro _ _ _ ⟨rfl, rfl, rfl⟩)
        | (refine Br.any (fun _ => ?_) (fun _ => ?_)))
    all_goals (conv => whnf)
    all_goals exact VLe.rfl
  | true =>
    rw [hp] at h1
    rw [if_pos rfl]
    by_cases h0 : e = 0
    · subst h0
      rw [rs_zero]
      repeat' ((conv => whnf); first
          | (refine Br.tt ?_)
          | (refine Br.ff ?_)
          | (refine Br.dec (fun _ => ?_) (fun _ => ?_) <;> first | (exfalso; omega) | skip)
          | (refine Br.beq (fun _ => ?_) (fun _ => ?_) <;> first | (exfalso; omega) | skip)
          | (refine Br.bne (fun _ => ?_) (fun _ => ?_) <;> first | (exfalso; omega) | skip)
          | (refine Br.nbeq (fun _ => ?_) (fun _ => ?_) <;> first | (exfalso; omega) | skip)
          | (refine Br.nble (fun _ => ?_) (fun _ => ?_) <;> first | (exfalso; omega) | skip)
          | (refine Ar.i64 (by omega) (by omega) ?_)
          | (refine Ar.u32 (by omega) (by omega) ?_)
          | (refine Ar.sh1 (by omega) ?_)
          | (refine Ar.u64 (by omega) (by omega) ?_)
          | (refine Sv.mk _ rfl ?_)
          | (refine Nz.mk (by omega) ?_)
          | (refine Nn.mk (by omega) ?_)
          | (refine Ix.nat (by omega) ?_)
          | (refine Ix.ofNat (by omega) ?_)
          | (refine Ix.mk 0 rfl (by omega) ?_)
          | (refine Ix.mk 1 rfl (by omega) ?_)
          | (refine Ix.int (by omega) (by omega) ?_)
          | (refine Bd.nat (by omega) ?_)
          | (refine Bd.mk 0 rfl (by omega) ?_)
          | (refine Bd.mk 1 rfl (by omega) ?_)
          | (refine Bd.int (by omega) (by omega) ?_)
          | (refine Len.mk (by omega) ?_)
          | (refine Len.mk (by simp only [List.length_cons, List.length_nil]; omega) ?_)
          | (refine Ltn.mk (by omega) ?_)
          | (refine Both.mk ?_ ?_)
          | (refine MkS.vec ?_)
          | (refine (h1 _ _).mono ?_; rintro _ _ _ ⟨rfl, rfl, rfl⟩)
          | (refine Br.any (fun _ => ?_) (fun _ => ?_)))
      all_goals (conv => whnf)
      all_goals exact VLe.rfl
    · obtain ⟨p1, p2, p3⟩ := poss_facts he hp
      obtain ⟨f1, f2, f3, f4, f5, f6, f7⟩ := val_facts p1
      have ha := bit_and hw he
      have hl := least_ok e he
      have hW := wsh_lt (w := w) he
      have hWp := part_trans (wsh_part (w := w) he) p3
      have hl2 := least_ok _ hW
      have hgd := greedy_ok g hs p1 _ hW
      rw [gr_full hWp (by omega)] at hgd
      rw [rs]
      by_cases hz : w &&& e = 0
      · have hww : wsh e w = lowb e := by rw [wsh, if_pos hz]
        rw [hww] at hl2 hgd ⊢
        repeat' ((conv => whnf); first
            | (refine Sv.mk _ ha.symm ?_)
            | (refine Br.tt ?_)
            | (refine Br.ff ?_)
            | (refine Br.dec (fun _ => ?_) (fun _ => ?_) <;> first | (exfalso; omega) | skip)
            | (refine Br.beq (fun _ => ?_) (fun _ => ?_) <;> first | (exfalso; omega) | skip)
            | (refine Br.bne (fun _ => ?_) (fun _ => ?_) <;> first | (exfalso; omega) | skip)
            | (refine Br.nbeq (fun _ => ?_) (fun _ => ?_) <;> first | (exfalso; omega) | skip)
            | (refine Br.nble (fun _ => ?_) (fun _ => ?_) <;> first | (exfalso; omega) | skip)
            | (refine Ar.i64 (by omega) (by omega) ?_)
            | (refine Ar.u32 (by omega) (by omega) ?_)
            | (refine Ar.sh1 (by omega) ?_)
            | (refine Ar.u64 (by omega) (by omega) ?_)
            | (refine Sv.mk _ rfl ?_)
            | (refine Nz.mk (by omega) ?_)
            | (refine Nn.mk (by omega) ?_)
            | (refine Ix.nat (by omega) ?_)
            | (refine Ix.ofNat (by omega) ?_)
            | (refine Ix.mk 0 rfl (by omega) ?_)
            | (refine Ix.mk 1 rfl (by omega) ?_)
            | (refine Ix.int (by omega) (by omega) ?_)
            | (refine Bd.nat (by omega) ?_)
            | (refine Bd.mk 0 rfl (by omega) ?_)
            | (refine Bd.mk 1 rfl (by omega) ?_)
            | (refine Bd.int (by omega) (by omega) ?_)
            | (refine Len.mk (by omega) ?_)
            | (refine Len.mk (by simp only [List.length_cons, List.length_nil]; omega) ?_)
            | (refine Ltn.mk (by omega) ?_)
            | (refine Both.mk ?_ ?_)
            | (refine MkS.vec ?_)
            | (refine (h1 _ _).mono ?_; rintro _ _ _ ⟨rfl, rfl, rfl⟩)
            | (refine (hl _ _).mono ?_; rintro _ _ _ ⟨rfl, rfl, rfl⟩)
            | (refine (hl2 _ _).mono ?_; rintro _ _ _ ⟨rfl, rfl, rfl⟩)
            | (refine (hgd _ _).mono ?_; rintro _ _ _ ⟨rfl, rfl, rfl⟩)
            | (refine Br.any (fun _ => ?_) (fun _ => ?_)))
        all_goals (conv => whnf)
        all_goals first
          | (rw [if_pos (by assumption)]; exact VLe.rfl)
          | (rw [if_neg (by assumption), if_pos (by assumption)]; exact VLe.rfl)
          | (rw [if_neg (by assumption), if_neg (by assumption), if_pos (by assumption)]; exact VLe.rfl)
          | (rw [if_neg (by assumption), if_neg (by assumption), if_neg (by assumption)]; exact VLe.rfl)
      · have hww : wsh e w = w &&& e := by rw [wsh, if_neg hz]
        rw [hww] at hl2 hgd ⊢
        repeat' ((conv => whnf); first
            | (refine Sv.mk _ ha.symm ?_)
            | (refine Br.tt ?_)
            | (refine Br.ff ?_)
            | (refine Br.dec (fun _ => ?_) (fun _ => ?_) <;> first | (exfalso; omega) | skip)
            | (refine Br.beq (fun _ => ?_) (fun _ => ?_) <;> first | (exfalso; omega) | skip)
            | (refine Br.bne (fun _ => ?_) (fun _ => ?_) <;> first | (exfalso; omega) | skip)
            | (refine Br.nbeq (fun _ => ?_) (fun _ => ?_) <;> first | (exfalso; omega) | skip)
            | (refine Br.nble (fun _ => ?_) (fun _ => ?_) <;> first | (exfalso; omega) | skip)
            | (refine Ar.i64 (by omega) (by omega) ?_)
            | (refine Ar.u32 (by omega) (by omega) ?_)
            | (refine Ar.sh1 (by omega) ?_)
            | (refine Ar.u64 (by omega) (by omega) ?_)
            | (refine Sv.mk _ rfl ?_)
            | (refine Nz.mk (by omega) ?_)
            | (refine Nn.mk (by omega) ?_)
            | (refine Ix.nat (by omega) ?_)
            | (refine Ix.ofNat (by omega) ?_)
            | (refine Ix.mk 0 rfl (by omega) ?_)
            | (refine Ix.mk 1 rfl (by omega) ?_)
            | (refine Ix.int (by omega) (by omega) ?_)
            | (refine Bd.nat (by omega) ?_)
            | (refine Bd.mk 0 rfl (by omega) ?_)
            | (refine Bd.mk 1 rfl (by omega) ?_)
            | (refine Bd.int (by omega) (by omega) ?_)
            | (refine Len.mk (by omega) ?_)
            | (refine Len.mk (by simp only [List.length_cons, List.length_nil]; omega) ?_)
            | (refine Ltn.mk (by omega) ?_)
            | (refine Both.mk ?_ ?_)
            | (refine MkS.vec ?_)
            | (refine (h1 _ _).mono ?_; rintro _ _ _ ⟨rfl, rfl, rfl⟩)
            | (refine (hl _ _).mono ?_; rintro _ _ _ ⟨rfl, rfl, rfl⟩)
            | (refine (hl2 _ _).mono ?_; rintro _ _ _ ⟨rfl, rfl, rfl⟩)
            | (refine (hgd _ _).mono ?_; rintro _ _ _ ⟨rfl, rfl, rfl⟩)
            | (refine Br.any (fun _ => ?_) (fun _ => ?_)))
        all_goals (conv => whnf)
        all_goals first
          | (rw [if_pos (by assumption)]; exact VLe.rfl)
          | (rw [if_neg (by assumption), if_pos (by assumption)]; exact VLe.rfl)
          | (rw [if_neg (by assumption), if_neg (by assumption), if_pos (by assumption)]; exact VLe.rfl)
          | (rw [if_neg (by assumption), if_neg (by assumption), if_neg (by assumption)]; exact VLe.rfl)

/-! ## the chapter's example -/

def p3 : G := ⟨[0, 1, 2], [[(1, 1)], [(0, 1), (2, 1)], [(1, 1)]]⟩
theorem p3_small : p3.Small := ⟨by decide, by decide, by decide⟩
theorem path_ok : Ret Tryd.prog 29 [] p3.v := by
  refine ret_frz rfl ?_
  refine fn_rule mixed Tryd.func29 rfl hc29 hr29 rfl ?_
  repeat' ((conv => whnf); first
      | (refine Br.tt ?_)
      | (refine Br.ff ?_)
      | (refine Br.dec (fun _ => ?_) (fun _ => ?_) <;> first | (exfalso; omega) | skip)
      | (refine Br.beq (fun _ => ?_) (fun _ => ?_) <;> first | (exfalso; omega) | skip)
      | (refine Br.bne (fun _ => ?_) (fun _ => ?_) <;> first | (exfalso; omega) | skip)
      | (refine Br.nbeq (fun _ => ?_) (fun _ => ?_) <;> first | (exfalso; omega) | skip)
      | (refine Br.nble (fun _ => ?_) (fun _ => ?_) <;> first | (exfalso; omega) | skip)
      | (refine Ar.i64 (by omega) (by omega) ?_)
      | (refine Ar.u32 (by omega) (by omega) ?_)
      | (refine Ar.sh1 (by omega) ?_)
      | (refine Ar.u64 (by omega) (by omega) ?_)
      | (refine Sv.mk _ rfl ?_)
      | (refine Nz.mk (by omega) ?_)
      | (refine Nn.mk (by omega) ?_)
      | (refine Ix.nat (by omega) ?_)
      | (refine Ix.ofNat (by omega) ?_)
      | (refine Ix.mk 0 rfl (by omega) ?_)
      | (refine Ix.mk 1 rfl (by omega) ?_)
      | (refine Ix.int (by omega) (by omega) ?_)
      | (refine Bd.nat (by omega) ?_)
      | (refine Bd.mk 0 rfl (by omega) ?_)
      | (refine Bd.mk 1 rfl (by omega) ?_)
      | (refine Bd.int (by omega) (by omega) ?_)
      | (refine Len.mk (by omega) ?_)
      | (refine Len.mk (by simp only [List.length_cons, List.length_nil]; omega) ?_)
      | (refine Ltn.mk (by omega) ?_)
      | (refine Both.mk ?_ ?_)
      | (refine MkS.vec ?_)
      | (refine Br.any (fun _ => ?_) (fun _ => ?_)))
  all_goals (conv => whnf)
  refine VLe.agg ⟨VLe.fz rfl (fun h => h) (fun i j hi hj => ?_), VLe.fz rfl (fun h => h) (fun i j hi hj => ?_), True.intro⟩
  · rcases i with _ | _ | _ | i
    all_goals first | (exfalso; omega) | (rcases j with _ | j; exact VLe.rfl; exfalso; omega)
  · rcases i with _ | _ | _ | i
    all_goals first | (exfalso; omega) | skip
    all_goals
      refine VLe.fz rfl (fun h => h) (fun i j hi hj => ?_)
      rcases i with _ | _ | i
      all_goals first | (exfalso; omega) | (rcases j with _ | _ | j; exact VLe.rfl; exact VLe.rfl; exfalso; omega)
theorem c7 : p3.choices 2 7 = ([1, 2, 4, 5], 0) := by decide +kernel
theorem r7 : p3.resolve 2 7 7 = 5 := by decide +kernel
theorem four_le (a b d f : Nat) (F : Nat → Nat → V) (h0 : F 0 0 = .int .u32 a) (h1 : F 1 0 = .int .u32 b) (h2 : F 2 0 = .int .u32 d) (h3 : F 3 0 = .int .u32 f) : ∀ i j : Nat, i < 4 → j < 1 → VLe (F i j) (vU [a, b, d, f] i j) := by
  intro i j hi hj
  have e' : j = 0 := by omega
  subst e'
  rcases i with _ | _ | _ | _ | i
  · rw [h0]; exact VLe.rfl
  · rw [h1]; exact VLe.rfl
  · rw [h2]; exact VLe.rfl
  · rw [h3]; exact VLe.rfl
  · exfalso; omega
theorem awake_ok : RG 11 [] (.bool true) := by
  have h1 := choices_ok p3 p3_small 2 7 (by decide)
  have h2 := resolve_ok p3 p3_small 2 7 7 (by decide) (by decide)
  have h3 := same_ok [1, 2, 4, 5] [1, 2, 4, 5] (by decide) (by decide)
  rw [c7] at h1
  rw [r7] at h2
  rw [decide_eq_true rfl] at h3
  refine ret_frzG rfl ?_
  refine fn_rule mixed Tryd.func11 rfl hc11 hr11 rfl ?_
  repeat' ((conv => whnf); first
      | (refine Br.tt ?_)
      | (refine Br.ff ?_)
      | (refine Br.dec (fun _ => ?_) (fun _ => ?_) <;> first | (exfalso; omega) | skip)
      | (refine Br.beq (fun _ => ?_) (fun _ => ?_) <;> first | (exfalso; omega) | skip)
      | (refine Br.bne (fun _ => ?_) (fun _ => ?_) <;> first | (exfalso; omega) | skip)
      | (refine Br.nbeq (fun _ => ?_) (fun _ => ?_) <;> first | (exfalso; omega) | skip)
      | (refine Br.nble (fun _ => ?_) (fun _ => ?_) <;> first | (exfalso; omega) | skip)
      | (refine Ar.i64 (by omega) (by omega) ?_)
      | (refine Ar.u32 (by omega) (by omega) ?_)
      | (refine Ar.sh1 (by omega) ?_)
      | (refine Ar.u64 (by omega) (by omega) ?_)
      | (refine Sv.mk _ rfl ?_)
      | (refine Nz.mk (by omega) ?_)
      | (refine Nn.mk (by omega) ?_)
      | (refine Ix.nat (by omega) ?_)
      | (refine Ix.ofNat (by omega) ?_)
      | (refine Ix.mk 0 rfl (by omega) ?_)
      | (refine Ix.mk 1 rfl (by omega) ?_)
      | (refine Ix.int (by omega) (by omega) ?_)
      | (refine Bd.nat (by omega) ?_)
      | (refine Bd.mk 0 rfl (by omega) ?_)
      | (refine Bd.mk 1 rfl (by omega) ?_)
      | (refine Bd.int (by omega) (by omega) ?_)
      | (refine Len.mk (by omega) ?_)
      | (refine Len.mk (by simp only [List.length_cons, List.length_nil]; omega) ?_)
      | (refine Ltn.mk (by omega) ?_)
      | (refine Both.mk ?_ ?_)
      | (refine MkS.vec ?_)
      | (refine (path_ok _ _).mono ?_; rintro _ _ _ ⟨rfl, rfl, rfl⟩)
      | (refine (h1 _ _ rfl).mono ?_; rintro _ _ _ ⟨rfl, rfl, rfl⟩)
      | (refine (h2 _ _ rfl).mono ?_; rintro _ _ _ ⟨rfl, rfl, rfl⟩)
      | (refine call_frz [0] h3 ⟨by decide, VLe.rfl, VLe.fz rfl (fun h => h) (four_le 1 2 4 5 _ rfl rfl rfl rfl), True.intro⟩ ?_)
      | (refine Br.any (fun _ => ?_) (fun _ => ?_)))
  all_goals (conv => whnf)
  all_goals exact VLe.rfl
end Go.Proofs.YtjadlpflhmooaaaDoor
