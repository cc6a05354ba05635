import Derived.Test.YtjadlpflhmooaaaGR22
namespace Go.Proofs.Ytjadlpflhmooaaa
open Go.Eng
set_option maxRecDepth 100000
set_option linter.unusedVariables false

/-! ## further links -/

def moreP (x : Net) (n : Nat) (p : Ps) : Nat → Ps
  | 0 => p
  | k + 1 => linkP x.back (moreP x n p k) (within (gI x.links (n + 2 * k)) n).toNat (within (gI x.links (n + 2 * k + 1)) n).toNat (wgt x (n + 2 * k))
def moreN (x : Net) (n : Nat) : Nat := min ((x.links.length - n) / 2) ((61 - n) / 2)
theorem moreP_len (x : Net) (n : Nat) (p : Ps) : ∀ k, (moreP x n p k).length = p.length
  | 0 => rfl
  | k + 1 => by rw [moreP, linkP_len, moreP_len x n p k]
theorem within_lt {a : Int} {n : Nat} (hn : 1 ≤ n) : (within a n).toNat < n := by
  have := within_range a (b := (n : Int)) (by omega)
  omega
theorem moreP_row (x : Net) (n : Nat) (p : Ps) (hn : 1 ≤ n) (hp : p.length = n) : ∀ k u, (gR (moreP x n p k) u).length ≤ (gR p u).length + k
  | 0, u => by rw [moreP]; omega
  | k + 1, u => by
    have h2 := linkP_row x.back (moreP x n p k) (wgt x (n + 2 * k)) (a := (within (gI x.links (n + 2 * k)) n).toNat) (b := (within (gI x.links (n + 2 * k + 1)) n).toNat) (by rw [moreP_len, hp]; exact within_lt hn) (by rw [moreP_len, hp]; exact within_lt hn) u
    have h3 := moreP_row x n p hn hp k u
    rw [moreP]
    omega

set_option maxHeartbeats 8000000 in
theorem more_ok (x : Net) (hx : x.Small) (I : List Int) (p : Ps) (n : Nat) (hn : 1 ≤ n) (hn2 : n ≤ 24) (hI : I.length = n) (hp : p.length = n) (hr : ∀ u, (gR p u).length ≤ 100) :
    CallF Try.prog 46 [x.v, gV1 n n] (netOwn I p) KS4 fun v own' _ => v = gV1 n n ∧ own' = netOwn I (moreP x n p (moreN x n)) := by
  have hll := hx.links
  have hwl := hx.weights
  have hN : moreN x n ≤ 31 ∧ ∀ k, k < moreN x n ↔ (n + 2 * k + 1 < x.links.length ∧ n + 2 * k < 60) := by
    rw [moreN]
    exact ⟨by omega, fun k => by omega⟩
  refine call_post ?_
  refine fn_rule mixed Try.func46 rfl hc46 hr46 rfl ?_
  repeat' ((conv => whnf); first
      | (refine Br.tt ?_)
      | (refine Br.ff ?_)
      | (refine Br.dec (fun _ => ?_) (fun _ => ?_) <;> first | (exfalso; omega) | skip)
      | (refine Br.beq (fun _ => ?_) (fun _ => ?_) <;> first | (exfalso; omega) | skip)
      | (refine Br.bne (fun _ => ?_) (fun _ => ?_) <;> first | (exfalso; omega) | skip)
      | (refine Br.nbeq (fun _ => ?_) (fun _ => ?_) <;> first | (exfalso; omega) | skip)
      | (refine Br.nble (fun _ => ?_) (fun _ => ?_) <;> first | (exfalso; omega) | skip)
      | (refine Ar.i64 (by omega) (by omega) ?_)
      | (refine Ar.u32 (by omega) (by omega) ?_)
      | (refine Ar.sh1 (by omega) ?_)
      | (refine Ar.u64 (by omega) (by omega) ?_)
      | (refine Sv.mk _ rfl ?_)
      | (refine Nz.mk (by omega) ?_)
      | (refine Nn.mk (by omega) ?_)
      | (refine Ix.nat (by omega) ?_)
      | (refine Ix.ofNat (by omega) ?_)
      | (refine Ix.mk 0 rfl (by omega) ?_)
      | (refine Ix.mk 1 rfl (by omega) ?_)
      | (refine Ix.int (by omega) (by omega) ?_)
      | (refine Bd.nat (by omega) ?_)
      | (refine Bd.mk 0 rfl (by omega) ?_)
      | (refine Bd.mk 1 rfl (by omega) ?_)
      | (refine Bd.int (by omega) (by omega) ?_)
      | (refine Len.mk (by omega) ?_)
      | (refine Len.mk (by simp only [List.length_cons, List.length_nil]; omega) ?_)
      | (refine Ltn.mk (by omega) ?_)
      | (refine Both.mk ?_ ?_)
      | (refine MkS.vec ?_)
      | (refine Br.any (fun _ => ?_) (fun _ => ?_)))
  all_goals (conv => whnf)
  refine loop_u mixed [2, 3, 4, 5] [] [5, 6, 7, 8, 9, 10, 11, 12, 13, 14, 15, 16, 17, 18, 19, 20, 21, 22, 23, 24, 25, 26, 27, 28, 29] [4, 3, 2, 0, 1] (fun k : Nat => [(6, .int .i64 ((n : Int) + 2 * k))]) (fun own k => updO own 1 (famP (moreP x n p k))) (fun m k => m = moreN x n - k ∧ k ≤ moreN x n) (moreN x n) 0 ⟨rfl, by omega⟩ rfl (fun _ => rfl) ?_ ?_
  · refine weak_by (fun _ _ => [(0, some 0), (1, some 1), (2, some 2), (3, some 3), (4, some 4)]) ?_ ?_ rfl
    · repeat' (first | exact fam_fam _ _ | exact True.intro | exact VRen.oel rfl rfl | exact VRen.map rfl | exact VRen.yld rfl | (refine VRen.fn ?_) | exact ⟨rfl, rfl⟩ | exact ⟨rfl, rfl, rfl⟩ | (refine ⟨rfl, rfl, rfl, rfl, rfl, ?_⟩) | (refine ⟨⟨_, rfl, ?_⟩, ?_⟩) | exact VRen.kf rfl | exact VRen.int rfl | exact VRen.int (by omega) | exact VRen.loc rfl | exact VRen.vec rfl rfl rfl | exact VRen.vec rfl (by omega) (by omega) | exact VRen.nil rfl rfl | exact VRen.nil rfl (by omega) | exact VRen.fz rfl (fun h => h) (fun _ _ _ _ => VLe.rfl) | (refine ⟨Nat.le_refl _, rfl, fun i j hi hj => ?_⟩) | (refine ⟨by omega, rfl, fun i j hi hj => ?_⟩) | exact VLe.rfl | (refine ⟨⟨_, _, rfl⟩, ?_⟩) | (refine And.intro ?_ ?_))
    · repeat' (first | exact fam_fam _ _ | exact True.intro | exact VRen.oel rfl rfl | exact VRen.map rfl | exact VRen.yld rfl | (refine VRen.fn ?_) | exact ⟨rfl, rfl⟩ | exact ⟨rfl, rfl, rfl⟩ | (refine ⟨rfl, rfl, rfl, rfl, rfl, ?_⟩) | (refine ⟨⟨_, rfl, ?_⟩, ?_⟩) | exact VRen.kf rfl | exact VRen.int rfl | exact VRen.int (by omega) | exact VRen.loc rfl | exact VRen.vec rfl rfl rfl | exact VRen.vec rfl (by omega) (by omega) | exact VRen.nil rfl rfl | exact VRen.nil rfl (by omega) | exact VRen.fz rfl (fun h => h) (fun _ _ _ _ => VLe.rfl) | (refine ⟨Nat.le_refl _, rfl, fun i j hi hj => ?_⟩) | (refine ⟨by omega, rfl, fun i j hi hj => ?_⟩) | exact VLe.rfl | (refine ⟨⟨_, _, rfl⟩, ?_⟩) | (refine And.intro ?_ ?_))
  rintro m k ⟨hm, hk⟩
  have hln := (moreP_len x n p k).trans hp
  have hk2 := hN.2 k
  by_cases hkn : k < moreN x n
  · obtain ⟨c1, c2⟩ := hk2.1 hkn
    have ha2 := at_ok x.weights hwl (n + 2 * k)
    have hw1 := within_ok (gI x.links (n + 2 * k)) n (by omega)
    have hw3 := within_ok (gI x.links (n + 2 * k + 1)) n (by omega)
    have hw2 := within_ok (gI x.weights (n + 2 * k)) 15 (by omega)
    have hr1 := within_range (gI x.links (n + 2 * k)) (b := n) (by omega)
    have hr3 := within_range (gI x.links (n + 2 * k + 1)) (b := n) (by omega)
    have hr2 := within_range (gI x.weights (n + 2 * k)) (b := 15) (by omega)
    have hrow : ∀ u, (gR (moreP x n p k) u).length ≤ 1000 := fun u => by have := moreP_row x n p hn hp k u; have := hr u; omega
    have hl := link_ok x ⟨I, moreP x n p k⟩ (small_of (by show I.length ≤ _; omega) (by show (moreP x n p k).length ≤ _; omega) hrow) hrow (within (gI x.links (n + 2 * k)) n).toNat (within (gI x.links (n + 2 * k + 1)) n).toNat (by show _ < (moreP x n p k).length; omega) (by show _ < (moreP x n p k).length; omega) (wgt x (n + 2 * k))
    have hnx : linkP x.back (moreP x n p k) (within (gI x.links (n + 2 * k)) n).toNat (within (gI x.links (n + 2 * k + 1)) n).toNat (wgt x (n + 2 * k)) = moreP x n p (k + 1) := rfl
    have hwg : wgt x (n + 2 * k) = 1 + within (gI x.weights (n + 2 * k)) 15 := rfl
    simp only [hnx, hI, hln] at hl
    have e2k : ((n + 2 * k : Nat) : Int) = (n : Int) + 2 * k := by omega
    rw [e2k] at ha2
    repeat' ((conv => whnf); first
        | (refine Ix.mk (n + 2 * k) (by omega) (by omega) ?_; try rw [Nat.zero_add])
        | (refine Ix.mk (n + 2 * k + 1) (by omega) (by omega) ?_; try rw [Nat.zero_add])
        | (refine Br.tt ?_)
        | (refine Br.ff ?_)
        | (refine Br.dec (fun _ => ?_) (fun _ => ?_) <;> first | (exfalso; omega) | skip)
        | (refine Br.beq (fun _ => ?_) (fun _ => ?_) <;> first | (exfalso; omega) | skip)
        | (refine Br.bne (fun _ => ?_) (fun _ => ?_) <;> first | (exfalso; omega) | skip)
        | (refine Br.nbeq (fun _ => ?_) (fun _ => ?_) <;> first | (exfalso; omega) | skip)
        | (refine Br.nble (fun _ => ?_) (fun _ => ?_) <;> first | (exfalso; omega) | skip)
        | (refine Ar.i64 (by omega) (by omega) ?_)
        | (refine Ar.u32 (by omega) (by omega) ?_)
        | (refine Ar.sh1 (by omega) ?_)
        | (refine Ar.u64 (by omega) (by omega) ?_)
        | (refine Sv.mk _ rfl ?_)
        | (refine Nz.mk (by omega) ?_)
        | (refine Nn.mk (by omega) ?_)
        | (refine Ix.nat (by omega) ?_)
        | (refine Ix.ofNat (by omega) ?_)
        | (refine Ix.mk 0 rfl (by omega) ?_)
        | (refine Ix.mk 1 rfl (by omega) ?_)
        | (refine Ix.int (by omega) (by omega) ?_)
        | (refine Bd.nat (by omega) ?_)
        | (refine Bd.mk 0 rfl (by omega) ?_)
        | (refine Bd.mk 1 rfl (by omega) ?_)
        | (refine Bd.int (by omega) (by omega) ?_)
        | (refine Len.mk (by omega) ?_)
        | (refine Len.mk (by simp only [List.length_cons, List.length_nil]; omega) ?_)
        | (refine Ltn.mk (by omega) ?_)
        | (refine Both.mk ?_ ?_)
        | (refine MkS.vec ?_)
        | (refine (ha2 _ _).mono ?_; rintro _ _ _ ⟨rfl, rfl, rfl⟩)
        | (refine (hw1 _ _).mono ?_; rintro _ _ _ ⟨rfl, rfl, rfl⟩)
        | (refine (hw3 _ _).mono ?_; rintro _ _ _ ⟨rfl, rfl, rfl⟩)
        | (refine (hw2 _ _).mono ?_; rintro _ _ _ ⟨rfl, rfl, rfl⟩)
        | (refine And.intro rfl ?_)
        | (refine call_by [(0, some 0), (1, some 1)] [] (hl.mono ?_) ⟨VRen.kf rfl, VRen.agg ⟨VRen.vec rfl rfl rfl, VRen.vec rfl rfl rfl, True.intro⟩, VRen.int (by omega), VRen.int (by omega), VRen.int (by omega), True.intro⟩ ⟨⟨_, rfl, Nat.le_of_eq (by first | rfl | exact hI | exact hI.symm), rfl, fun _ _ _ _ => VLe.rfl⟩, ⟨_, rfl, fam_fam _ _⟩, True.intro⟩ rfl; rintro _ _ _ ⟨rfl, rfl⟩)
        | (refine Chk.mk rfl ?_)
        | (refine Br.any (fun _ => ?_) (fun _ => ?_)))
    all_goals (conv => whnf)
    all_goals
      refine ⟨moreN x n - (k + 1), k + 1, by omega, ⟨rfl, by omega⟩, ?_⟩
      refine weak_by (fun _ _ => [(0, some 0), (1, some 1), (2, some 2), (3, some 3), (4, some 4)]) ?_ ?_ rfl
      · repeat' (first | exact fam_fam _ _ | exact ⟨Nat.le_refl _, rfl, fun _ _ _ _ => VLe.rfl⟩ | exact True.intro | exact VRen.oel rfl rfl | exact VRen.map rfl | exact VRen.yld rfl | (refine VRen.fn ?_) | exact ⟨rfl, rfl⟩ | exact ⟨rfl, rfl, rfl⟩ | (refine ⟨rfl, rfl, rfl, rfl, rfl, ?_⟩) | (refine ⟨⟨_, rfl, ?_⟩, ?_⟩) | exact VRen.kf rfl | exact VRen.int rfl | exact VRen.int (by omega) | exact VRen.loc rfl | exact VRen.vec rfl rfl rfl | exact VRen.vec rfl (by omega) (by omega) | exact VRen.nil rfl rfl | exact VRen.nil rfl (by omega) | exact VRen.fz rfl (fun h => h) (fun _ _ _ _ => VLe.rfl) | (refine ⟨Nat.le_refl _, rfl, fun i j hi hj => ?_⟩) | (refine ⟨by omega, rfl, fun i j hi hj => ?_⟩) | exact VLe.rfl | (refine ⟨⟨_, _, rfl⟩, ?_⟩) | (refine And.intro ?_ ?_))
      · repeat' (first | exact fam_fam _ _ | exact ⟨Nat.le_refl _, rfl, fun _ _ _ _ => VLe.rfl⟩ | exact True.intro | exact VRen.oel rfl rfl | exact VRen.map rfl | exact VRen.yld rfl | (refine VRen.fn ?_) | exact ⟨rfl, rfl⟩ | exact ⟨rfl, rfl, rfl⟩ | (refine ⟨rfl, rfl, rfl, rfl, rfl, ?_⟩) | (refine ⟨⟨_, rfl, ?_⟩, ?_⟩) | exact VRen.kf rfl | exact VRen.int rfl | exact VRen.int (by omega) | exact VRen.loc rfl | exact VRen.vec rfl rfl rfl | exact VRen.vec rfl (by omega) (by omega) | exact VRen.nil rfl rfl | exact VRen.nil rfl (by omega) | exact VRen.fz rfl (fun h => h) (fun _ _ _ _ => VLe.rfl) | (refine ⟨Nat.le_refl _, rfl, fun i j hi hj => ?_⟩) | (refine ⟨by omega, rfl, fun i j hi hj => ?_⟩) | exact VLe.rfl | (refine ⟨⟨_, _, rfl⟩, ?_⟩) | (refine And.intro ?_ ?_))
  · have e : k = moreN x n := by omega
    subst e
    by_cases h1 : n + 2 * moreN x n + 1 < x.links.length
    all_goals
      repeat' ((conv => whnf); first
          | (refine Br.tt ?_)
          | (refine Br.ff ?_)
          | (refine Br.dec (fun _ => ?_) (fun _ => ?_) <;> first | (exfalso; omega) | skip)
          | (refine Br.beq (fun _ => ?_) (fun _ => ?_) <;> first | (exfalso; omega) | skip)
          | (refine Br.bne (fun _ => ?_) (fun _ => ?_) <;> first | (exfalso; omega) | skip)
          | (refine Br.nbeq (fun _ => ?_) (fun _ => ?_) <;> first | (exfalso; omega) | skip)
          | (refine Br.nble (fun _ => ?_) (fun _ => ?_) <;> first | (exfalso; omega) | skip)
          | (refine Ar.i64 (by omega) (by omega) ?_)
          | (refine Ar.u32 (by omega) (by omega) ?_)
          | (refine Ar.sh1 (by omega) ?_)
          | (refine Ar.u64 (by omega) (by omega) ?_)
          | (refine Sv.mk _ rfl ?_)
          | (refine Nz.mk (by omega) ?_)
          | (refine Nn.mk (by omega) ?_)
          | (refine Ix.nat (by omega) ?_)
          | (refine Ix.ofNat (by omega) ?_)
          | (refine Ix.mk 0 rfl (by omega) ?_)
          | (refine Ix.mk 1 rfl (by omega) ?_)
          | (refine Ix.int (by omega) (by omega) ?_)
          | (refine Bd.nat (by omega) ?_)
          | (refine Bd.mk 0 rfl (by omega) ?_)
          | (refine Bd.mk 1 rfl (by omega) ?_)
          | (refine Bd.int (by omega) (by omega) ?_)
          | (refine Len.mk (by omega) ?_)
          | (refine Len.mk (by simp only [List.length_cons, List.length_nil]; omega) ?_)
          | (refine Ltn.mk (by omega) ?_)
          | (refine Both.mk ?_ ?_)
          | (refine MkS.vec ?_)
          | (refine Br.any (fun _ => ?_) (fun _ => ?_)))
      all_goals (conv => whnf)
      all_goals exact postR_byV (fun v o => [(0, vkey v 0), (1, vkey v 1)]) _ _ ⟨rfl, rfl⟩ (VRen.agg ⟨VRen.vec rfl rfl rfl, VRen.vec rfl rfl rfl, True.intro⟩) ⟨⟨_, rfl, Nat.le_refl _, rfl, fun _ _ _ _ => VLe.rfl⟩, ⟨_, rfl, fam_fam _ _⟩, True.intro⟩ rfl

theorem size_ok (x : Net) {most : Int} (h1 : 1 ≤ most) : 1 ≤ x.size most ∧ (x.size most : Int) ≤ most := by
  have := within_range x.n1 h1
  rw [Net.size]; omega
def Net.con (x : Net) (most : Int) : G := ⟨idsF x.ids (x.size most), moreP x (x.size most) (treeP x (x.size most) (x.size most - 1)) (moreN x (x.size most))⟩
def Net.any (x : Net) (most : Int) : G := if x.apart then ⟨idsF x.ids (x.size most), moreP x (x.size most) (List.replicate (x.size most) []) (moreN x (x.size most))⟩ else x.con most

theorem view_g {g : G} {n : Nat} (h1 : g.ids.length = n) (h2 : g.ports.length = n) : VLe (V.agg [.fz n 1 false (shiftF 0 (vI g.ids)), .fz n 1 false fun i _ => .fz (lenP g.ports i) 2 false (rowP g.ports i)]) g.v := by
  refine VLe.agg ⟨?_, ?_, True.intro⟩
  · exact VLe.fz h1.symm (fun h => h) (fun i j hi hj => VLe.of_eq (by simp [shiftF]))
  · exact VLe.fz h2.symm (fun h => h) (fun i j hi hj => VLe.rfl)
theorem ret_g {g : G} {n : Nat} (h1 : g.ids.length = n) (h2 : g.ports.length = n) : frzT (gOwn g) (gV1 n n) fun v => VLe v g.v :=
  ⟨by rw [Nat.zero_add, h1]; exact Nat.le_refl _, Nat.le_of_eq h2.symm, view_g h1 h2⟩

set_option maxHeartbeats 8000000 in
theorem connected_call (x : Net) (hx : x.Small) (most : Int) (h1 : 1 ≤ most) (h2 : most ≤ 24) :
    CallF Try.prog 45 [x.v, .int .i64 most] [] KS fun v own' _ => v = gV1 (x.size most) (x.size most) ∧ own' = gOwn (x.con most) := by
  have ht := tree_ok x hx most h1 h2
  have hsz := size_ok x h1
  have hm := more_ok x hx (idsF x.ids (x.size most)) (treeP x (x.size most) (x.size most - 1)) (x.size most) hsz.1 (by omega) (idsF_len _ _) (treeP_len _ _ _) (fun u => by have := treeP_row x (x.size most) (x.size most - 1) (by omega) u; omega)
  refine call_post ?_
  refine fn_rule mixed Try.func45 rfl hc45 hr45 rfl ?_
  repeat' ((conv => whnf); first
      | (refine Br.tt ?_)
      | (refine Br.ff ?_)
      | (refine Br.dec (fun _ => ?_) (fun _ => ?_) <;> first | (exfalso; omega) | skip)
      | (refine Br.beq (fun _ => ?_) (fun _ => ?_) <;> first | (exfalso; omega) | skip)
      | (refine Br.bne (fun _ => ?_) (fun _ => ?_) <;> first | (exfalso; omega) | skip)
      | (refine Br.nbeq (fun _ => ?_) (fun _ => ?_) <;> first | (exfalso; omega) | skip)
      | (refine Br.nble (fun _ => ?_) (fun _ => ?_) <;> first | (exfalso; omega) | skip)
      | (refine Ar.i64 (by omega) (by omega) ?_)
      | (refine Ar.u32 (by omega) (by omega) ?_)
      | (refine Ar.sh1 (by omega) ?_)
      | (refine Ar.u64 (by omega) (by omega) ?_)
      | (refine Sv.mk _ rfl ?_)
      | (refine Nz.mk (by omega) ?_)
      | (refine Nn.mk (by omega) ?_)
      | (refine Ix.nat (by omega) ?_)
      | (refine Ix.ofNat (by omega) ?_)
      | (refine Ix.mk 0 rfl (by omega) ?_)
      | (refine Ix.mk 1 rfl (by omega) ?_)
      | (refine Ix.int (by omega) (by omega) ?_)
      | (refine Bd.nat (by omega) ?_)
      | (refine Bd.mk 0 rfl (by omega) ?_)
      | (refine Bd.mk 1 rfl (by omega) ?_)
      | (refine Bd.int (by omega) (by omega) ?_)
      | (refine Len.mk (by omega) ?_)
      | (refine Len.mk (by simp only [List.length_cons, List.length_nil]; omega) ?_)
      | (refine Ltn.mk (by omega) ?_)
      | (refine Both.mk ?_ ?_)
      | (refine MkS.vec ?_)
      | (refine call_by [] [0, 1] (ht.mono ?_) ⟨VRen.kf rfl, VRen.kf rfl, True.intro⟩ True.intro rfl; rintro _ _ _ ⟨rfl, rfl⟩)
      | (refine call_by [(0, some 2), (1, some 3)] [] (hm.mono ?_) ⟨VRen.kf rfl, VRen.agg ⟨VRen.vec rfl rfl rfl, VRen.vec rfl rfl rfl, True.intro⟩, True.intro⟩ ⟨⟨_, rfl, Nat.le_refl _, rfl, fun _ _ _ _ => VLe.rfl⟩, ⟨_, rfl, fam_fam _ _⟩, True.intro⟩ rfl; rintro _ _ _ ⟨rfl, rfl⟩)
      | (refine Chk.mk rfl ?_)
      | (refine And.intro rfl ?_)
      | (refine Br.any (fun _ => ?_) (fun _ => ?_)))
  all_goals (conv => whnf)
  exact postR_byV (fun v o => [(0, vkey v 0), (1, vkey v 1)]) _ _ ⟨rfl, rfl⟩ (VRen.agg ⟨VRen.vec rfl rfl rfl, VRen.vec rfl rfl rfl, True.intro⟩) ⟨⟨_, rfl, Nat.le_refl _, rfl, fun _ _ _ _ => VLe.rfl⟩, ⟨_, rfl, fam_fam _ _⟩, True.intro⟩ rfl

theorem con_len (x : Net) (most : Int) : (x.con most).ids.length = x.size most ∧ (x.con most).ports.length = x.size most := ⟨idsF_len _ _, (moreP_len _ _ _ _).trans (treeP_len _ _ _)⟩
theorem any_len (x : Net) (most : Int) : (x.any most).ids.length = x.size most ∧ (x.any most).ports.length = x.size most := by
  rw [Net.any]; split
  · exact ⟨idsF_len _ _, (moreP_len _ _ _ _).trans (by simp)⟩
  · exact con_len x most
theorem connected_ok (x : Net) (hx : x.Small) (most : Int) (h1 : 1 ≤ most) (h2 : most ≤ 24) : Ret Try.prog 45 [x.v, .int .i64 most] (x.con most).v := by
  refine ret_frz rfl ((connected_call x hx most h1 h2).mono ?_)
  rintro _ _ _ ⟨rfl, rfl⟩
  exact ret_g (con_len x most).1 (con_len x most).2

set_option maxHeartbeats 8000000 in
theorem any_ok (x : Net) (hx : x.Small) (most : Int) (h1 : 1 ≤ most) (h2 : most ≤ 24) : Ret Try.prog 7 [x.v, .int .i64 most] (x.any most).v := by
  have hc := connected_call x hx most h1 h2
  have ht := nodes_ok x hx most h1 h2
  have hsz := size_ok x h1
  have hm := more_ok x hx (idsF x.ids (x.size most)) (List.replicate (x.size most) []) (x.size most) hsz.1 (by omega) (idsF_len _ _) (by simp) (fun u => by rw [rep_row]; simp)
  have hl := any_len x most
  refine ret_frz rfl ?_
  refine fn_rule mixed Try.func7 rfl hc7 hr7 rfl ?_
  cases hap : x.apart with
  | false =>
    have he : x.any most = x.con most := by rw [Net.any, hap]; rfl
    rw [he] at hl ⊢
    obtain ⟨xn, xl, xw, xi, xa, xb⟩ := x
    simp only at hap
    subst hap
    repeat' ((conv => whnf); first
        | (refine Br.tt ?_)
        | (refine Br.ff ?_)
        | (refine Br.dec (fun _ => ?_) (fun _ => ?_) <;> first | (exfalso; omega) | skip)
        | (refine Br.beq (fun _ => ?_) (fun _ => ?_) <;> first | (exfalso; omega) | skip)
        | (refine Br.bne (fun _ => ?_) (fun _ => ?_) <;> first | (exfalso; omega) | skip)
        | (refine Br.nbeq (fun _ => ?_) (fun _ => ?_) <;> first | (exfalso; omega) | skip)
        | (refine Br.nble (fun _ => ?_) (fun _ => ?_) <;> first | (exfalso; omega) | skip)
        | (refine Ar.i64 (by omega) (by omega) ?_)
        | (refine Ar.u32 (by omega) (by omega) ?_)
        | (refine Ar.sh1 (by omega) ?_)
        | (refine Ar.u64 (by omega) (by omega) ?_)
        | (refine Sv.mk _ rfl ?_)
        | (refine Nz.mk (by omega) ?_)
        | (refine Nn.mk (by omega) ?_)
        | (refine Ix.nat (by omega) ?_)
        | (refine Ix.ofNat (by omega) ?_)
        | (refine Ix.mk 0 rfl (by omega) ?_)
        | (refine Ix.mk 1 rfl (by omega) ?_)
        | (refine Ix.int (by omega) (by omega) ?_)
        | (refine Bd.nat (by omega) ?_)
        | (refine Bd.mk 0 rfl (by omega) ?_)
        | (refine Bd.mk 1 rfl (by omega) ?_)
        | (refine Bd.int (by omega) (by omega) ?_)
        | (refine Len.mk (by omega) ?_)
        | (refine Len.mk (by simp only [List.length_cons, List.length_nil]; omega) ?_)
        | (refine Ltn.mk (by omega) ?_)
        | (refine Both.mk ?_ ?_)
        | (refine MkS.vec ?_)
        | (refine call_by [] [0, 1] (hc.mono ?_) ⟨VRen.kf rfl, VRen.kf rfl, True.intro⟩ True.intro rfl; rintro _ _ _ ⟨rfl, rfl⟩)
        | (refine Chk.mk rfl ?_)
        | (refine And.intro rfl ?_)
        | (refine Br.any (fun _ => ?_) (fun _ => ?_)))
    all_goals (conv => whnf)
    exact view_g hl.1 hl.2
  | true =>
    have he : x.any most = ⟨idsF x.ids (x.size most), moreP x (x.size most) (List.replicate (x.size most) []) (moreN x (x.size most))⟩ := by rw [Net.any, hap]; rfl
    rw [he] at hl ⊢
    obtain ⟨xn, xl, xw, xi, xa, xb⟩ := x
    simp only at hap
    subst hap
    repeat' ((conv => whnf); first
        | (refine Br.tt ?_)
        | (refine Br.ff ?_)
        | (refine Br.dec (fun _ => ?_) (fun _ => ?_) <;> first | (exfalso; omega) | skip)
        | (refine Br.beq (fun _ => ?_) (fun _ => ?_) <;> first | (exfalso; omega) | skip)
        | (refine Br.bne (fun _ => ?_) (fun _ => ?_) <;> first | (exfalso; omega) | skip)
        | (refine Br.nbeq (fun _ => ?_) (fun _ => ?_) <;> first | (exfalso; omega) | skip)
        | (refine Br.nble (fun _ => ?_) (fun _ => ?_) <;> first | (exfalso; omega) | skip)
        | (refine Ar.i64 (by omega) (by omega) ?_)
        | (refine Ar.u32 (by omega) (by omega) ?_)
        | (refine Ar.sh1 (by omega) ?_)
        | (refine Ar.u64 (by omega) (by omega) ?_)
        | (refine Sv.mk _ rfl ?_)
        | (refine Nz.mk (by omega) ?_)
        | (refine Nn.mk (by omega) ?_)
        | (refine Ix.nat (by omega) ?_)
        | (refine Ix.ofNat (by omega) ?_)
        | (refine Ix.mk 0 rfl (by omega) ?_)
        | (refine Ix.mk 1 rfl (by omega) ?_)
        | (refine Ix.int (by omega) (by omega) ?_)
        | (refine Bd.nat (by omega) ?_)
        | (refine Bd.mk 0 rfl (by omega) ?_)
        | (refine Bd.mk 1 rfl (by omega) ?_)
        | (refine Bd.int (by omega) (by omega) ?_)
        | (refine Len.mk (by omega) ?_)
        | (refine Len.mk (by simp only [List.length_cons, List.length_nil]; omega) ?_)
        | (refine Ltn.mk (by omega) ?_)
        | (refine Both.mk ?_ ?_)
        | (refine MkS.vec ?_)
        | (refine call_by [] [0, 1] (ht.mono ?_) ⟨VRen.kf rfl, VRen.kf rfl, True.intro⟩ True.intro rfl; rintro _ _ _ ⟨rfl, rfl⟩)
        | (refine call_by [(0, some 2), (1, some 3)] [] (hm.mono ?_) ⟨VRen.kf rfl, VRen.agg ⟨VRen.vec rfl rfl rfl, VRen.vec rfl rfl rfl, True.intro⟩, True.intro⟩ ⟨⟨_, rfl, Nat.le_of_eq (idsF_len _ _), rfl, fun _ _ _ _ => VLe.rfl⟩, ⟨_, rfl, vec_fam _ _⟩, True.intro⟩ rfl; rintro _ _ _ ⟨rfl, rfl⟩)
        | (refine Chk.mk rfl ?_)
        | (refine And.intro rfl ?_)
        | (refine Br.any (fun _ => ?_) (fun _ => ?_)))
    all_goals (conv => whnf)
    exact view_g hl.1 hl.2
end Go.Proofs.Ytjadlpflhmooaaa
