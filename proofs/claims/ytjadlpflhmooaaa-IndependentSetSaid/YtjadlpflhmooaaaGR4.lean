import Derived.Test.YtjadlpflhmooaaaGR3
import Derived.Test.YtjadlpflhmooaaaEngU
namespace Go.Proofs.Ytjadlpflhmooaaa
open Go.Eng
set_option maxRecDepth 100000
set_option linter.unusedVariables false

/-! ## rings -/

def fitR (n v : Nat) (r : List (Int × Int)) : Bool := decide (r.length = 2 ∧ (gF r 0).1 = ((v : Int) + n - 1).tmod n ∧ (gF r 1).1 = ((v : Int) + 1).tmod n)
theorem fitR_iff {n v : Nat} {r : List (Int × Int)} : fitR n v r = true ↔ r.length = 2 ∧ (gF r 0).1 = ((v : Int) + n - 1).tmod n ∧ (gF r 1).1 = ((v : Int) + 1).tmod n := by
  rw [fitR, decide_eq_true_eq]
def G.ring (g : G) : Bool := decide (3 ≤ g.ids.length ∧ ∀ v, v < g.ports.length → fitR g.ids.length v (gR g.ports v) = true)
def G.rfit (g : G) : Bool := g.valid && g.ring
theorem ring_iff {g : G} : g.ring = true ↔ 3 ≤ g.ids.length ∧ ∀ v, v < g.ports.length → fitR g.ids.length v (gR g.ports v) = true := by
  rw [G.ring, decide_eq_true_eq]
theorem ring_no {g : G} (h : ¬ (3 ≤ g.ids.length ∧ ∀ v, v < g.ports.length → fitR g.ids.length v (gR g.ports v) = true)) : g.ring = false := by
  rw [← Bool.not_eq_true, ring_iff]; exact h

set_option maxHeartbeats 4000000 in
theorem fit_ok (g : G) (hs : g.Small) : Ret Try.prog 19 [g.v] (.bool g.rfit) := by
  have s1 := hs.ids
  have s2 := hs.ports
  have hval := valid_ok g hs
  refine ret_frz rfl ?_
  refine fn_rule mixed Try.func19 rfl hc19 hr19 rfl ?_
  by_cases hg : g.valid = true
  · rw [G.rfit]
    rw [hg] at hval ⊢
    rw [Bool.true_and]
    obtain ⟨f1, f2, f3, f4, f5, f6, f7⟩ := val_facts hg
    repeat' ((conv => whnf); first
        | (refine Br.tt ?_)
        | (refine Br.ff ?_)
        | (refine Br.dec (fun _ => ?_) (fun _ => ?_) <;> first | (exfalso; omega) | skip)
        | (refine Br.beq (fun _ => ?_) (fun _ => ?_) <;> first | (exfalso; omega) | skip)
        | (refine Br.bne (fun _ => ?_) (fun _ => ?_) <;> first | (exfalso; omega) | skip)
        | (refine Br.nbeq (fun _ => ?_) (fun _ => ?_) <;> first | (exfalso; omega) | skip)
        | (refine Br.nble (fun _ => ?_) (fun _ => ?_) <;> first | (exfalso; omega) | skip)
        | (refine Ar.i64 (by omega) (by omega) ?_)
        | (refine Ar.u32 (by omega) (by omega) ?_)
        | (refine Ar.sh1 (by omega) ?_)
        | (refine Ar.u64 (by omega) (by omega) ?_)
        | (refine Sv.mk _ rfl ?_)
        | (refine Nz.mk (by omega) ?_)
        | (refine Nn.mk (by omega) ?_)
        | (refine Ix.nat (by omega) ?_)
        | (refine Ix.ofNat (by omega) ?_)
        | (refine Ix.mk 0 rfl (by omega) ?_)
        | (refine Ix.mk 1 rfl (by omega) ?_)
        | (refine Ix.int (by omega) (by omega) ?_)
        | (refine Bd.nat (by omega) ?_)
        | (refine Bd.mk 0 rfl (by omega) ?_)
        | (refine Bd.mk 1 rfl (by omega) ?_)
        | (refine Bd.int (by omega) (by omega) ?_)
        | (refine Len.mk (by omega) ?_)
        | (refine Len.mk (by simp only [List.length_cons, List.length_nil]; omega) ?_)
        | (refine Ltn.mk (by omega) ?_)
        | (refine Both.mk ?_ ?_)
        | (refine MkS.vec ?_)
        | (refine (hval _ _).mono ?_; rintro _ _ _ ⟨rfl, rfl, rfl⟩)
        | (refine Br.any (fun _ => ?_) (fun _ => ?_)))
    all_goals (conv => whnf)
    · exact VLe.bool (ring_no (fun h => by omega)).symm
    refine loop_r mixed [3, 17, 18] (fun i : Nat => [(19, .int .i64 i)]) (fun m v => m = g.ports.length - v ∧ v ≤ g.ports.length ∧ ∀ u, u < v → fitR g.ids.length u (gR g.ports u) = true) g.ports.length 0 ⟨rfl, Nat.zero_le _, fun u hu => by omega⟩ ?_ ?_
    · refine weak_by (fun _ _ => [(0, some 0)]) ?_ ?_ rfl
      · repeat' (first | exact True.intro | exact VRen.oel rfl rfl | exact VRen.map rfl | exact VRen.yld rfl | (refine VRen.fn ?_) | exact ⟨rfl, rfl⟩ | exact ⟨rfl, rfl, rfl⟩ | (refine ⟨rfl, rfl, rfl, rfl, rfl, ?_⟩) | (refine ⟨⟨_, rfl, ?_⟩, ?_⟩) | exact VRen.kf rfl | exact VRen.int rfl | exact VRen.int (by omega) | exact VRen.loc rfl | exact VRen.vec rfl rfl rfl | exact VRen.vec rfl (by omega) (by omega) | exact VRen.nil rfl rfl | exact VRen.nil rfl (by omega) | exact VRen.fz rfl (fun h => h) (fun _ _ _ _ => VLe.rfl) | (refine ⟨Nat.le_refl _, rfl, fun i j hi hj => ?_⟩) | (refine ⟨by omega, rfl, fun i j hi hj => ?_⟩) | exact VLe.rfl | (refine ⟨⟨_, _, rfl⟩, ?_⟩) | (refine And.intro ?_ ?_))
      · repeat' (first | exact True.intro | exact VRen.oel rfl rfl | exact VRen.map rfl | exact VRen.yld rfl | (refine VRen.fn ?_) | exact ⟨rfl, rfl⟩ | exact ⟨rfl, rfl, rfl⟩ | (refine ⟨rfl, rfl, rfl, rfl, rfl, ?_⟩) | (refine ⟨⟨_, rfl, ?_⟩, ?_⟩) | exact VRen.kf rfl | exact VRen.int rfl | exact VRen.int (by omega) | exact VRen.loc rfl | exact VRen.vec rfl rfl rfl | exact VRen.vec rfl (by omega) (by omega) | exact VRen.nil rfl rfl | exact VRen.nil rfl (by omega) | exact VRen.fz rfl (fun h => h) (fun _ _ _ _ => VLe.rfl) | (refine ⟨Nat.le_refl _, rfl, fun i j hi hj => ?_⟩) | (refine ⟨by omega, rfl, fun i j hi hj => ?_⟩) | exact VLe.rfl | (refine ⟨⟨_, _, rfl⟩, ?_⟩) | (refine And.intro ?_ ?_))
    rintro m v ⟨hm, hv, hall⟩
    have hrl := gR_len hs.rows v
    repeat' ((conv => whnf); first
        | (refine Br.tt ?_)
        | (refine Br.ff ?_)
        | (refine Br.dec (fun _ => ?_) (fun _ => ?_) <;> first | (exfalso; omega) | skip)
        | (refine Br.beq (fun _ => ?_) (fun _ => ?_) <;> first | (exfalso; omega) | skip)
        | (refine Br.bne (fun _ => ?_) (fun _ => ?_) <;> first | (exfalso; omega) | skip)
        | (refine Br.nbeq (fun _ => ?_) (fun _ => ?_) <;> first | (exfalso; omega) | skip)
        | (refine Br.nble (fun _ => ?_) (fun _ => ?_) <;> first | (exfalso; omega) | skip)
        | (refine Ar.i64 (by omega) (by omega) ?_)
        | (refine Ar.u32 (by omega) (by omega) ?_)
        | (refine Ar.sh1 (by omega) ?_)
        | (refine Ar.u64 (by omega) (by omega) ?_)
        | (refine Sv.mk _ rfl ?_)
        | (refine Nz.mk (by omega) ?_)
        | (refine Nn.mk (by omega) ?_)
        | (refine Ix.nat (by omega) ?_)
        | (refine Ix.ofNat (by omega) ?_)
        | (refine Ix.mk 0 rfl (by omega) ?_)
        | (refine Ix.mk 1 rfl (by omega) ?_)
        | (refine Ix.int (by omega) (by omega) ?_)
        | (refine Bd.nat (by omega) ?_)
        | (refine Bd.mk 0 rfl (by omega) ?_)
        | (refine Bd.mk 1 rfl (by omega) ?_)
        | (refine Bd.int (by omega) (by omega) ?_)
        | (refine Len.mk (by omega) ?_)
        | (refine Len.mk (by simp only [List.length_cons, List.length_nil]; omega) ?_)
        | (refine Ltn.mk (by omega) ?_)
        | (refine Both.mk ?_ ?_)
        | (refine MkS.vec ?_)
        | (refine And.intro rfl ?_)
        | (refine Br.any (fun _ => ?_) (fun _ => ?_)))
    all_goals (conv => whnf)
    all_goals try (exfalso; omega)
    all_goals first
      | (refine VLe.bool (ring_no (fun h => ?_)).symm; have h2 := fitR_iff.1 (h.2 v (by omega)); omega)
      | (refine ⟨g.ports.length - (v + 1), v + 1, by omega, ⟨rfl, by omega, fun u hu => ?_⟩, ?_⟩
         · by_cases e : u = v
           · subst e; exact fitR_iff.2 ⟨by omega, by omega, by omega⟩
           · exact hall u (by omega)
         · refine weak_by (fun _ _ => [(0, some 0)]) ?_ ?_ rfl
           · repeat' (first | exact True.intro | exact VRen.oel rfl rfl | exact VRen.map rfl | exact VRen.yld rfl | (refine VRen.fn ?_) | exact ⟨rfl, rfl⟩ | exact ⟨rfl, rfl, rfl⟩ | (refine ⟨rfl, rfl, rfl, rfl, rfl, ?_⟩) | (refine ⟨⟨_, rfl, ?_⟩, ?_⟩) | exact VRen.kf rfl | exact VRen.int rfl | exact VRen.int (by omega) | exact VRen.loc rfl | exact VRen.vec rfl rfl rfl | exact VRen.vec rfl (by omega) (by omega) | exact VRen.nil rfl rfl | exact VRen.nil rfl (by omega) | exact VRen.fz rfl (fun h => h) (fun _ _ _ _ => VLe.rfl) | (refine ⟨Nat.le_refl _, rfl, fun i j hi hj => ?_⟩) | (refine ⟨by omega, rfl, fun i j hi hj => ?_⟩) | exact VLe.rfl | (refine ⟨⟨_, _, rfl⟩, ?_⟩) | (refine And.intro ?_ ?_))
           · repeat' (first | exact True.intro | exact VRen.oel rfl rfl | exact VRen.map rfl | exact VRen.yld rfl | (refine VRen.fn ?_) | exact ⟨rfl, rfl⟩ | exact ⟨rfl, rfl, rfl⟩ | (refine ⟨rfl, rfl, rfl, rfl, rfl, ?_⟩) | (refine ⟨⟨_, rfl, ?_⟩, ?_⟩) | exact VRen.kf rfl | exact VRen.int rfl | exact VRen.int (by omega) | exact VRen.loc rfl | exact VRen.vec rfl rfl rfl | exact VRen.vec rfl (by omega) (by omega) | exact VRen.nil rfl rfl | exact VRen.nil rfl (by omega) | exact VRen.fz rfl (fun h => h) (fun _ _ _ _ => VLe.rfl) | (refine ⟨Nat.le_refl _, rfl, fun i j hi hj => ?_⟩) | (refine ⟨by omega, rfl, fun i j hi hj => ?_⟩) | exact VLe.rfl | (refine ⟨⟨_, _, rfl⟩, ?_⟩) | (refine And.intro ?_ ?_)))
      | exact VLe.bool (ring_iff.2 ⟨by omega, fun u hu => hall u (by omega)⟩).symm
  · simp only [Bool.not_eq_true] at hg
    rw [G.rfit]
    rw [hg] at hval ⊢
    rw [Bool.false_and]
    repeat' ((conv => whnf); first
        | (refine Br.tt ?_)
        | (refine Br.ff ?_)
        | (refine Br.dec (fun _ => ?_) (fun _ => ?_) <;> first | (exfalso; omega) | skip)
        | (refine Br.beq (fun _ => ?_) (fun _ => ?_) <;> first | (exfalso; omega) | skip)
        | (refine Br.bne (fun _ => ?_) (fun _ => ?_) <;> first | (exfalso; omega) | skip)
        | (refine Br.nbeq (fun _ => ?_) (fun _ => ?_) <;> first | (exfalso; omega) | skip)
        | (refine Br.nble (fun _ => ?_) (fun _ => ?_) <;> first | (exfalso; omega) | skip)
        | (refine Ar.i64 (by omega) (by omega) ?_)
        | (refine Ar.u32 (by omega) (by omega) ?_)
        | (refine Ar.sh1 (by omega) ?_)
        | (refine Ar.u64 (by omega) (by omega) ?_)
        | (refine Sv.mk _ rfl ?_)
        | (refine Nz.mk (by omega) ?_)
        | (refine Nn.mk (by omega) ?_)
        | (refine Ix.nat (by omega) ?_)
        | (refine Ix.ofNat (by omega) ?_)
        | (refine Ix.mk 0 rfl (by omega) ?_)
        | (refine Ix.mk 1 rfl (by omega) ?_)
        | (refine Ix.int (by omega) (by omega) ?_)
        | (refine Bd.nat (by omega) ?_)
        | (refine Bd.mk 0 rfl (by omega) ?_)
        | (refine Bd.mk 1 rfl (by omega) ?_)
        | (refine Bd.int (by omega) (by omega) ?_)
        | (refine Len.mk (by omega) ?_)
        | (refine Len.mk (by simp only [List.length_cons, List.length_nil]; omega) ?_)
        | (refine Ltn.mk (by omega) ?_)
        | (refine Both.mk ?_ ?_)
        | (refine MkS.vec ?_)
        | (refine (hval _ _).mono ?_; rintro _ _ _ ⟨rfl, rfl, rfl⟩)
        | (refine Br.any (fun _ => ?_) (fun _ => ?_)))
    all_goals (conv => whnf)
    all_goals exact VLe.rfl

set_option maxHeartbeats 4000000 in
theorem rfit_ok (g : G) (hs : g.Small) : Ret Try.prog 20 [g.v] (.bool g.rfit) := by
  have s1 := hs.ids
  have s2 := hs.ports
  have hval := rvalid_ok g hs
  refine ret_frz rfl ?_
  refine fn_rule mixed Try.func20 rfl hc20 hr20 rfl ?_
  by_cases hg : g.valid = true
  · rw [G.rfit]
    rw [hg] at hval ⊢
    rw [Bool.true_and]
    obtain ⟨f1, f2, f3, f4, f5, f6, f7⟩ := val_facts hg
    repeat' ((conv => whnf); first
        | (refine Br.tt ?_)
        | (refine Br.ff ?_)
        | (refine Br.dec (fun _ => ?_) (fun _ => ?_) <;> first | (exfalso; omega) | skip)
        | (refine Br.beq (fun _ => ?_) (fun _ => ?_) <;> first | (exfalso; omega) | skip)
        | (refine Br.bne (fun _ => ?_) (fun _ => ?_) <;> first | (exfalso; omega) | skip)
        | (refine Br.nbeq (fun _ => ?_) (fun _ => ?_) <;> first | (exfalso; omega) | skip)
        | (refine Br.nble (fun _ => ?_) (fun _ => ?_) <;> first | (exfalso; omega) | skip)
        | (refine Ar.i64 (by omega) (by omega) ?_)
        | (refine Ar.u32 (by omega) (by omega) ?_)
        | (refine Ar.sh1 (by omega) ?_)
        | (refine Ar.u64 (by omega) (by omega) ?_)
        | (refine Sv.mk _ rfl ?_)
        | (refine Nz.mk (by omega) ?_)
        | (refine Nn.mk (by omega) ?_)
        | (refine Ix.nat (by omega) ?_)
        | (refine Ix.ofNat (by omega) ?_)
        | (refine Ix.mk 0 rfl (by omega) ?_)
        | (refine Ix.mk 1 rfl (by omega) ?_)
        | (refine Ix.int (by omega) (by omega) ?_)
        | (refine Bd.nat (by omega) ?_)
        | (refine Bd.mk 0 rfl (by omega) ?_)
        | (refine Bd.mk 1 rfl (by omega) ?_)
        | (refine Bd.int (by omega) (by omega) ?_)
        | (refine Len.mk (by omega) ?_)
        | (refine Len.mk (by simp only [List.length_cons, List.length_nil]; omega) ?_)
        | (refine Ltn.mk (by omega) ?_)
        | (refine Both.mk ?_ ?_)
        | (refine MkS.vec ?_)
        | (refine (hval _ _).mono ?_; rintro _ _ _ ⟨rfl, rfl, rfl⟩)
        | (refine Br.any (fun _ => ?_) (fun _ => ?_)))
    all_goals (conv => whnf)
    · exact VLe.bool (ring_no (fun h => by omega)).symm
    refine loop_r mixed [1, 3] (fun i : Nat => [(4, .int .i64 i)]) (fun m v => m = g.ports.length - v ∧ v ≤ g.ports.length ∧ ∀ u, u < v → fitR g.ids.length u (gR g.ports u) = true) g.ports.length 0 ⟨rfl, Nat.zero_le _, fun u hu => by omega⟩ ?_ ?_
    · refine weak_by (fun _ _ => [(0, some 0)]) ?_ ?_ rfl
      · repeat' (first | exact True.intro | exact VRen.oel rfl rfl | exact VRen.map rfl | exact VRen.yld rfl | (refine VRen.fn ?_) | exact ⟨rfl, rfl⟩ | exact ⟨rfl, rfl, rfl⟩ | (refine ⟨rfl, rfl, rfl, rfl, rfl, ?_⟩) | (refine ⟨⟨_, rfl, ?_⟩, ?_⟩) | exact VRen.kf rfl | exact VRen.int rfl | exact VRen.int (by omega) | exact VRen.loc rfl | exact VRen.vec rfl rfl rfl | exact VRen.vec rfl (by omega) (by omega) | exact VRen.nil rfl rfl | exact VRen.nil rfl (by omega) | exact VRen.fz rfl (fun h => h) (fun _ _ _ _ => VLe.rfl) | (refine ⟨Nat.le_refl _, rfl, fun i j hi hj => ?_⟩) | (refine ⟨by omega, rfl, fun i j hi hj => ?_⟩) | exact VLe.rfl | (refine ⟨⟨_, _, rfl⟩, ?_⟩) | (refine And.intro ?_ ?_))
      · repeat' (first | exact True.intro | exact VRen.oel rfl rfl | exact VRen.map rfl | exact VRen.yld rfl | (refine VRen.fn ?_) | exact ⟨rfl, rfl⟩ | exact ⟨rfl, rfl, rfl⟩ | (refine ⟨rfl, rfl, rfl, rfl, rfl, ?_⟩) | (refine ⟨⟨_, rfl, ?_⟩, ?_⟩) | exact VRen.kf rfl | exact VRen.int rfl | exact VRen.int (by omega) | exact VRen.loc rfl | exact VRen.vec rfl rfl rfl | exact VRen.vec rfl (by omega) (by omega) | exact VRen.nil rfl rfl | exact VRen.nil rfl (by omega) | exact VRen.fz rfl (fun h => h) (fun _ _ _ _ => VLe.rfl) | (refine ⟨Nat.le_refl _, rfl, fun i j hi hj => ?_⟩) | (refine ⟨by omega, rfl, fun i j hi hj => ?_⟩) | exact VLe.rfl | (refine ⟨⟨_, _, rfl⟩, ?_⟩) | (refine And.intro ?_ ?_))
    rintro m v ⟨hm, hv, hall⟩
    have hrl := gR_len hs.rows v
    repeat' ((conv => whnf); first
        | (refine Br.tt ?_)
        | (refine Br.ff ?_)
        | (refine Br.dec (fun _ => ?_) (fun _ => ?_) <;> first | (exfalso; omega) | skip)
        | (refine Br.beq (fun _ => ?_) (fun _ => ?_) <;> first | (exfalso; omega) | skip)
        | (refine Br.bne (fun _ => ?_) (fun _ => ?_) <;> first | (exfalso; omega) | skip)
        | (refine Br.nbeq (fun _ => ?_) (fun _ => ?_) <;> first | (exfalso; omega) | skip)
        | (refine Br.nble (fun _ => ?_) (fun _ => ?_) <;> first | (exfalso; omega) | skip)
        | (refine Ar.i64 (by omega) (by omega) ?_)
        | (refine Ar.u32 (by omega) (by omega) ?_)
        | (refine Ar.sh1 (by omega) ?_)
        | (refine Ar.u64 (by omega) (by omega) ?_)
        | (refine Sv.mk _ rfl ?_)
        | (refine Nz.mk (by omega) ?_)
        | (refine Nn.mk (by omega) ?_)
        | (refine Ix.nat (by omega) ?_)
        | (refine Ix.ofNat (by omega) ?_)
        | (refine Ix.mk 0 rfl (by omega) ?_)
        | (refine Ix.mk 1 rfl (by omega) ?_)
        | (refine Ix.int (by omega) (by omega) ?_)
        | (refine Bd.nat (by omega) ?_)
        | (refine Bd.mk 0 rfl (by omega) ?_)
        | (refine Bd.mk 1 rfl (by omega) ?_)
        | (refine Bd.int (by omega) (by omega) ?_)
        | (refine Len.mk (by omega) ?_)
        | (refine Len.mk (by simp only [List.length_cons, List.length_nil]; omega) ?_)
        | (refine Ltn.mk (by omega) ?_)
        | (refine Both.mk ?_ ?_)
        | (refine MkS.vec ?_)
        | (refine And.intro rfl ?_)
        | (refine Br.any (fun _ => ?_) (fun _ => ?_)))
    all_goals (conv => whnf)
    all_goals try (exfalso; omega)
    all_goals first
      | (refine VLe.bool (ring_no (fun h => ?_)).symm; have h2 := fitR_iff.1 (h.2 v (by omega)); rw [← f3] at h2; omega)
      | (refine ⟨g.ports.length - (v + 1), v + 1, by omega, ⟨rfl, by omega, fun u hu => ?_⟩, ?_⟩
         · by_cases e : u = v
           · subst e; rw [← f3]; exact fitR_iff.2 ⟨by omega, by omega, by omega⟩
           · exact hall u (by omega)
         · refine weak_by (fun _ _ => [(0, some 0)]) ?_ ?_ rfl
           · repeat' (first | exact True.intro | exact VRen.oel rfl rfl | exact VRen.map rfl | exact VRen.yld rfl | (refine VRen.fn ?_) | exact ⟨rfl, rfl⟩ | exact ⟨rfl, rfl, rfl⟩ | (refine ⟨rfl, rfl, rfl, rfl, rfl, ?_⟩) | (refine ⟨⟨_, rfl, ?_⟩, ?_⟩) | exact VRen.kf rfl | exact VRen.int rfl | exact VRen.int (by omega) | exact VRen.loc rfl | exact VRen.vec rfl rfl rfl | exact VRen.vec rfl (by omega) (by omega) | exact VRen.nil rfl rfl | exact VRen.nil rfl (by omega) | exact VRen.fz rfl (fun h => h) (fun _ _ _ _ => VLe.rfl) | (refine ⟨Nat.le_refl _, rfl, fun i j hi hj => ?_⟩) | (refine ⟨by omega, rfl, fun i j hi hj => ?_⟩) | exact VLe.rfl | (refine ⟨⟨_, _, rfl⟩, ?_⟩) | (refine And.intro ?_ ?_))
           · repeat' (first | exact True.intro | exact VRen.oel rfl rfl | exact VRen.map rfl | exact VRen.yld rfl | (refine VRen.fn ?_) | exact ⟨rfl, rfl⟩ | exact ⟨rfl, rfl, rfl⟩ | (refine ⟨rfl, rfl, rfl, rfl, rfl, ?_⟩) | (refine ⟨⟨_, rfl, ?_⟩, ?_⟩) | exact VRen.kf rfl | exact VRen.int rfl | exact VRen.int (by omega) | exact VRen.loc rfl | exact VRen.vec rfl rfl rfl | exact VRen.vec rfl (by omega) (by omega) | exact VRen.nil rfl rfl | exact VRen.nil rfl (by omega) | exact VRen.fz rfl (fun h => h) (fun _ _ _ _ => VLe.rfl) | (refine ⟨Nat.le_refl _, rfl, fun i j hi hj => ?_⟩) | (refine ⟨by omega, rfl, fun i j hi hj => ?_⟩) | exact VLe.rfl | (refine ⟨⟨_, _, rfl⟩, ?_⟩) | (refine And.intro ?_ ?_)))
      | exact VLe.bool (ring_iff.2 ⟨by omega, fun u hu => hall u (by omega)⟩).symm
  · simp only [Bool.not_eq_true] at hg
    rw [G.rfit]
    rw [hg] at hval ⊢
    rw [Bool.false_and]
    repeat' ((conv => whnf); first
        | (refine Br.tt ?_)
        | (refine Br.ff ?_)
        | (refine Br.dec (fun _ => ?_) (fun _ => ?_) <;> first | (exfalso; omega) | skip)
        | (refine Br.beq (fun _ => ?_) (fun _ => ?_) <;> first | (exfalso; omega) | skip)
        | (refine Br.bne (fun _ => ?_) (fun _ => ?_) <;> first | (exfalso; omega) | skip)
        | (refine Br.nbeq (fun _ => ?_) (fun _ => ?_) <;> first | (exfalso; omega) | skip)
        | (refine Br.nble (fun _ => ?_) (fun _ => ?_) <;> first | (exfalso; omega) | skip)
        | (refine Ar.i64 (by omega) (by omega) ?_)
        | (refine Ar.u32 (by omega) (by omega) ?_)
        | (refine Ar.sh1 (by omega) ?_)
        | (refine Ar.u64 (by omega) (by omega) ?_)
        | (refine Sv.mk _ rfl ?_)
        | (refine Nz.mk (by omega) ?_)
        | (refine Nn.mk (by omega) ?_)
        | (refine Ix.nat (by omega) ?_)
        | (refine Ix.ofNat (by omega) ?_)
        | (refine Ix.mk 0 rfl (by omega) ?_)
        | (refine Ix.mk 1 rfl (by omega) ?_)
        | (refine Ix.int (by omega) (by omega) ?_)
        | (refine Bd.nat (by omega) ?_)
        | (refine Bd.mk 0 rfl (by omega) ?_)
        | (refine Bd.mk 1 rfl (by omega) ?_)
        | (refine Bd.int (by omega) (by omega) ?_)
        | (refine Len.mk (by omega) ?_)
        | (refine Len.mk (by simp only [List.length_cons, List.length_nil]; omega) ?_)
        | (refine Ltn.mk (by omega) ?_)
        | (refine Both.mk ?_ ?_)
        | (refine MkS.vec ?_)
        | (refine (hval _ _).mono ?_; rintro _ _ _ ⟨rfl, rfl, rfl⟩)
        | (refine Br.any (fun _ => ?_) (fun _ => ?_)))
    all_goals (conv => whnf)
    all_goals exact VLe.rfl
end Go.Proofs.Ytjadlpflhmooaaa
