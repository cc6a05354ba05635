import Derived.Test.YtjadlpflhmooaaaGR21
namespace Go.Proofs.Ytjadlpflhmooaaa
open Go.Eng
set_option maxRecDepth 100000
set_option linter.unusedVariables false

theorem linkP_len (bk : Bool) (p : Ps) (a b : Nat) (w : Int) : (linkP bk p a b w).length = p.length := by
  rw [linkP]; split <;> simp
theorem linkP_row (bk : Bool) (p : Ps) {a b : Nat} (w : Int) (ha : a < p.length) (hb : b < p.length) (u : Nat) : (gR (linkP bk p a b w) u).length ≤ (gR p u).length + 1 := by
  rw [linkP]
  split
  · omega
  · rename_i h
    have hab : ¬ a = b := fun e => h (.inl e)
    have hl : ∀ r l, (addP bk r l).length = r.length + 1 := fun r l => by rw [addP]; split <;> simp
    rw [gR_set _ b _ (by simpa using hb), gR_set p a _ ha]
    split
    · rename_i e; subst e; rw [hl]; omega
    · split
      · rename_i e; subst e; rw [hl]; omega
      · omega

/-! ## trees -/

def wgt (x : Net) (i : Nat) : Int := 1 + within (gI x.weights i) 15
def treeP (x : Net) (n : Nat) : Nat → Ps
  | 0 => List.replicate n []
  | k + 1 => linkP x.back (treeP x n k) (within (gI x.links k) ((k : Int) + 1)).toNat (k + 1) (wgt x k)
theorem treeP_len (x : Net) (n : Nat) : ∀ k, (treeP x n k).length = n
  | 0 => by simp [treeP]
  | k + 1 => by rw [treeP, linkP_len, treeP_len x n k]
theorem treeP_to (x : Net) (k : Nat) : (within (gI x.links k) ((k : Int) + 1)).toNat < k + 1 := by
  have := within_range (gI x.links k) (b := (k : Int) + 1) (by omega)
  omega
theorem rep_row (n u : Nat) : gR (List.replicate n []) u = [] := by
  simp only [gR, List.getD, List.getElem?_replicate]
  split <;> rfl
theorem treeP_row (x : Net) (n : Nat) : ∀ k, k < n → ∀ u, (gR (treeP x n k) u).length ≤ k
  | 0, _, u => by rw [treeP, rep_row]; simp
  | k + 1, hk, u => by
    have h1 := treeP_to x k
    have h2 := linkP_row x.back (treeP x n k) (wgt x k) (a := (within (gI x.links k) ((k : Int) + 1)).toNat) (b := k + 1) (by rw [treeP_len]; omega) (by rw [treeP_len]; exact hk) u
    have h3 := treeP_row x n k (by omega) u
    rw [treeP]
    omega
theorem mem_gR {p : Ps} {r : List (Int × Int)} (h : r ∈ p) : ∃ u, gR p u = r := by
  obtain ⟨i, hi, e⟩ := List.mem_iff_getElem.1 h
  exact ⟨i, by simp [gR, List.getD, hi, e]⟩
theorem small_of {g : G} (h1 : g.ids.length ≤ 1000) (h2 : g.ports.length ≤ 1000) (h3 : ∀ u, (gR g.ports u).length ≤ 1000) : g.Small :=
  ⟨by omega, by omega, fun r hr => by obtain ⟨u, rfl⟩ := mem_gR hr; have := h3 u; omega⟩
abbrev netOwn (I : List Int) (p : Ps) : Own := gOwn ⟨I, p⟩
theorem vec_fam (ρ : Rn) (n : Nat) : BRen ρ (.vec n 1 fun _ _ => .nilslice) (famP (List.replicate n [])) := ⟨by simp, rfl, rfl, fun i hi => ⟨rfl, by rw [lenP, rep_row]; rfl⟩⟩
theorem fam_fam (ρ : Rn) (p : Ps) : BRen ρ (famP p) (famP p) := ⟨rfl, rfl, True.intro, fun i hi => rfl, fun i j t hi hn hj ht => VLe.rfl⟩
theorem vec_vec (ρ : Rn) (n : Nat) (f : Nat → Nat → V) : BRen ρ (.vec n 1 f) (.vec n 1 f) := ⟨Nat.le_refl _, rfl, fun _ _ _ _ => VLe.rfl⟩

set_option maxHeartbeats 8000000 in
theorem tree_ok (x : Net) (hx : x.Small) (most : Int) (h1 : 1 ≤ most) (h2 : most ≤ 24) :
    CallF Try.prog 55 [x.v, .int .i64 most] [] KS fun v own' _ => v = gV1 (x.size most) (x.size most) ∧ own' = netOwn (idsF x.ids (x.size most)) (treeP x (x.size most) (x.size most - 1)) := by
  have hn := nodes_ok x hx most h1 h2
  have hsz : 1 ≤ x.size most ∧ x.size most ≤ 24 := by
    have := within_range x.n1 h1
    rw [Net.size]; omega
  have hll := hx.links
  have hwl := hx.weights
  generalize x.size most = n at *
  have hil := idsF_len x.ids n
  refine call_post ?_
  refine fn_rule mixed Try.func55 rfl hc55 hr55 rfl ?_
  repeat' ((conv => whnf); first
      | (refine Br.tt ?_)
      | (refine Br.ff ?_)
      | (refine Br.dec (fun _ => ?_) (fun _ => ?_) <;> first | (exfalso; omega) | skip)
      | (refine Br.beq (fun _ => ?_) (fun _ => ?_) <;> first | (exfalso; omega) | skip)
      | (refine Br.bne (fun _ => ?_) (fun _ => ?_) <;> first | (exfalso; omega) | skip)
      | (refine Br.nbeq (fun _ => ?_) (fun _ => ?_) <;> first | (exfalso; omega) | skip)
      | (refine Br.nble (fun _ => ?_) (fun _ => ?_) <;> first | (exfalso; omega) | skip)
      | (refine Ar.i64 (by omega) (by omega) ?_)
      | (refine Ar.u32 (by omega) (by omega) ?_)
      | (refine Ar.sh1 (by omega) ?_)
      | (refine Ar.u64 (by omega) (by omega) ?_)
      | (refine Sv.mk _ rfl ?_)
      | (refine Nz.mk (by omega) ?_)
      | (refine Nn.mk (by omega) ?_)
      | (refine Ix.nat (by omega) ?_)
      | (refine Ix.ofNat (by omega) ?_)
      | (refine Ix.mk 0 rfl (by omega) ?_)
      | (refine Ix.mk 1 rfl (by omega) ?_)
      | (refine Ix.int (by omega) (by omega) ?_)
      | (refine Bd.nat (by omega) ?_)
      | (refine Bd.mk 0 rfl (by omega) ?_)
      | (refine Bd.mk 1 rfl (by omega) ?_)
      | (refine Bd.int (by omega) (by omega) ?_)
      | (refine Len.mk (by omega) ?_)
      | (refine Len.mk (by simp only [List.length_cons, List.length_nil]; omega) ?_)
      | (refine Ltn.mk (by omega) ?_)
      | (refine Both.mk ?_ ?_)
      | (refine MkS.vec ?_)
      | (refine call_by [] [0, 1] (hn.mono ?_) ⟨VRen.kf rfl, VRen.kf rfl, True.intro⟩ True.intro rfl; rintro _ _ _ ⟨rfl, rfl⟩)
      | (refine Chk.mk rfl ?_)
      | (refine Br.any (fun _ => ?_) (fun _ => ?_)))
  all_goals (conv => whnf)
  refine loop_u mixed [2, 4, 5] [3] [5, 6, 7, 8, 9, 10, 11, 12, 13, 14, 15, 16, 17, 18, 19, 20, 21, 22, 23, 24, 25, 26, 27, 28, 29] [4, 2, 3, 1, 0] (fun k : Nat => [(6, .int .i64 ((k : Int) + 1))]) (fun own k => updO own 3 (famP (treeP x n k))) (fun m k => m = n - 1 - k ∧ k ≤ n - 1) (n - 1) 0 ⟨rfl, by omega⟩ rfl (fun _ => rfl) ?_ ?_
  · refine weak_by (fun _ _ => [(0, some 0), (1, some 1), (2, some 2), (3, some 3), (4, some 4)]) ?_ ?_ rfl
    · repeat' (first | exact vec_fam _ _ | exact True.intro | exact VRen.oel rfl rfl | exact VRen.map rfl | exact VRen.yld rfl | (refine VRen.fn ?_) | exact ⟨rfl, rfl⟩ | exact ⟨rfl, rfl, rfl⟩ | (refine ⟨rfl, rfl, rfl, rfl, rfl, ?_⟩) | (refine ⟨⟨_, rfl, ?_⟩, ?_⟩) | exact VRen.kf rfl | exact VRen.int rfl | exact VRen.int (by omega) | exact VRen.loc rfl | exact VRen.vec rfl rfl rfl | exact VRen.vec rfl (by omega) (by omega) | exact VRen.nil rfl rfl | exact VRen.nil rfl (by omega) | exact VRen.fz rfl (fun h => h) (fun _ _ _ _ => VLe.rfl) | (refine ⟨Nat.le_refl _, rfl, fun i j hi hj => ?_⟩) | (refine ⟨by omega, rfl, fun i j hi hj => ?_⟩) | exact VLe.rfl | (refine ⟨⟨_, _, rfl⟩, ?_⟩) | (refine And.intro ?_ ?_))
    · repeat' (first | exact vec_fam _ _ | exact True.intro | exact VRen.oel rfl rfl | exact VRen.map rfl | exact VRen.yld rfl | (refine VRen.fn ?_) | exact ⟨rfl, rfl⟩ | exact ⟨rfl, rfl, rfl⟩ | (refine ⟨rfl, rfl, rfl, rfl, rfl, ?_⟩) | (refine ⟨⟨_, rfl, ?_⟩, ?_⟩) | exact VRen.kf rfl | exact VRen.int rfl | exact VRen.int (by omega) | exact VRen.loc rfl | exact VRen.vec rfl rfl rfl | exact VRen.vec rfl (by omega) (by omega) | exact VRen.nil rfl rfl | exact VRen.nil rfl (by omega) | exact VRen.fz rfl (fun h => h) (fun _ _ _ _ => VLe.rfl) | (refine ⟨Nat.le_refl _, rfl, fun i j hi hj => ?_⟩) | (refine ⟨by omega, rfl, fun i j hi hj => ?_⟩) | exact VLe.rfl | (refine ⟨⟨_, _, rfl⟩, ?_⟩) | (refine And.intro ?_ ?_))
  rintro m k ⟨hm, hk⟩
  have hln := treeP_len x n k
  by_cases hkn : k < n - 1
  · have ha1 := at_ok x.links hll k
    have ha2 := at_ok x.weights hwl k
    have hw1 := within_ok (gI x.links k) ((k : Int) + 1) (by omega)
    have hw2 := within_ok (gI x.weights k) 15 (by omega)
    have hr1 := within_range (gI x.links k) (b := (k : Int) + 1) (by omega)
    have hr2 := within_range (gI x.weights k) (b := 15) (by omega)
    have hrow := treeP_row x n k (by omega)
    have hl := link_ok x ⟨idsF x.ids n, treeP x n k⟩ (small_of (by show (idsF x.ids n).length ≤ _; omega) (by show (treeP x n k).length ≤ _; omega) (fun u => by have := hrow u; show (gR (treeP x n k) u).length ≤ _; omega)) (fun u => by have := hrow u; show (gR (treeP x n k) u).length ≤ _; omega) (within (gI x.links k) ((k : Int) + 1)).toNat (k + 1) (by show _ < (treeP x n k).length; omega) (by show _ < (treeP x n k).length; omega) (wgt x k)
    have hnx : linkP x.back (treeP x n k) (within (gI x.links k) ((k : Int) + 1)).toNat (k + 1) (wgt x k) = treeP x n (k + 1) := rfl
    have hwg : wgt x k = 1 + within (gI x.weights k) 15 := rfl
    simp only [hnx, hil, hln] at hl
    generalize within (gI x.links k) ((k : Int) + 1) = a at *
    generalize within (gI x.weights k) 15 = w at *
    repeat' ((conv => whnf); first
        | (refine Ar.i64 (by omega) (by omega) ?_; rw [show (k : Int) + 1 - 1 = (k : Int) by omega])
        | (refine Br.tt ?_)
        | (refine Br.ff ?_)
        | (refine Br.dec (fun _ => ?_) (fun _ => ?_) <;> first | (exfalso; omega) | skip)
        | (refine Br.beq (fun _ => ?_) (fun _ => ?_) <;> first | (exfalso; omega) | skip)
        | (refine Br.bne (fun _ => ?_) (fun _ => ?_) <;> first | (exfalso; omega) | skip)
        | (refine Br.nbeq (fun _ => ?_) (fun _ => ?_) <;> first | (exfalso; omega) | skip)
        | (refine Br.nble (fun _ => ?_) (fun _ => ?_) <;> first | (exfalso; omega) | skip)
        | (refine Ar.i64 (by omega) (by omega) ?_)
        | (refine Ar.u32 (by omega) (by omega) ?_)
        | (refine Ar.sh1 (by omega) ?_)
        | (refine Ar.u64 (by omega) (by omega) ?_)
        | (refine Sv.mk _ rfl ?_)
        | (refine Nz.mk (by omega) ?_)
        | (refine Nn.mk (by omega) ?_)
        | (refine Ix.nat (by omega) ?_)
        | (refine Ix.ofNat (by omega) ?_)
        | (refine Ix.mk 0 rfl (by omega) ?_)
        | (refine Ix.mk 1 rfl (by omega) ?_)
        | (refine Ix.int (by omega) (by omega) ?_)
        | (refine Bd.nat (by omega) ?_)
        | (refine Bd.mk 0 rfl (by omega) ?_)
        | (refine Bd.mk 1 rfl (by omega) ?_)
        | (refine Bd.int (by omega) (by omega) ?_)
        | (refine Len.mk (by omega) ?_)
        | (refine Len.mk (by simp only [List.length_cons, List.length_nil]; omega) ?_)
        | (refine Ltn.mk (by omega) ?_)
        | (refine Both.mk ?_ ?_)
        | (refine MkS.vec ?_)
        | (refine (ha1 _ _).mono ?_; rintro _ _ _ ⟨rfl, rfl, rfl⟩)
        | (refine (ha2 _ _).mono ?_; rintro _ _ _ ⟨rfl, rfl, rfl⟩)
        | (refine (hw1 _ _).mono ?_; rintro _ _ _ ⟨rfl, rfl, rfl⟩)
        | (refine (hw2 _ _).mono ?_; rintro _ _ _ ⟨rfl, rfl, rfl⟩)
        | (refine And.intro rfl ?_)
        | (refine call_by [(0, some 2), (1, some 3)] [] (hl.mono ?_) ⟨VRen.kf rfl, VRen.agg ⟨VRen.vec rfl rfl rfl, VRen.vec rfl rfl rfl, True.intro⟩, VRen.int (by omega), VRen.int (by omega), VRen.int (by omega), True.intro⟩ ⟨⟨_, rfl, Nat.le_of_eq hil, rfl, fun _ _ _ _ => VLe.rfl⟩, ⟨_, rfl, fam_fam _ _⟩, True.intro⟩ rfl; rintro _ _ _ ⟨rfl, rfl⟩)
        | (refine Chk.mk rfl ?_)
        | (refine Br.any (fun _ => ?_) (fun _ => ?_)))
    all_goals (conv => whnf)
    all_goals
      refine ⟨n - 1 - (k + 1), k + 1, by omega, ⟨rfl, by omega⟩, ?_⟩
      refine weak_by (fun _ _ => [(0, some 0), (1, some 1), (2, some 2), (3, some 3), (4, some 4)]) ?_ ?_ rfl
      · repeat' (first | exact fam_fam _ _ | exact ⟨Nat.le_of_eq hil.symm, rfl, fun _ _ _ _ => VLe.rfl⟩ | exact True.intro | exact VRen.oel rfl rfl | exact VRen.map rfl | exact VRen.yld rfl | (refine VRen.fn ?_) | exact ⟨rfl, rfl⟩ | exact ⟨rfl, rfl, rfl⟩ | (refine ⟨rfl, rfl, rfl, rfl, rfl, ?_⟩) | (refine ⟨⟨_, rfl, ?_⟩, ?_⟩) | exact VRen.kf rfl | exact VRen.int rfl | exact VRen.int (by omega) | exact VRen.loc rfl | exact VRen.vec rfl rfl rfl | exact VRen.vec rfl (by omega) (by omega) | exact VRen.nil rfl rfl | exact VRen.nil rfl (by omega) | exact VRen.fz rfl (fun h => h) (fun _ _ _ _ => VLe.rfl) | (refine ⟨Nat.le_refl _, rfl, fun i j hi hj => ?_⟩) | (refine ⟨by omega, rfl, fun i j hi hj => ?_⟩) | exact VLe.rfl | (refine ⟨⟨_, _, rfl⟩, ?_⟩) | (refine And.intro ?_ ?_))
      · repeat' (first | exact fam_fam _ _ | exact ⟨Nat.le_of_eq hil.symm, rfl, fun _ _ _ _ => VLe.rfl⟩ | exact True.intro | exact VRen.oel rfl rfl | exact VRen.map rfl | exact VRen.yld rfl | (refine VRen.fn ?_) | exact ⟨rfl, rfl⟩ | exact ⟨rfl, rfl, rfl⟩ | (refine ⟨rfl, rfl, rfl, rfl, rfl, ?_⟩) | (refine ⟨⟨_, rfl, ?_⟩, ?_⟩) | exact VRen.kf rfl | exact VRen.int rfl | exact VRen.int (by omega) | exact VRen.loc rfl | exact VRen.vec rfl rfl rfl | exact VRen.vec rfl (by omega) (by omega) | exact VRen.nil rfl rfl | exact VRen.nil rfl (by omega) | exact VRen.fz rfl (fun h => h) (fun _ _ _ _ => VLe.rfl) | (refine ⟨Nat.le_refl _, rfl, fun i j hi hj => ?_⟩) | (refine ⟨by omega, rfl, fun i j hi hj => ?_⟩) | exact VLe.rfl | (refine ⟨⟨_, _, rfl⟩, ?_⟩) | (refine And.intro ?_ ?_))
  · have e : k = n - 1 := by omega
    subst e
    repeat' ((conv => whnf); first
        | (refine Br.tt ?_)
        | (refine Br.ff ?_)
        | (refine Br.dec (fun _ => ?_) (fun _ => ?_) <;> first | (exfalso; omega) | skip)
        | (refine Br.beq (fun _ => ?_) (fun _ => ?_) <;> first | (exfalso; omega) | skip)
        | (refine Br.bne (fun _ => ?_) (fun _ => ?_) <;> first | (exfalso; omega) | skip)
        | (refine Br.nbeq (fun _ => ?_) (fun _ => ?_) <;> first | (exfalso; omega) | skip)
        | (refine Br.nble (fun _ => ?_) (fun _ => ?_) <;> first | (exfalso; omega) | skip)
        | (refine Ar.i64 (by omega) (by omega) ?_)
        | (refine Ar.u32 (by omega) (by omega) ?_)
        | (refine Ar.sh1 (by omega) ?_)
        | (refine Ar.u64 (by omega) (by omega) ?_)
        | (refine Sv.mk _ rfl ?_)
        | (refine Nz.mk (by omega) ?_)
        | (refine Nn.mk (by omega) ?_)
        | (refine Ix.nat (by omega) ?_)
        | (refine Ix.ofNat (by omega) ?_)
        | (refine Ix.mk 0 rfl (by omega) ?_)
        | (refine Ix.mk 1 rfl (by omega) ?_)
        | (refine Ix.int (by omega) (by omega) ?_)
        | (refine Bd.nat (by omega) ?_)
        | (refine Bd.mk 0 rfl (by omega) ?_)
        | (refine Bd.mk 1 rfl (by omega) ?_)
        | (refine Bd.int (by omega) (by omega) ?_)
        | (refine Len.mk (by omega) ?_)
        | (refine Len.mk (by simp only [List.length_cons, List.length_nil]; omega) ?_)
        | (refine Ltn.mk (by omega) ?_)
        | (refine Both.mk ?_ ?_)
        | (refine MkS.vec ?_)
        | (refine Br.any (fun _ => ?_) (fun _ => ?_)))
    all_goals (conv => whnf)
    exact postR_byV (fun v o => [(0, vkey v 0), (1, vkey v 1)]) _ _ ⟨rfl, rfl⟩ (VRen.agg ⟨VRen.vec rfl rfl rfl, VRen.vec rfl rfl rfl, True.intro⟩) ⟨⟨_, rfl, Nat.le_of_eq hil, rfl, fun _ _ _ _ => VLe.rfl⟩, ⟨_, rfl, fam_fam _ _⟩, True.intro⟩ rfl
end Go.Proofs.Ytjadlpflhmooaaa
