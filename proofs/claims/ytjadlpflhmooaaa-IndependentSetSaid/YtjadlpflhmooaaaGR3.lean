import Derived.Test.YtjadlpflhmooaaaGR2
namespace Go.Proofs.Ytjadlpflhmooaaa
open Go.Eng
set_option maxRecDepth 100000
set_option linter.unusedVariables false

/-! ## configurations -/

abbrev Cf := List (List Int)
def gC (c : Cf) (i : Nat) : List Int := c.getD i []
def vC (c : Cf) : Nat → Nat → V := fun i _ => .fz (gC c i).length 1 false (vI (gC c i))
def cV (c : Cf) : V := .fz c.length 1 false (vC c)

structure CSmall (c : Cf) : Prop where
  len : c.length ≤ 9223372036854775807
  rows : ∀ r ∈ c, r.length ≤ 9223372036854775807

theorem gC_len {c : Cf} (h : CSmall c) (v : Nat) : (gC c v).length ≤ 9223372036854775807 := by
  simp only [gC, List.getD]
  cases hv : c[v]? with
  | none => simp
  | some r => exact h.rows r (List.mem_of_getElem? hv)

/-- the lists fit: so many nodes, so many variables, within these bounds -/
def conf (n m : Nat) (B : Nat → Nat → Int × Int) (c : Cf) : Bool :=
  decide (c.length = n) && decide (∀ v, v < n → (gC c v).length = m ∧ ∀ x, x < m → (B v x).1 ≤ gI (gC c v) x ∧ gI (gC c v) x ≤ (B v x).2)

theorem conf_iff {n m : Nat} {B : Nat → Nat → Int × Int} {c : Cf} : conf n m B c = true ↔ c.length = n ∧ ∀ v, v < n → (gC c v).length = m ∧ ∀ x, x < m → (B v x).1 ≤ gI (gC c v) x ∧ gI (gC c v) x ≤ (B v x).2 := by
  simp only [conf, Bool.and_eq_true, decide_eq_true_eq]
theorem conf_no {n m : Nat} {B : Nat → Nat → Int × Int} {c : Cf} (h : ¬ (c.length = n ∧ ∀ v, v < n → (gC c v).length = m ∧ ∀ x, x < m → (B v x).1 ≤ gI (gC c v) x ∧ gI (gC c v) x ≤ (B v x).2)) : conf n m B c = false := by
  rw [← Bool.not_eq_true, conf_iff]; exact h

def bG (g : G) (gs : List Int) (v x : Nat) : Int × Int := if gI gs x = -1 then (-1, ((gR g.ports v).length : Int) - 1) else (0, gI gs x)

set_option maxHeartbeats 4000000 in
theorem bconf_ok (g : G) (hs : g.Small) (hp : g.ports.length = g.ids.length) (c : Cf) (hc : CSmall c) (gs : List Int) (hg : gs.length ≤ 1000) :
    Ret Try.prog 73 [g.v, cV c, .fz gs.length 1 false (vI gs)] (.bool (conf g.ids.length gs.length (bG g gs) c)) := by
  have s1 := hs.ids
  have s2 := hc.len
  refine ret_frz rfl ?_
  refine fn_rule mixed Try.func73 rfl hc73 hr73 rfl ?_
  repeat' ((conv => whnf); first
      | (refine Br.tt ?_)
      | (refine Br.ff ?_)
      | (refine Br.dec (fun _ => ?_) (fun _ => ?_) <;> first | (exfalso; omega) | skip)
      | (refine Br.beq (fun _ => ?_) (fun _ => ?_) <;> first | (exfalso; omega) | skip)
      | (refine Br.bne (fun _ => ?_) (fun _ => ?_) <;> first | (exfalso; omega) | skip)
      | (refine Br.nbeq (fun _ => ?_) (fun _ => ?_) <;> first | (exfalso; omega) | skip)
      | (refine Br.nble (fun _ => ?_) (fun _ => ?_) <;> first | (exfalso; omega) | skip)
      | (refine Ar.i64 (by omega) (by omega) ?_)
      | (refine Ar.u32 (by omega) (by omega) ?_)
      | (refine Ar.sh1 (by omega) ?_)
      | (refine Ar.u64 (by omega) (by omega) ?_)
      | (refine Sv.mk _ rfl ?_)
      | (refine Nz.mk (by omega) ?_)
      | (refine Nn.mk (by omega) ?_)
      | (refine Ix.nat (by omega) ?_)
      | (refine Ix.ofNat (by omega) ?_)
      | (refine Ix.mk 0 rfl (by omega) ?_)
      | (refine Ix.mk 1 rfl (by omega) ?_)
      | (refine Ix.int (by omega) (by omega) ?_)
      | (refine Bd.nat (by omega) ?_)
      | (refine Bd.mk 0 rfl (by omega) ?_)
      | (refine Bd.mk 1 rfl (by omega) ?_)
      | (refine Bd.int (by omega) (by omega) ?_)
      | (refine Len.mk (by omega) ?_)
      | (refine Len.mk (by simp only [List.length_cons, List.length_nil]; omega) ?_)
      | (refine Ltn.mk (by omega) ?_)
      | (refine Both.mk ?_ ?_)
      | (refine MkS.vec ?_)
      | (refine Br.any (fun _ => ?_) (fun _ => ?_)))
  all_goals (conv => whnf)
  · exact VLe.bool (conf_no (fun h => by omega)).symm
  refine loop_r mixed [2, 3, 19, 20] (fun i : Nat => [(21, .int .i64 i)]) (fun m v => m = c.length - v ∧ v ≤ c.length ∧ ∀ u, u < v → (gC c u).length = gs.length ∧ ∀ x, x < gs.length → (bG g gs u x).1 ≤ gI (gC c u) x ∧ gI (gC c u) x ≤ (bG g gs u x).2) c.length 0 ⟨rfl, Nat.zero_le _, fun u hu => by omega⟩ ?_ ?_
  · refine weak_by (fun _ _ => [(0, some 0)]) ?_ ?_ rfl
    · repeat' (first | exact True.intro | exact VRen.oel rfl rfl | exact VRen.map rfl | exact VRen.yld rfl | (refine VRen.fn ?_) | exact ⟨rfl, rfl⟩ | exact ⟨rfl, rfl, rfl⟩ | (refine ⟨rfl, rfl, rfl, rfl, rfl, ?_⟩) | (refine ⟨⟨_, rfl, ?_⟩, ?_⟩) | exact VRen.kf rfl | exact VRen.int rfl | exact VRen.int (by omega) | exact VRen.loc rfl | exact VRen.vec rfl rfl rfl | exact VRen.vec rfl (by omega) (by omega) | exact VRen.nil rfl rfl | exact VRen.nil rfl (by omega) | exact VRen.fz rfl (fun h => h) (fun _ _ _ _ => VLe.rfl) | (refine ⟨Nat.le_refl _, rfl, fun i j hi hj => ?_⟩) | (refine ⟨by omega, rfl, fun i j hi hj => ?_⟩) | exact VLe.rfl | (refine ⟨⟨_, _, rfl⟩, ?_⟩) | (refine And.intro ?_ ?_))
    · repeat' (first | exact True.intro | exact VRen.oel rfl rfl | exact VRen.map rfl | exact VRen.yld rfl | (refine VRen.fn ?_) | exact ⟨rfl, rfl⟩ | exact ⟨rfl, rfl, rfl⟩ | (refine ⟨rfl, rfl, rfl, rfl, rfl, ?_⟩) | (refine ⟨⟨_, rfl, ?_⟩, ?_⟩) | exact VRen.kf rfl | exact VRen.int rfl | exact VRen.int (by omega) | exact VRen.loc rfl | exact VRen.vec rfl rfl rfl | exact VRen.vec rfl (by omega) (by omega) | exact VRen.nil rfl rfl | exact VRen.nil rfl (by omega) | exact VRen.fz rfl (fun h => h) (fun _ _ _ _ => VLe.rfl) | (refine ⟨Nat.le_refl _, rfl, fun i j hi hj => ?_⟩) | (refine ⟨by omega, rfl, fun i j hi hj => ?_⟩) | exact VLe.rfl | (refine ⟨⟨_, _, rfl⟩, ?_⟩) | (refine And.intro ?_ ?_))
  rintro m v ⟨hm, hv, hall⟩
  have hcl := gC_len hc v
  have hrl := gR_len hs.rows v
  repeat' ((conv => whnf); first
      | (refine Br.tt ?_)
      | (refine Br.ff ?_)
      | (refine Br.dec (fun _ => ?_) (fun _ => ?_) <;> first | (exfalso; omega) | skip)
      | (refine Br.beq (fun _ => ?_) (fun _ => ?_) <;> first | (exfalso; omega) | skip)
      | (refine Br.bne (fun _ => ?_) (fun _ => ?_) <;> first | (exfalso; omega) | skip)
      | (refine Br.nbeq (fun _ => ?_) (fun _ => ?_) <;> first | (exfalso; omega) | skip)
      | (refine Br.nble (fun _ => ?_) (fun _ => ?_) <;> first | (exfalso; omega) | skip)
      | (refine Ar.i64 (by omega) (by omega) ?_)
      | (refine Ar.u32 (by omega) (by omega) ?_)
      | (refine Ar.sh1 (by omega) ?_)
      | (refine Ar.u64 (by omega) (by omega) ?_)
      | (refine Sv.mk _ rfl ?_)
      | (refine Nz.mk (by omega) ?_)
      | (refine Nn.mk (by omega) ?_)
      | (refine Ix.nat (by omega) ?_)
      | (refine Ix.ofNat (by omega) ?_)
      | (refine Ix.mk 0 rfl (by omega) ?_)
      | (refine Ix.mk 1 rfl (by omega) ?_)
      | (refine Ix.int (by omega) (by omega) ?_)
      | (refine Bd.nat (by omega) ?_)
      | (refine Bd.mk 0 rfl (by omega) ?_)
      | (refine Bd.mk 1 rfl (by omega) ?_)
      | (refine Bd.int (by omega) (by omega) ?_)
      | (refine Len.mk (by omega) ?_)
      | (refine Len.mk (by simp only [List.length_cons, List.length_nil]; omega) ?_)
      | (refine Ltn.mk (by omega) ?_)
      | (refine Both.mk ?_ ?_)
      | (refine MkS.vec ?_)
      | (refine Br.any (fun _ => ?_) (fun _ => ?_)))
  all_goals (conv => whnf)
  · rename_i hne
    exact VLe.bool (conf_no (fun h => hne (by have := (h.2 v (by omega)).1; omega))).symm
  · refine loop_r mixed [2, 3, 7, 19, 20, 21, 31, 32] (fun i : Nat => [(33, .int .i64 i)]) (fun m x => m = gs.length - x ∧ x ≤ gs.length ∧ ∀ y, y < x → (bG g gs v y).1 ≤ gI (gC c v) y ∧ gI (gC c v) y ≤ (bG g gs v y).2) gs.length 0 ⟨rfl, Nat.zero_le _, fun u hu => by omega⟩ ?_ ?_
    · refine weak_by (fun _ _ => [(0, some 0)]) ?_ ?_ rfl
      · repeat' (first | exact True.intro | exact VRen.oel rfl rfl | exact VRen.map rfl | exact VRen.yld rfl | (refine VRen.fn ?_) | exact ⟨rfl, rfl⟩ | exact ⟨rfl, rfl, rfl⟩ | (refine ⟨rfl, rfl, rfl, rfl, rfl, ?_⟩) | (refine ⟨⟨_, rfl, ?_⟩, ?_⟩) | exact VRen.kf rfl | exact VRen.int rfl | exact VRen.int (by omega) | exact VRen.loc rfl | exact VRen.vec rfl rfl rfl | exact VRen.vec rfl (by omega) (by omega) | exact VRen.nil rfl rfl | exact VRen.nil rfl (by omega) | exact VRen.fz rfl (fun h => h) (fun _ _ _ _ => VLe.rfl) | (refine ⟨Nat.le_refl _, rfl, fun i j hi hj => ?_⟩) | (refine ⟨by omega, rfl, fun i j hi hj => ?_⟩) | exact VLe.rfl | (refine ⟨⟨_, _, rfl⟩, ?_⟩) | (refine And.intro ?_ ?_))
      · repeat' (first | exact True.intro | exact VRen.oel rfl rfl | exact VRen.map rfl | exact VRen.yld rfl | (refine VRen.fn ?_) | exact ⟨rfl, rfl⟩ | exact ⟨rfl, rfl, rfl⟩ | (refine ⟨rfl, rfl, rfl, rfl, rfl, ?_⟩) | (refine ⟨⟨_, rfl, ?_⟩, ?_⟩) | exact VRen.kf rfl | exact VRen.int rfl | exact VRen.int (by omega) | exact VRen.loc rfl | exact VRen.vec rfl rfl rfl | exact VRen.vec rfl (by omega) (by omega) | exact VRen.nil rfl rfl | exact VRen.nil rfl (by omega) | exact VRen.fz rfl (fun h => h) (fun _ _ _ _ => VLe.rfl) | (refine ⟨Nat.le_refl _, rfl, fun i j hi hj => ?_⟩) | (refine ⟨by omega, rfl, fun i j hi hj => ?_⟩) | exact VLe.rfl | (refine ⟨⟨_, _, rfl⟩, ?_⟩) | (refine And.intro ?_ ?_))
    rintro m x ⟨hm, hx, hrow⟩
    have hb : bG g gs v x = if gI gs x = -1 then (-1, ((gR g.ports v).length : Int) - 1) else (0, gI gs x) := rfl
    repeat' ((conv => whnf); first
        | (refine Br.tt ?_)
        | (refine Br.ff ?_)
        | (refine Br.dec (fun _ => ?_) (fun _ => ?_) <;> first | (exfalso; omega) | skip)
        | (refine Br.beq (fun _ => ?_) (fun _ => ?_) <;> first | (exfalso; omega) | skip)
        | (refine Br.bne (fun _ => ?_) (fun _ => ?_) <;> first | (exfalso; omega) | skip)
        | (refine Br.nbeq (fun _ => ?_) (fun _ => ?_) <;> first | (exfalso; omega) | skip)
        | (refine Br.nble (fun _ => ?_) (fun _ => ?_) <;> first | (exfalso; omega) | skip)
        | (refine Ar.i64 (by omega) (by omega) ?_)
        | (refine Ar.u32 (by omega) (by omega) ?_)
        | (refine Ar.sh1 (by omega) ?_)
        | (refine Ar.u64 (by omega) (by omega) ?_)
        | (refine Sv.mk _ rfl ?_)
        | (refine Nz.mk (by omega) ?_)
        | (refine Nn.mk (by omega) ?_)
        | (refine Ix.nat (by omega) ?_)
        | (refine Ix.ofNat (by omega) ?_)
        | (refine Ix.mk 0 rfl (by omega) ?_)
        | (refine Ix.mk 1 rfl (by omega) ?_)
        | (refine Ix.int (by omega) (by omega) ?_)
        | (refine Bd.nat (by omega) ?_)
        | (refine Bd.mk 0 rfl (by omega) ?_)
        | (refine Bd.mk 1 rfl (by omega) ?_)
        | (refine Bd.int (by omega) (by omega) ?_)
        | (refine Len.mk (by omega) ?_)
        | (refine Len.mk (by simp only [List.length_cons, List.length_nil]; omega) ?_)
        | (refine Ltn.mk (by omega) ?_)
        | (refine Both.mk ?_ ?_)
        | (refine MkS.vec ?_)
        | (refine And.intro rfl ?_)
        | (refine Br.any (fun _ => ?_) (fun _ => ?_)))
    all_goals (conv => whnf)
    all_goals try (exfalso; omega)
    all_goals first
      | (refine VLe.bool (conf_no (fun h => ?_)).symm; have := (h.2 v (by omega)).2 x (by omega); rw [hb] at this; split at this <;> simp only at this <;> omega)
      | (refine ⟨gs.length - (x + 1), x + 1, by omega, ⟨rfl, by omega, fun y hy => ?_⟩, ?_⟩
         · by_cases e : y = x
           · subst e; rw [hb]; split <;> simp only <;> omega
           · exact hrow y (by omega)
         · refine weak_by (fun _ _ => [(0, some 0)]) ?_ ?_ rfl
           · repeat' (first | exact True.intro | exact VRen.oel rfl rfl | exact VRen.map rfl | exact VRen.yld rfl | (refine VRen.fn ?_) | exact ⟨rfl, rfl⟩ | exact ⟨rfl, rfl, rfl⟩ | (refine ⟨rfl, rfl, rfl, rfl, rfl, ?_⟩) | (refine ⟨⟨_, rfl, ?_⟩, ?_⟩) | exact VRen.kf rfl | exact VRen.int rfl | exact VRen.int (by omega) | exact VRen.loc rfl | exact VRen.vec rfl rfl rfl | exact VRen.vec rfl (by omega) (by omega) | exact VRen.nil rfl rfl | exact VRen.nil rfl (by omega) | exact VRen.fz rfl (fun h => h) (fun _ _ _ _ => VLe.rfl) | (refine ⟨Nat.le_refl _, rfl, fun i j hi hj => ?_⟩) | (refine ⟨by omega, rfl, fun i j hi hj => ?_⟩) | exact VLe.rfl | (refine ⟨⟨_, _, rfl⟩, ?_⟩) | (refine And.intro ?_ ?_))
           · repeat' (first | exact True.intro | exact VRen.oel rfl rfl | exact VRen.map rfl | exact VRen.yld rfl | (refine VRen.fn ?_) | exact ⟨rfl, rfl⟩ | exact ⟨rfl, rfl, rfl⟩ | (refine ⟨rfl, rfl, rfl, rfl, rfl, ?_⟩) | (refine ⟨⟨_, rfl, ?_⟩, ?_⟩) | exact VRen.kf rfl | exact VRen.int rfl | exact VRen.int (by omega) | exact VRen.loc rfl | exact VRen.vec rfl rfl rfl | exact VRen.vec rfl (by omega) (by omega) | exact VRen.nil rfl rfl | exact VRen.nil rfl (by omega) | exact VRen.fz rfl (fun h => h) (fun _ _ _ _ => VLe.rfl) | (refine ⟨Nat.le_refl _, rfl, fun i j hi hj => ?_⟩) | (refine ⟨by omega, rfl, fun i j hi hj => ?_⟩) | exact VLe.rfl | (refine ⟨⟨_, _, rfl⟩, ?_⟩) | (refine And.intro ?_ ?_)))
      | (refine ⟨c.length - (v + 1), v + 1, by omega, ⟨rfl, by omega, fun u hu => ?_⟩, ?_⟩
         · by_cases e : u = v
           · subst e; exact ⟨by omega, fun y hy => hrow y (by omega)⟩
           · exact hall u (by omega)
         · refine weak_by (fun _ _ => [(0, some 0)]) ?_ ?_ rfl
           · repeat' (first | exact True.intro | exact VRen.oel rfl rfl | exact VRen.map rfl | exact VRen.yld rfl | (refine VRen.fn ?_) | exact ⟨rfl, rfl⟩ | exact ⟨rfl, rfl, rfl⟩ | (refine ⟨rfl, rfl, rfl, rfl, rfl, ?_⟩) | (refine ⟨⟨_, rfl, ?_⟩, ?_⟩) | exact VRen.kf rfl | exact VRen.int rfl | exact VRen.int (by omega) | exact VRen.loc rfl | exact VRen.vec rfl rfl rfl | exact VRen.vec rfl (by omega) (by omega) | exact VRen.nil rfl rfl | exact VRen.nil rfl (by omega) | exact VRen.fz rfl (fun h => h) (fun _ _ _ _ => VLe.rfl) | (refine ⟨Nat.le_refl _, rfl, fun i j hi hj => ?_⟩) | (refine ⟨by omega, rfl, fun i j hi hj => ?_⟩) | exact VLe.rfl | (refine ⟨⟨_, _, rfl⟩, ?_⟩) | (refine And.intro ?_ ?_))
           · repeat' (first | exact True.intro | exact VRen.oel rfl rfl | exact VRen.map rfl | exact VRen.yld rfl | (refine VRen.fn ?_) | exact ⟨rfl, rfl⟩ | exact ⟨rfl, rfl, rfl⟩ | (refine ⟨rfl, rfl, rfl, rfl, rfl, ?_⟩) | (refine ⟨⟨_, rfl, ?_⟩, ?_⟩) | exact VRen.kf rfl | exact VRen.int rfl | exact VRen.int (by omega) | exact VRen.loc rfl | exact VRen.vec rfl rfl rfl | exact VRen.vec rfl (by omega) (by omega) | exact VRen.nil rfl rfl | exact VRen.nil rfl (by omega) | exact VRen.fz rfl (fun h => h) (fun _ _ _ _ => VLe.rfl) | (refine ⟨Nat.le_refl _, rfl, fun i j hi hj => ?_⟩) | (refine ⟨by omega, rfl, fun i j hi hj => ?_⟩) | exact VLe.rfl | (refine ⟨⟨_, _, rfl⟩, ?_⟩) | (refine And.intro ?_ ?_)))
  · exact VLe.bool (conf_iff.2 ⟨by omega, fun u hu => hall u (by omega)⟩).symm

/-! ## the reference's configurations -/

structure Vr where
  name : ByteArray
  kind : Int
  lo : Int
  hi : Int
  pn : Int
  pid : Int
instance : Inhabited Vr := ⟨⟨ByteArray.mk #[], 0, 0, 0, 0, 0⟩⟩
def gV (l : List Vr) (i : Nat) : Vr := l.getD i default
def vV (l : List Vr) : Nat → Nat → V := fun i j => match j with
  | 0 => .str (gV l i).name
  | 1 => .int .i64 (gV l i).kind
  | 2 => .int .i64 (gV l i).lo
  | 3 => .int .i64 (gV l i).hi
  | 4 => .int .i64 (gV l i).pn
  | _ => .int .i64 (gV l i).pid

def maxL : List Int → Int → Int
  | [], m => m
  | a :: r, m => maxL r (if a > m then a else m)
theorem maxL_snoc : ∀ (l : List Int) (a m : Int), maxL (l ++ [a]) m = if a > maxL l m then a else maxL l m
  | [], a, m => rfl
  | x :: r, a, m => maxL_snoc r a _
theorem maxL_le : ∀ (l : List Int) (m k : Int), m ≤ k → (∀ a ∈ l, a ≤ k) → maxL l m ≤ k
  | [], m, k, h, _ => h
  | a :: r, m, k, h, hl => maxL_le r _ k (by have := hl a (by simp); split <;> omega) (fun b hb => hl b (by simp [hb]))
theorem maxL_ge : ∀ (l : List Int) (m : Int), m ≤ maxL l m
  | [], m => Int.le_refl _
  | a :: r, m => Int.le_trans (by split <;> omega) (maxL_ge r _)

theorem top_ok (g : G) (hs : g.Small) : Ret Try.prog 81 [g.v] (.int .i64 (maxL g.ids 0)) := by
  have s1 := hs.ids
  refine ret_frz rfl ?_
  refine fn_rule mixed Try.func81 rfl hc81 hr81 rfl ?_
  repeat' ((conv => whnf); first
      | (refine Br.tt ?_)
      | (refine Br.ff ?_)
      | (refine Br.dec (fun _ => ?_) (fun _ => ?_) <;> first | (exfalso; omega) | skip)
      | (refine Br.beq (fun _ => ?_) (fun _ => ?_) <;> first | (exfalso; omega) | skip)
      | (refine Br.bne (fun _ => ?_) (fun _ => ?_) <;> first | (exfalso; omega) | skip)
      | (refine Br.nbeq (fun _ => ?_) (fun _ => ?_) <;> first | (exfalso; omega) | skip)
      | (refine Br.nble (fun _ => ?_) (fun _ => ?_) <;> first | (exfalso; omega) | skip)
      | (refine Ar.i64 (by omega) (by omega) ?_)
      | (refine Ar.u32 (by omega) (by omega) ?_)
      | (refine Ar.sh1 (by omega) ?_)
      | (refine Ar.u64 (by omega) (by omega) ?_)
      | (refine Sv.mk _ rfl ?_)
      | (refine Nz.mk (by omega) ?_)
      | (refine Nn.mk (by omega) ?_)
      | (refine Ix.nat (by omega) ?_)
      | (refine Ix.ofNat (by omega) ?_)
      | (refine Ix.mk 0 rfl (by omega) ?_)
      | (refine Ix.mk 1 rfl (by omega) ?_)
      | (refine Ix.int (by omega) (by omega) ?_)
      | (refine Bd.nat (by omega) ?_)
      | (refine Bd.mk 0 rfl (by omega) ?_)
      | (refine Bd.mk 1 rfl (by omega) ?_)
      | (refine Bd.int (by omega) (by omega) ?_)
      | (refine Len.mk (by omega) ?_)
      | (refine Len.mk (by simp only [List.length_cons, List.length_nil]; omega) ?_)
      | (refine Ltn.mk (by omega) ?_)
      | (refine Both.mk ?_ ?_)
      | (refine MkS.vec ?_)
      | (refine Br.any (fun _ => ?_) (fun _ => ?_)))
  all_goals (conv => whnf)
  refine loop_r mixed [1] (fun i : Nat => [(4, .int .i64 i), (3, .int .i64 (maxL (g.ids.take i) 0))]) (fun m i => m = g.ids.length - i ∧ i ≤ g.ids.length) g.ids.length 0 ⟨rfl, Nat.zero_le _⟩ ?_ ?_
  · refine weak_by (fun _ _ => [(0, some 0)]) ?_ ?_ rfl
    · repeat' (first | exact True.intro | exact VRen.oel rfl rfl | exact VRen.map rfl | exact VRen.yld rfl | (refine VRen.fn ?_) | exact ⟨rfl, rfl⟩ | exact ⟨rfl, rfl, rfl⟩ | (refine ⟨rfl, rfl, rfl, rfl, rfl, ?_⟩) | (refine ⟨⟨_, rfl, ?_⟩, ?_⟩) | exact VRen.kf rfl | exact VRen.int rfl | exact VRen.int (by omega) | exact VRen.loc rfl | exact VRen.vec rfl rfl rfl | exact VRen.vec rfl (by omega) (by omega) | exact VRen.nil rfl rfl | exact VRen.nil rfl (by omega) | exact VRen.fz rfl (fun h => h) (fun _ _ _ _ => VLe.rfl) | (refine ⟨Nat.le_refl _, rfl, fun i j hi hj => ?_⟩) | (refine ⟨by omega, rfl, fun i j hi hj => ?_⟩) | exact VLe.rfl | (refine ⟨⟨_, _, rfl⟩, ?_⟩) | (refine And.intro ?_ ?_))
    · repeat' (first | exact True.intro | exact VRen.oel rfl rfl | exact VRen.map rfl | exact VRen.yld rfl | (refine VRen.fn ?_) | exact ⟨rfl, rfl⟩ | exact ⟨rfl, rfl, rfl⟩ | (refine ⟨rfl, rfl, rfl, rfl, rfl, ?_⟩) | (refine ⟨⟨_, rfl, ?_⟩, ?_⟩) | exact VRen.kf rfl | exact VRen.int rfl | exact VRen.int (by omega) | exact VRen.loc rfl | exact VRen.vec rfl rfl rfl | exact VRen.vec rfl (by omega) (by omega) | exact VRen.nil rfl rfl | exact VRen.nil rfl (by omega) | exact VRen.fz rfl (fun h => h) (fun _ _ _ _ => VLe.rfl) | (refine ⟨Nat.le_refl _, rfl, fun i j hi hj => ?_⟩) | (refine ⟨by omega, rfl, fun i j hi hj => ?_⟩) | exact VLe.rfl | (refine ⟨⟨_, _, rfl⟩, ?_⟩) | (refine And.intro ?_ ?_))
  rintro m i ⟨hm, hi⟩
  repeat' ((conv => whnf); first
      | (refine Br.tt ?_)
      | (refine Br.ff ?_)
      | (refine Br.dec (fun _ => ?_) (fun _ => ?_) <;> first | (exfalso; omega) | skip)
      | (refine Br.beq (fun _ => ?_) (fun _ => ?_) <;> first | (exfalso; omega) | skip)
      | (refine Br.bne (fun _ => ?_) (fun _ => ?_) <;> first | (exfalso; omega) | skip)
      | (refine Br.nbeq (fun _ => ?_) (fun _ => ?_) <;> first | (exfalso; omega) | skip)
      | (refine Br.nble (fun _ => ?_) (fun _ => ?_) <;> first | (exfalso; omega) | skip)
      | (refine Ar.i64 (by omega) (by omega) ?_)
      | (refine Ar.u32 (by omega) (by omega) ?_)
      | (refine Ar.sh1 (by omega) ?_)
      | (refine Ar.u64 (by omega) (by omega) ?_)
      | (refine Sv.mk _ rfl ?_)
      | (refine Nz.mk (by omega) ?_)
      | (refine Nn.mk (by omega) ?_)
      | (refine Ix.nat (by omega) ?_)
      | (refine Ix.ofNat (by omega) ?_)
      | (refine Ix.mk 0 rfl (by omega) ?_)
      | (refine Ix.mk 1 rfl (by omega) ?_)
      | (refine Ix.int (by omega) (by omega) ?_)
      | (refine Bd.nat (by omega) ?_)
      | (refine Bd.mk 0 rfl (by omega) ?_)
      | (refine Bd.mk 1 rfl (by omega) ?_)
      | (refine Bd.int (by omega) (by omega) ?_)
      | (refine Len.mk (by omega) ?_)
      | (refine Len.mk (by simp only [List.length_cons, List.length_nil]; omega) ?_)
      | (refine Ltn.mk (by omega) ?_)
      | (refine Both.mk ?_ ?_)
      | (refine MkS.vec ?_)
      | (refine Br.any (fun _ => ?_) (fun _ => ?_)))
  all_goals (conv => whnf)
  · refine ⟨g.ids.length - (i + 1), i + 1, by omega, ⟨rfl, by omega⟩, ?_⟩
    simp only [gI_take g.ids i (by omega), maxL_snoc]
    refine weak_by (fun _ _ => [(0, some 0)]) ?_ ?_ rfl
    · repeat' (first | exact True.intro | exact VRen.oel rfl rfl | exact VRen.map rfl | exact VRen.yld rfl | (refine VRen.fn ?_) | exact ⟨rfl, rfl⟩ | exact ⟨rfl, rfl, rfl⟩ | (refine ⟨rfl, rfl, rfl, rfl, rfl, ?_⟩) | (refine ⟨⟨_, rfl, ?_⟩, ?_⟩) | exact VRen.kf rfl | exact VRen.int rfl | exact VRen.int (by omega) | exact VRen.loc rfl | exact VRen.vec rfl rfl rfl | exact VRen.vec rfl (by omega) (by omega) | exact VRen.nil rfl rfl | exact VRen.nil rfl (by omega) | exact VRen.fz rfl (fun h => h) (fun _ _ _ _ => VLe.rfl) | (refine ⟨Nat.le_refl _, rfl, fun i j hi hj => ?_⟩) | (refine ⟨by omega, rfl, fun i j hi hj => ?_⟩) | exact VLe.rfl | (refine ⟨⟨_, _, rfl⟩, ?_⟩) | (refine And.intro ?_ ?_))
    · repeat' (first | exact True.intro | exact VRen.oel rfl rfl | exact VRen.map rfl | exact VRen.yld rfl | (refine VRen.fn ?_) | exact ⟨rfl, rfl⟩ | exact ⟨rfl, rfl, rfl⟩ | (refine ⟨rfl, rfl, rfl, rfl, rfl, ?_⟩) | (refine ⟨⟨_, rfl, ?_⟩, ?_⟩) | exact VRen.kf rfl | exact VRen.int rfl | exact VRen.int (by omega) | exact VRen.loc rfl | exact VRen.vec rfl rfl rfl | exact VRen.vec rfl (by omega) (by omega) | exact VRen.nil rfl rfl | exact VRen.nil rfl (by omega) | exact VRen.fz rfl (fun h => h) (fun _ _ _ _ => VLe.rfl) | (refine ⟨Nat.le_refl _, rfl, fun i j hi hj => ?_⟩) | (refine ⟨by omega, rfl, fun i j hi hj => ?_⟩) | exact VLe.rfl | (refine ⟨⟨_, _, rfl⟩, ?_⟩) | (refine And.intro ?_ ?_))
  · rw [List.take_of_length_le (by omega)]
    exact VLe.rfl

def bV (g : G) (vs : List Vr) (v x : Nat) : Int × Int :=
  if (gV vs x).kind = 2 then (0, 1) else if (gV vs x).kind = 3 then (-1, ((gR g.ports v).length : Int) - 1) else ((gV vs x).lo, (gV vs x).hi + (gV vs x).pn * g.ports.length + (gV vs x).pid * maxL g.ids 0)

structure VOk (vs : List Vr) : Prop where
  len : vs.length ≤ 1000
  b : ∀ x, 0 ≤ (gV vs x).hi ∧ (gV vs x).hi ≤ 1000 ∧ 0 ≤ (gV vs x).pn ∧ (gV vs x).pn ≤ 1000 ∧ 0 ≤ (gV vs x).pid ∧ (gV vs x).pid ≤ 1000

theorem val_facts {g : G} (h : g.valid = true) : 1 ≤ g.ids.length ∧ g.ids.length ≤ 24 ∧ g.ports.length = g.ids.length ∧ (∀ a ∈ g.ids, 0 ≤ a ∧ a ≤ 255) ∧ g.ids.Nodup ∧ (∀ v, v < g.ports.length → okR g.ports.length v (gR g.ports v) = true) ∧ ∀ v, v < g.ports.length → ∀ l ∈ gR g.ports v, ((v : Int), l.2) ∈ gR g.ports l.1.toNat := by
  simp only [G.valid, Bool.and_eq_true, decide_eq_true_eq, portsOk] at h
  obtain ⟨⟨h1, h2, h3⟩, h4, h5, h6⟩ := h
  have h4 := (idsOk_iff _).1 h4
  exact ⟨h1, h2, h3, h4.1, h4.2, rowsOk_iff.1 h5, symOk_iff.1 h6⟩

set_option maxHeartbeats 4000000 in
theorem rconf_ok (g : G) (hs : g.Small) (c : Cf) (hc : CSmall c) (vs : List Vr) (hv : VOk vs) :
    Ret Try.prog 60 [g.v, cV c, .fz vs.length 6 false (vV vs)] (.bool (g.valid && conf g.ports.length vs.length (bV g vs) c)) := by
  have s1 := hs.ports
  have s2 := hc.len
  have hval := rvalid_ok g hs
  have htop := top_ok g hs
  have hvl := hv.len
  refine ret_frz rfl ?_
  refine fn_rule mixed Try.func60 rfl hc60 hr60 rfl ?_
  by_cases hg : g.valid = true
  · rw [hg] at hval ⊢
    rw [Bool.true_and]
    obtain ⟨f1, f2, f3, f4, f5, f6, f7⟩ := val_facts hg
    have ht1 := maxL_le g.ids 0 255 (by omega) (fun a ha => (f4 a ha).2)
    have ht0 := maxL_ge g.ids 0
    revert htop ht1 ht0
    generalize hT : maxL g.ids 0 = T
    intro htop ht1 ht0
    repeat' ((conv => whnf); first
        | (refine Br.tt ?_)
        | (refine Br.ff ?_)
        | (refine Br.dec (fun _ => ?_) (fun _ => ?_) <;> first | (exfalso; omega) | skip)
        | (refine Br.beq (fun _ => ?_) (fun _ => ?_) <;> first | (exfalso; omega) | skip)
        | (refine Br.bne (fun _ => ?_) (fun _ => ?_) <;> first | (exfalso; omega) | skip)
        | (refine Br.nbeq (fun _ => ?_) (fun _ => ?_) <;> first | (exfalso; omega) | skip)
        | (refine Br.nble (fun _ => ?_) (fun _ => ?_) <;> first | (exfalso; omega) | skip)
        | (refine Ar.i64 (by omega) (by omega) ?_)
        | (refine Ar.u32 (by omega) (by omega) ?_)
        | (refine Ar.sh1 (by omega) ?_)
        | (refine Ar.u64 (by omega) (by omega) ?_)
        | (refine Sv.mk _ rfl ?_)
        | (refine Nz.mk (by omega) ?_)
        | (refine Nn.mk (by omega) ?_)
        | (refine Ix.nat (by omega) ?_)
        | (refine Ix.ofNat (by omega) ?_)
        | (refine Ix.mk 0 rfl (by omega) ?_)
        | (refine Ix.mk 1 rfl (by omega) ?_)
        | (refine Ix.int (by omega) (by omega) ?_)
        | (refine Bd.nat (by omega) ?_)
        | (refine Bd.mk 0 rfl (by omega) ?_)
        | (refine Bd.mk 1 rfl (by omega) ?_)
        | (refine Bd.int (by omega) (by omega) ?_)
        | (refine Len.mk (by omega) ?_)
        | (refine Len.mk (by simp only [List.length_cons, List.length_nil]; omega) ?_)
        | (refine Ltn.mk (by omega) ?_)
        | (refine Both.mk ?_ ?_)
        | (refine MkS.vec ?_)
        | (refine (hval _ _).mono ?_; rintro _ _ _ ⟨rfl, rfl, rfl⟩)
        | (refine Br.any (fun _ => ?_) (fun _ => ?_)))
    all_goals (conv => whnf)
    · exact VLe.bool (conf_no (fun h => by omega)).symm
    refine loop_r mixed [1, 2, 3, 7] (fun i : Nat => [(8, .int .i64 i)]) (fun m v => m = g.ports.length - v ∧ v ≤ g.ports.length ∧ ∀ u, u < v → (gC c u).length = vs.length ∧ ∀ x, x < vs.length → (bV g vs u x).1 ≤ gI (gC c u) x ∧ gI (gC c u) x ≤ (bV g vs u x).2) g.ports.length 0 ⟨rfl, Nat.zero_le _, fun u hu => by omega⟩ ?_ ?_
    · refine weak_by (fun _ _ => [(0, some 0)]) ?_ ?_ rfl
      · repeat' (first | exact True.intro | exact VRen.oel rfl rfl | exact VRen.map rfl | exact VRen.yld rfl | (refine VRen.fn ?_) | exact ⟨rfl, rfl⟩ | exact ⟨rfl, rfl, rfl⟩ | (refine ⟨rfl, rfl, rfl, rfl, rfl, ?_⟩) | (refine ⟨⟨_, rfl, ?_⟩, ?_⟩) | exact VRen.kf rfl | exact VRen.int rfl | exact VRen.int (by omega) | exact VRen.loc rfl | exact VRen.vec rfl rfl rfl | exact VRen.vec rfl (by omega) (by omega) | exact VRen.nil rfl rfl | exact VRen.nil rfl (by omega) | exact VRen.fz rfl (fun h => h) (fun _ _ _ _ => VLe.rfl) | (refine ⟨Nat.le_refl _, rfl, fun i j hi hj => ?_⟩) | (refine ⟨by omega, rfl, fun i j hi hj => ?_⟩) | exact VLe.rfl | (refine ⟨⟨_, _, rfl⟩, ?_⟩) | (refine And.intro ?_ ?_))
      · repeat' (first | exact True.intro | exact VRen.oel rfl rfl | exact VRen.map rfl | exact VRen.yld rfl | (refine VRen.fn ?_) | exact ⟨rfl, rfl⟩ | exact ⟨rfl, rfl, rfl⟩ | (refine ⟨rfl, rfl, rfl, rfl, rfl, ?_⟩) | (refine ⟨⟨_, rfl, ?_⟩, ?_⟩) | exact VRen.kf rfl | exact VRen.int rfl | exact VRen.int (by omega) | exact VRen.loc rfl | exact VRen.vec rfl rfl rfl | exact VRen.vec rfl (by omega) (by omega) | exact VRen.nil rfl rfl | exact VRen.nil rfl (by omega) | exact VRen.fz rfl (fun h => h) (fun _ _ _ _ => VLe.rfl) | (refine ⟨Nat.le_refl _, rfl, fun i j hi hj => ?_⟩) | (refine ⟨by omega, rfl, fun i j hi hj => ?_⟩) | exact VLe.rfl | (refine ⟨⟨_, _, rfl⟩, ?_⟩) | (refine And.intro ?_ ?_))
    rintro m v ⟨hm, hvn, hall⟩
    have hcl := gC_len hc v
    have hrl := gR_len hs.rows v
    repeat' ((conv => whnf); first
        | (refine Br.tt ?_)
        | (refine Br.ff ?_)
        | (refine Br.dec (fun _ => ?_) (fun _ => ?_) <;> first | (exfalso; omega) | skip)
        | (refine Br.beq (fun _ => ?_) (fun _ => ?_) <;> first | (exfalso; omega) | skip)
        | (refine Br.bne (fun _ => ?_) (fun _ => ?_) <;> first | (exfalso; omega) | skip)
        | (refine Br.nbeq (fun _ => ?_) (fun _ => ?_) <;> first | (exfalso; omega) | skip)
        | (refine Br.nble (fun _ => ?_) (fun _ => ?_) <;> first | (exfalso; omega) | skip)
        | (refine Ar.i64 (by omega) (by omega) ?_)
        | (refine Ar.u32 (by omega) (by omega) ?_)
        | (refine Ar.sh1 (by omega) ?_)
        | (refine Ar.u64 (by omega) (by omega) ?_)
        | (refine Sv.mk _ rfl ?_)
        | (refine Nz.mk (by omega) ?_)
        | (refine Nn.mk (by omega) ?_)
        | (refine Ix.nat (by omega) ?_)
        | (refine Ix.ofNat (by omega) ?_)
        | (refine Ix.mk 0 rfl (by omega) ?_)
        | (refine Ix.mk 1 rfl (by omega) ?_)
        | (refine Ix.int (by omega) (by omega) ?_)
        | (refine Bd.nat (by omega) ?_)
        | (refine Bd.mk 0 rfl (by omega) ?_)
        | (refine Bd.mk 1 rfl (by omega) ?_)
        | (refine Bd.int (by omega) (by omega) ?_)
        | (refine Len.mk (by omega) ?_)
        | (refine Len.mk (by simp only [List.length_cons, List.length_nil]; omega) ?_)
        | (refine Ltn.mk (by omega) ?_)
        | (refine Both.mk ?_ ?_)
        | (refine MkS.vec ?_)
        | (refine Br.any (fun _ => ?_) (fun _ => ?_)))
    all_goals (conv => whnf)
    · rename_i hne
      exact VLe.bool (conf_no (fun h => hne (by have := (h.2 v (by omega)).1; omega))).symm
    · refine loop_r mixed [1, 2, 3, 7, 8] (fun i : Nat => [(9, .int .i64 i)]) (fun m x => m = vs.length - x ∧ x ≤ vs.length ∧ ∀ y, y < x → (bV g vs v y).1 ≤ gI (gC c v) y ∧ gI (gC c v) y ≤ (bV g vs v y).2) vs.length 0 ⟨rfl, Nat.zero_le _, fun u hu => by omega⟩ ?_ ?_
      · refine weak_by (fun _ _ => [(0, some 0)]) ?_ ?_ rfl
        · repeat' (first | exact True.intro | exact VRen.oel rfl rfl | exact VRen.map rfl | exact VRen.yld rfl | (refine VRen.fn ?_) | exact ⟨rfl, rfl⟩ | exact ⟨rfl, rfl, rfl⟩ | (refine ⟨rfl, rfl, rfl, rfl, rfl, ?_⟩) | (refine ⟨⟨_, rfl, ?_⟩, ?_⟩) | exact VRen.kf rfl | exact VRen.int rfl | exact VRen.int (by omega) | exact VRen.loc rfl | exact VRen.vec rfl rfl rfl | exact VRen.vec rfl (by omega) (by omega) | exact VRen.nil rfl rfl | exact VRen.nil rfl (by omega) | exact VRen.fz rfl (fun h => h) (fun _ _ _ _ => VLe.rfl) | (refine ⟨Nat.le_refl _, rfl, fun i j hi hj => ?_⟩) | (refine ⟨by omega, rfl, fun i j hi hj => ?_⟩) | exact VLe.rfl | (refine ⟨⟨_, _, rfl⟩, ?_⟩) | (refine And.intro ?_ ?_))
        · repeat' (first | exact True.intro | exact VRen.oel rfl rfl | exact VRen.map rfl | exact VRen.yld rfl | (refine VRen.fn ?_) | exact ⟨rfl, rfl⟩ | exact ⟨rfl, rfl, rfl⟩ | (refine ⟨rfl, rfl, rfl, rfl, rfl, ?_⟩) | (refine ⟨⟨_, rfl, ?_⟩, ?_⟩) | exact VRen.kf rfl | exact VRen.int rfl | exact VRen.int (by omega) | exact VRen.loc rfl | exact VRen.vec rfl rfl rfl | exact VRen.vec rfl (by omega) (by omega) | exact VRen.nil rfl rfl | exact VRen.nil rfl (by omega) | exact VRen.fz rfl (fun h => h) (fun _ _ _ _ => VLe.rfl) | (refine ⟨Nat.le_refl _, rfl, fun i j hi hj => ?_⟩) | (refine ⟨by omega, rfl, fun i j hi hj => ?_⟩) | exact VLe.rfl | (refine ⟨⟨_, _, rfl⟩, ?_⟩) | (refine And.intro ?_ ?_))
      rintro m x ⟨hm, hx, hrow⟩
      have hvb := hv.b x
      have hbx : bV g vs v x = if (gV vs x).kind = 2 then (0, 1) else if (gV vs x).kind = 3 then (-1, ((gR g.ports v).length : Int) - 1) else ((gV vs x).lo, (gV vs x).hi + (gV vs x).pn * g.ports.length + (gV vs x).pid * T) := by rw [← hT]; rfl
      obtain ⟨P1, hP1⟩ : ∃ P1, (gV vs x).pn * (g.ports.length : Int) = P1 := ⟨_, rfl⟩
      obtain ⟨P2, hP2⟩ : ∃ P2, (gV vs x).pid * T = P2 := ⟨_, rfl⟩
      have hP1b : 0 ≤ P1 ∧ P1 ≤ 24000 := by
        rw [← hP1]
        refine ⟨Int.mul_nonneg (by omega) (by omega), ?_⟩
        exact Int.le_trans (Int.mul_le_mul_of_nonneg_left (show (g.ports.length : Int) ≤ 24 by omega) (by omega)) (by omega)
      have hP2b : 0 ≤ P2 ∧ P2 ≤ 255000 := by
        rw [← hP2]
        refine ⟨Int.mul_nonneg (by omega) (by omega), ?_⟩
        exact Int.le_trans (Int.mul_le_mul_of_nonneg_left ht1 (by omega)) (by omega)
      rw [hP1, hP2] at hbx
      repeat' ((conv => whnf); first
          | (refine Br.tt ?_)
          | (refine Br.ff ?_)
          | (refine Br.dec (fun _ => ?_) (fun _ => ?_) <;> first | (exfalso; omega) | skip)
          | (refine Br.beq (fun _ => ?_) (fun _ => ?_) <;> first | (exfalso; omega) | skip)
          | (refine Br.bne (fun _ => ?_) (fun _ => ?_) <;> first | (exfalso; omega) | skip)
          | (refine Br.nbeq (fun _ => ?_) (fun _ => ?_) <;> first | (exfalso; omega) | skip)
          | (refine Br.nble (fun _ => ?_) (fun _ => ?_) <;> first | (exfalso; omega) | skip)
          | (refine Ar.i64 (by omega) (by omega) ?_)
          | (refine Ar.u32 (by omega) (by omega) ?_)
          | (refine Ar.sh1 (by omega) ?_)
          | (refine Ar.u64 (by omega) (by omega) ?_)
          | (refine Sv.mk _ rfl ?_)
          | (refine Nz.mk (by omega) ?_)
          | (refine Nn.mk (by omega) ?_)
          | (refine Ix.nat (by omega) ?_)
          | (refine Ix.ofNat (by omega) ?_)
          | (refine Ix.mk 0 rfl (by omega) ?_)
          | (refine Ix.mk 1 rfl (by omega) ?_)
          | (refine Ix.int (by omega) (by omega) ?_)
          | (refine Bd.nat (by omega) ?_)
          | (refine Bd.mk 0 rfl (by omega) ?_)
          | (refine Bd.mk 1 rfl (by omega) ?_)
          | (refine Bd.int (by omega) (by omega) ?_)
          | (refine Len.mk (by omega) ?_)
          | (refine Len.mk (by simp only [List.length_cons, List.length_nil]; omega) ?_)
          | (refine Ltn.mk (by omega) ?_)
          | (refine Both.mk ?_ ?_)
          | (refine MkS.vec ?_)
          | (refine Ar.i64 (by rw [hP1]; omega) (by rw [hP1]; omega) ?_; rw [hP1])
          | (refine Ar.i64 (by rw [hP2]; omega) (by rw [hP2]; omega) ?_; rw [hP2])
          | (refine (htop _ _).mono ?_; rintro _ _ _ ⟨rfl, rfl, rfl⟩)
          | (refine (in_ok _ _ _ _ _).mono ?_; rintro _ _ _ ⟨rfl, rfl, rfl⟩)
          | (refine And.intro rfl ?_)
          | (refine Br.any (fun _ => ?_) (fun _ => ?_)))
      all_goals (conv => whnf)
      all_goals try (exfalso; omega)
      all_goals try (rename_i hh; rw [hP1, hP2] at hh)
      all_goals first
        | (refine VLe.bool (conf_no (fun h => ?_)).symm; have := (h.2 v (by omega)).2 x (by omega); rw [hbx] at this; (repeat' split at this) <;> simp only at this <;> omega)
        | (refine ⟨vs.length - (x + 1), x + 1, by omega, ⟨rfl, by omega, fun y hy => ?_⟩, ?_⟩
           · by_cases e : y = x
             · subst e; rw [hbx]; (repeat' split) <;> simp only <;> omega
             · exact hrow y (by omega)
           · refine weak_by (fun _ _ => [(0, some 0)]) ?_ ?_ rfl
             · repeat' (first | exact True.intro | exact VRen.oel rfl rfl | exact VRen.map rfl | exact VRen.yld rfl | (refine VRen.fn ?_) | exact ⟨rfl, rfl⟩ | exact ⟨rfl, rfl, rfl⟩ | (refine ⟨rfl, rfl, rfl, rfl, rfl, ?_⟩) | (refine ⟨⟨_, rfl, ?_⟩, ?_⟩) | exact VRen.kf rfl | exact VRen.int rfl | exact VRen.int (by omega) | exact VRen.loc rfl | exact VRen.vec rfl rfl rfl | exact VRen.vec rfl (by omega) (by omega) | exact VRen.nil rfl rfl | exact VRen.nil rfl (by omega) | exact VRen.fz rfl (fun h => h) (fun _ _ _ _ => VLe.rfl) | (refine ⟨Nat.le_refl _, rfl, fun i j hi hj => ?_⟩) | (refine ⟨by omega, rfl, fun i j hi hj => ?_⟩) | exact VLe.rfl | (refine ⟨⟨_, _, rfl⟩, ?_⟩) | (refine And.intro ?_ ?_))
             · repeat' (first | exact True.intro | exact VRen.oel rfl rfl | exact VRen.map rfl | exact VRen.yld rfl | (refine VRen.fn ?_) | exact ⟨rfl, rfl⟩ | exact ⟨rfl, rfl, rfl⟩ | (refine ⟨rfl, rfl, rfl, rfl, rfl, ?_⟩) | (refine ⟨⟨_, rfl, ?_⟩, ?_⟩) | exact VRen.kf rfl | exact VRen.int rfl | exact VRen.int (by omega) | exact VRen.loc rfl | exact VRen.vec rfl rfl rfl | exact VRen.vec rfl (by omega) (by omega) | exact VRen.nil rfl rfl | exact VRen.nil rfl (by omega) | exact VRen.fz rfl (fun h => h) (fun _ _ _ _ => VLe.rfl) | (refine ⟨Nat.le_refl _, rfl, fun i j hi hj => ?_⟩) | (refine ⟨by omega, rfl, fun i j hi hj => ?_⟩) | exact VLe.rfl | (refine ⟨⟨_, _, rfl⟩, ?_⟩) | (refine And.intro ?_ ?_)))
        | (refine ⟨g.ports.length - (v + 1), v + 1, by omega, ⟨rfl, by omega, fun u hu => ?_⟩, ?_⟩
           · by_cases e : u = v
             · subst e; exact ⟨by omega, fun y hy => hrow y (by omega)⟩
             · exact hall u (by omega)
           · refine weak_by (fun _ _ => [(0, some 0)]) ?_ ?_ rfl
             · repeat' (first | exact True.intro | exact VRen.oel rfl rfl | exact VRen.map rfl | exact VRen.yld rfl | (refine VRen.fn ?_) | exact ⟨rfl, rfl⟩ | exact ⟨rfl, rfl, rfl⟩ | (refine ⟨rfl, rfl, rfl, rfl, rfl, ?_⟩) | (refine ⟨⟨_, rfl, ?_⟩, ?_⟩) | exact VRen.kf rfl | exact VRen.int rfl | exact VRen.int (by omega) | exact VRen.loc rfl | exact VRen.vec rfl rfl rfl | exact VRen.vec rfl (by omega) (by omega) | exact VRen.nil rfl rfl | exact VRen.nil rfl (by omega) | exact VRen.fz rfl (fun h => h) (fun _ _ _ _ => VLe.rfl) | (refine ⟨Nat.le_refl _, rfl, fun i j hi hj => ?_⟩) | (refine ⟨by omega, rfl, fun i j hi hj => ?_⟩) | exact VLe.rfl | (refine ⟨⟨_, _, rfl⟩, ?_⟩) | (refine And.intro ?_ ?_))
             · repeat' (first | exact True.intro | exact VRen.oel rfl rfl | exact VRen.map rfl | exact VRen.yld rfl | (refine VRen.fn ?_) | exact ⟨rfl, rfl⟩ | exact ⟨rfl, rfl, rfl⟩ | (refine ⟨rfl, rfl, rfl, rfl, rfl, ?_⟩) | (refine ⟨⟨_, rfl, ?_⟩, ?_⟩) | exact VRen.kf rfl | exact VRen.int rfl | exact VRen.int (by omega) | exact VRen.loc rfl | exact VRen.vec rfl rfl rfl | exact VRen.vec rfl (by omega) (by omega) | exact VRen.nil rfl rfl | exact VRen.nil rfl (by omega) | exact VRen.fz rfl (fun h => h) (fun _ _ _ _ => VLe.rfl) | (refine ⟨Nat.le_refl _, rfl, fun i j hi hj => ?_⟩) | (refine ⟨by omega, rfl, fun i j hi hj => ?_⟩) | exact VLe.rfl | (refine ⟨⟨_, _, rfl⟩, ?_⟩) | (refine And.intro ?_ ?_)))
    · exact VLe.bool (conf_iff.2 ⟨by omega, fun u hu => hall u (by omega)⟩).symm
  · simp only [Bool.not_eq_true] at hg
    rw [hg] at hval ⊢
    rw [Bool.false_and]
    repeat' ((conv => whnf); first
        | (refine Br.tt ?_)
        | (refine Br.ff ?_)
        | (refine Br.dec (fun _ => ?_) (fun _ => ?_) <;> first | (exfalso; omega) | skip)
        | (refine Br.beq (fun _ => ?_) (fun _ => ?_) <;> first | (exfalso; omega) | skip)
        | (refine Br.bne (fun _ => ?_) (fun _ => ?_) <;> first | (exfalso; omega) | skip)
        | (refine Br.nbeq (fun _ => ?_) (fun _ => ?_) <;> first | (exfalso; omega) | skip)
        | (refine Br.nble (fun _ => ?_) (fun _ => ?_) <;> first | (exfalso; omega) | skip)
        | (refine Ar.i64 (by omega) (by omega) ?_)
        | (refine Ar.u32 (by omega) (by omega) ?_)
        | (refine Ar.sh1 (by omega) ?_)
        | (refine Ar.u64 (by omega) (by omega) ?_)
        | (refine Sv.mk _ rfl ?_)
        | (refine Nz.mk (by omega) ?_)
        | (refine Nn.mk (by omega) ?_)
        | (refine Ix.nat (by omega) ?_)
        | (refine Ix.ofNat (by omega) ?_)
        | (refine Ix.mk 0 rfl (by omega) ?_)
        | (refine Ix.mk 1 rfl (by omega) ?_)
        | (refine Ix.int (by omega) (by omega) ?_)
        | (refine Bd.nat (by omega) ?_)
        | (refine Bd.mk 0 rfl (by omega) ?_)
        | (refine Bd.mk 1 rfl (by omega) ?_)
        | (refine Bd.int (by omega) (by omega) ?_)
        | (refine Len.mk (by omega) ?_)
        | (refine Len.mk (by simp only [List.length_cons, List.length_nil]; omega) ?_)
        | (refine Ltn.mk (by omega) ?_)
        | (refine Both.mk ?_ ?_)
        | (refine MkS.vec ?_)
        | (refine (hval _ _).mono ?_; rintro _ _ _ ⟨rfl, rfl, rfl⟩)
        | (refine Br.any (fun _ => ?_) (fun _ => ?_)))
    all_goals (conv => whnf)
    all_goals exact VLe.rfl
end Go.Proofs.Ytjadlpflhmooaaa
