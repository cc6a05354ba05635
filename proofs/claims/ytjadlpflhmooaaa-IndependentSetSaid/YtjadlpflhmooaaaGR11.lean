import Derived.Test.YtjadlpflhmooaaaGR10
namespace Go.Proofs.Ytjadlpflhmooaaa
open Go.Eng
set_option maxRecDepth 100000
set_option linter.unusedVariables false

/-! ## independent sets -/

def one (c : Cf) (x v : Nat) : Bool := decide (gI (gC c v) x = 1)

theorem Ar.sh01 {a : Int} {k : Nat} {K : Int → Prop} (h0 : 0 ≤ a) (h1 : a ≤ 1) (hk : k < 32) (hK : K ((if a = 1 then 2 ^ k else 0 : Nat) : Int)) : Ar .u32 (a * 2 ^ (min (k : Int).toNat 32)) K := by
  have : a = 0 ∨ a = 1 := by omega
  rcases this with rfl | rfl
  · rw [if_neg (by omega)] at hK
    rw [Int.zero_mul]
    exact Ar.u32 (by omega) (by omega) hK
  · rw [if_pos rfl] at hK
    exact Ar.sh1 hk hK
theorem one_or {c : Cf} {x v : Nat} (hv : v < 32) : bitI .or .u32 (nb (one c x) v : Nat) ((if gI (gC c v) x = 1 then 2 ^ v else 0 : Nat) : Int) = (nb (one c x) (v + 1) : Nat) := by
  by_cases h : gI (gC c v) x = 1
  · rw [if_pos h]; exact nb_or hv (by rw [one, decide_eq_true h])
  · rw [if_neg h, bit_or (nb_lt _ (by omega)) (by decide), Nat.or_zero, nb_no (by rw [one, decide_eq_false h])]

theorem true_ok (c : Cf) (x : Nat) (hl : c.length ≤ 24) (hx : ∀ v, v < c.length → x < (gC c v).length ∧ 0 ≤ gI (gC c v) x ∧ gI (gC c v) x ≤ 1) : Ret Try.prog 52 [cV c, .int .i64 x] (.int .u32 (nb (one c x) c.length)) := by
  refine ret_frz rfl ?_
  refine fn_rule mixed Try.func52 rfl hc52 hr52 rfl ?_
  repeat' ((conv => whnf); first
      | (refine Br.tt ?_)
      | (refine Br.ff ?_)
      | (refine Br.dec (fun _ => ?_) (fun _ => ?_) <;> first | (exfalso; omega) | skip)
      | (refine Br.beq (fun _ => ?_) (fun _ => ?_) <;> first | (exfalso; omega) | skip)
      | (refine Br.bne (fun _ => ?_) (fun _ => ?_) <;> first | (exfalso; omega) | skip)
      | (refine Br.nbeq (fun _ => ?_) (fun _ => ?_) <;> first | (exfalso; omega) | skip)
      | (refine Br.nble (fun _ => ?_) (fun _ => ?_) <;> first | (exfalso; omega) | skip)
      | (refine Ar.i64 (by omega) (by omega) ?_)
      | (refine Ar.u32 (by omega) (by omega) ?_)
      | (refine Ar.sh1 (by omega) ?_)
      | (refine Ar.u64 (by omega) (by omega) ?_)
      | (refine Sv.mk _ rfl ?_)
      | (refine Nz.mk (by omega) ?_)
      | (refine Nn.mk (by omega) ?_)
      | (refine Ix.nat (by omega) ?_)
      | (refine Ix.ofNat (by omega) ?_)
      | (refine Ix.mk 0 rfl (by omega) ?_)
      | (refine Ix.mk 1 rfl (by omega) ?_)
      | (refine Ix.int (by omega) (by omega) ?_)
      | (refine Bd.nat (by omega) ?_)
      | (refine Bd.mk 0 rfl (by omega) ?_)
      | (refine Bd.mk 1 rfl (by omega) ?_)
      | (refine Bd.int (by omega) (by omega) ?_)
      | (refine Len.mk (by omega) ?_)
      | (refine Len.mk (by simp only [List.length_cons, List.length_nil]; omega) ?_)
      | (refine Ltn.mk (by omega) ?_)
      | (refine Both.mk ?_ ?_)
      | (refine MkS.vec ?_)
      | (refine Br.any (fun _ => ?_) (fun _ => ?_)))
  all_goals (conv => whnf)
  refine loop_r mixed [1, 8, 9] (fun i : Nat => [(5, .int .u32 (nb (one c x) i)), (10, .int .i64 i)]) (fun m v => m = c.length - v ∧ v ≤ c.length) c.length 0 ⟨rfl, Nat.zero_le _⟩ ?_ ?_
  · refine weak_by (fun _ _ => []) ?_ ?_ rfl
    · repeat' (first | exact True.intro | exact VRen.oel rfl rfl | exact VRen.map rfl | exact VRen.yld rfl | (refine VRen.fn ?_) | exact ⟨rfl, rfl⟩ | exact ⟨rfl, rfl, rfl⟩ | (refine ⟨rfl, rfl, rfl, rfl, rfl, ?_⟩) | (refine ⟨⟨_, rfl, ?_⟩, ?_⟩) | exact VRen.kf rfl | exact VRen.int rfl | exact VRen.int (by omega) | exact VRen.loc rfl | exact VRen.vec rfl rfl rfl | exact VRen.vec rfl (by omega) (by omega) | exact VRen.nil rfl rfl | exact VRen.nil rfl (by omega) | exact VRen.fz rfl (fun h => h) (fun _ _ _ _ => VLe.rfl) | (refine ⟨Nat.le_refl _, rfl, fun i j hi hj => ?_⟩) | (refine ⟨by omega, rfl, fun i j hi hj => ?_⟩) | exact VLe.rfl | (refine ⟨⟨_, _, rfl⟩, ?_⟩) | (refine And.intro ?_ ?_))
    · repeat' (first | exact True.intro | exact VRen.oel rfl rfl | exact VRen.map rfl | exact VRen.yld rfl | (refine VRen.fn ?_) | exact ⟨rfl, rfl⟩ | exact ⟨rfl, rfl, rfl⟩ | (refine ⟨rfl, rfl, rfl, rfl, rfl, ?_⟩) | (refine ⟨⟨_, rfl, ?_⟩, ?_⟩) | exact VRen.kf rfl | exact VRen.int rfl | exact VRen.int (by omega) | exact VRen.loc rfl | exact VRen.vec rfl rfl rfl | exact VRen.vec rfl (by omega) (by omega) | exact VRen.nil rfl rfl | exact VRen.nil rfl (by omega) | exact VRen.fz rfl (fun h => h) (fun _ _ _ _ => VLe.rfl) | (refine ⟨Nat.le_refl _, rfl, fun i j hi hj => ?_⟩) | (refine ⟨by omega, rfl, fun i j hi hj => ?_⟩) | exact VLe.rfl | (refine ⟨⟨_, _, rfl⟩, ?_⟩) | (refine And.intro ?_ ?_))
  rintro m v ⟨hm, hv⟩
  have hxv := hx v
  repeat' ((conv => whnf); first
      | (refine Ar.sh01 (by omega) (by omega) (by omega) ?_)
      | (refine Br.tt ?_)
      | (refine Br.ff ?_)
      | (refine Br.dec (fun _ => ?_) (fun _ => ?_) <;> first | (exfalso; omega) | skip)
      | (refine Br.beq (fun _ => ?_) (fun _ => ?_) <;> first | (exfalso; omega) | skip)
      | (refine Br.bne (fun _ => ?_) (fun _ => ?_) <;> first | (exfalso; omega) | skip)
      | (refine Br.nbeq (fun _ => ?_) (fun _ => ?_) <;> first | (exfalso; omega) | skip)
      | (refine Br.nble (fun _ => ?_) (fun _ => ?_) <;> first | (exfalso; omega) | skip)
      | (refine Ar.i64 (by omega) (by omega) ?_)
      | (refine Ar.u32 (by omega) (by omega) ?_)
      | (refine Ar.sh1 (by omega) ?_)
      | (refine Ar.u64 (by omega) (by omega) ?_)
      | (refine Sv.mk _ rfl ?_)
      | (refine Nz.mk (by omega) ?_)
      | (refine Nn.mk (by omega) ?_)
      | (refine Ix.nat (by omega) ?_)
      | (refine Ix.ofNat (by omega) ?_)
      | (refine Ix.mk 0 rfl (by omega) ?_)
      | (refine Ix.mk 1 rfl (by omega) ?_)
      | (refine Ix.int (by omega) (by omega) ?_)
      | (refine Bd.nat (by omega) ?_)
      | (refine Bd.mk 0 rfl (by omega) ?_)
      | (refine Bd.mk 1 rfl (by omega) ?_)
      | (refine Bd.int (by omega) (by omega) ?_)
      | (refine Len.mk (by omega) ?_)
      | (refine Len.mk (by simp only [List.length_cons, List.length_nil]; omega) ?_)
      | (refine Ltn.mk (by omega) ?_)
      | (refine Both.mk ?_ ?_)
      | (refine MkS.vec ?_)
      | (refine Br.any (fun _ => ?_) (fun _ => ?_)))
  all_goals (conv => whnf)
  · refine ⟨c.length - (v + 1), v + 1, by omega, ⟨rfl, by omega⟩, ?_⟩
    have hx := one_or (c := c) (x := x) (v := v) (by omega)
    refine weak_by (fun _ _ => []) ?_ ?_ rfl
    · repeat' (first | exact VRen.int hx | exact True.intro | exact VRen.oel rfl rfl | exact VRen.map rfl | exact VRen.yld rfl | (refine VRen.fn ?_) | exact ⟨rfl, rfl⟩ | exact ⟨rfl, rfl, rfl⟩ | (refine ⟨rfl, rfl, rfl, rfl, rfl, ?_⟩) | (refine ⟨⟨_, rfl, ?_⟩, ?_⟩) | exact VRen.kf rfl | exact VRen.int rfl | exact VRen.int (by omega) | exact VRen.loc rfl | exact VRen.vec rfl rfl rfl | exact VRen.vec rfl (by omega) (by omega) | exact VRen.nil rfl rfl | exact VRen.nil rfl (by omega) | exact VRen.fz rfl (fun h => h) (fun _ _ _ _ => VLe.rfl) | (refine ⟨Nat.le_refl _, rfl, fun i j hi hj => ?_⟩) | (refine ⟨by omega, rfl, fun i j hi hj => ?_⟩) | exact VLe.rfl | (refine ⟨⟨_, _, rfl⟩, ?_⟩) | (refine And.intro ?_ ?_))
    · repeat' (first | exact VRen.int hx | exact True.intro | exact VRen.oel rfl rfl | exact VRen.map rfl | exact VRen.yld rfl | (refine VRen.fn ?_) | exact ⟨rfl, rfl⟩ | exact ⟨rfl, rfl, rfl⟩ | (refine ⟨rfl, rfl, rfl, rfl, rfl, ?_⟩) | (refine ⟨⟨_, rfl, ?_⟩, ?_⟩) | exact VRen.kf rfl | exact VRen.int rfl | exact VRen.int (by omega) | exact VRen.loc rfl | exact VRen.vec rfl rfl rfl | exact VRen.vec rfl (by omega) (by omega) | exact VRen.nil rfl rfl | exact VRen.nil rfl (by omega) | exact VRen.fz rfl (fun h => h) (fun _ _ _ _ => VLe.rfl) | (refine ⟨Nat.le_refl _, rfl, fun i j hi hj => ?_⟩) | (refine ⟨by omega, rfl, fun i j hi hj => ?_⟩) | exact VLe.rfl | (refine ⟨⟨_, _, rfl⟩, ?_⟩) | (refine And.intro ?_ ?_))
  · have e : v = c.length := by omega
    rw [← e]; exact VLe.rfl

theorem ones_ok (c : Cf) (x : Nat) (hl : c.length ≤ 24) (hx : ∀ v, v < c.length → x < (gC c v).length) : Ret Try.prog 63 [cV c, .int .i64 x] (.int .u32 (nb (one c x) c.length)) := by
  refine ret_frz rfl ?_
  refine fn_rule mixed Try.func63 rfl hc63 hr63 rfl ?_
  repeat' ((conv => whnf); first
      | (refine Br.tt ?_)
      | (refine Br.ff ?_)
      | (refine Br.dec (fun _ => ?_) (fun _ => ?_) <;> first | (exfalso; omega) | skip)
      | (refine Br.beq (fun _ => ?_) (fun _ => ?_) <;> first | (exfalso; omega) | skip)
      | (refine Br.bne (fun _ => ?_) (fun _ => ?_) <;> first | (exfalso; omega) | skip)
      | (refine Br.nbeq (fun _ => ?_) (fun _ => ?_) <;> first | (exfalso; omega) | skip)
      | (refine Br.nble (fun _ => ?_) (fun _ => ?_) <;> first | (exfalso; omega) | skip)
      | (refine Ar.i64 (by omega) (by omega) ?_)
      | (refine Ar.u32 (by omega) (by omega) ?_)
      | (refine Ar.sh1 (by omega) ?_)
      | (refine Ar.u64 (by omega) (by omega) ?_)
      | (refine Sv.mk _ rfl ?_)
      | (refine Nz.mk (by omega) ?_)
      | (refine Nn.mk (by omega) ?_)
      | (refine Ix.nat (by omega) ?_)
      | (refine Ix.ofNat (by omega) ?_)
      | (refine Ix.mk 0 rfl (by omega) ?_)
      | (refine Ix.mk 1 rfl (by omega) ?_)
      | (refine Ix.int (by omega) (by omega) ?_)
      | (refine Bd.nat (by omega) ?_)
      | (refine Bd.mk 0 rfl (by omega) ?_)
      | (refine Bd.mk 1 rfl (by omega) ?_)
      | (refine Bd.int (by omega) (by omega) ?_)
      | (refine Len.mk (by omega) ?_)
      | (refine Len.mk (by simp only [List.length_cons, List.length_nil]; omega) ?_)
      | (refine Ltn.mk (by omega) ?_)
      | (refine Both.mk ?_ ?_)
      | (refine MkS.vec ?_)
      | (refine Br.any (fun _ => ?_) (fun _ => ?_)))
  all_goals (conv => whnf)
  refine loop_r mixed [0, 1] (fun i : Nat => [(5, .int .u32 (nb (one c x) i)), (6, .int .i64 i)]) (fun m v => m = c.length - v ∧ v ≤ c.length) c.length 0 ⟨rfl, Nat.zero_le _⟩ ?_ ?_
  · refine weak_by (fun _ _ => []) ?_ ?_ rfl
    · repeat' (first | exact True.intro | exact VRen.oel rfl rfl | exact VRen.map rfl | exact VRen.yld rfl | (refine VRen.fn ?_) | exact ⟨rfl, rfl⟩ | exact ⟨rfl, rfl, rfl⟩ | (refine ⟨rfl, rfl, rfl, rfl, rfl, ?_⟩) | (refine ⟨⟨_, rfl, ?_⟩, ?_⟩) | exact VRen.kf rfl | exact VRen.int rfl | exact VRen.int (by omega) | exact VRen.loc rfl | exact VRen.vec rfl rfl rfl | exact VRen.vec rfl (by omega) (by omega) | exact VRen.nil rfl rfl | exact VRen.nil rfl (by omega) | exact VRen.fz rfl (fun h => h) (fun _ _ _ _ => VLe.rfl) | (refine ⟨Nat.le_refl _, rfl, fun i j hi hj => ?_⟩) | (refine ⟨by omega, rfl, fun i j hi hj => ?_⟩) | exact VLe.rfl | (refine ⟨⟨_, _, rfl⟩, ?_⟩) | (refine And.intro ?_ ?_))
    · repeat' (first | exact True.intro | exact VRen.oel rfl rfl | exact VRen.map rfl | exact VRen.yld rfl | (refine VRen.fn ?_) | exact ⟨rfl, rfl⟩ | exact ⟨rfl, rfl, rfl⟩ | (refine ⟨rfl, rfl, rfl, rfl, rfl, ?_⟩) | (refine ⟨⟨_, rfl, ?_⟩, ?_⟩) | exact VRen.kf rfl | exact VRen.int rfl | exact VRen.int (by omega) | exact VRen.loc rfl | exact VRen.vec rfl rfl rfl | exact VRen.vec rfl (by omega) (by omega) | exact VRen.nil rfl rfl | exact VRen.nil rfl (by omega) | exact VRen.fz rfl (fun h => h) (fun _ _ _ _ => VLe.rfl) | (refine ⟨Nat.le_refl _, rfl, fun i j hi hj => ?_⟩) | (refine ⟨by omega, rfl, fun i j hi hj => ?_⟩) | exact VLe.rfl | (refine ⟨⟨_, _, rfl⟩, ?_⟩) | (refine And.intro ?_ ?_))
  rintro m v ⟨hm, hv⟩
  have hxv := hx v
  repeat' ((conv => whnf); first
      | (refine Br.tt ?_)
      | (refine Br.ff ?_)
      | (refine Br.dec (fun _ => ?_) (fun _ => ?_) <;> first | (exfalso; omega) | skip)
      | (refine Br.beq (fun _ => ?_) (fun _ => ?_) <;> first | (exfalso; omega) | skip)
      | (refine Br.bne (fun _ => ?_) (fun _ => ?_) <;> first | (exfalso; omega) | skip)
      | (refine Br.nbeq (fun _ => ?_) (fun _ => ?_) <;> first | (exfalso; omega) | skip)
      | (refine Br.nble (fun _ => ?_) (fun _ => ?_) <;> first | (exfalso; omega) | skip)
      | (refine Ar.i64 (by omega) (by omega) ?_)
      | (refine Ar.u32 (by omega) (by omega) ?_)
      | (refine Ar.sh1 (by omega) ?_)
      | (refine Ar.u64 (by omega) (by omega) ?_)
      | (refine Sv.mk _ rfl ?_)
      | (refine Nz.mk (by omega) ?_)
      | (refine Nn.mk (by omega) ?_)
      | (refine Ix.nat (by omega) ?_)
      | (refine Ix.ofNat (by omega) ?_)
      | (refine Ix.mk 0 rfl (by omega) ?_)
      | (refine Ix.mk 1 rfl (by omega) ?_)
      | (refine Ix.int (by omega) (by omega) ?_)
      | (refine Bd.nat (by omega) ?_)
      | (refine Bd.mk 0 rfl (by omega) ?_)
      | (refine Bd.mk 1 rfl (by omega) ?_)
      | (refine Bd.int (by omega) (by omega) ?_)
      | (refine Len.mk (by omega) ?_)
      | (refine Len.mk (by simp only [List.length_cons, List.length_nil]; omega) ?_)
      | (refine Ltn.mk (by omega) ?_)
      | (refine Both.mk ?_ ?_)
      | (refine MkS.vec ?_)
      | (refine Br.any (fun _ => ?_) (fun _ => ?_)))
  all_goals (conv => whnf)
  · refine ⟨c.length - (v + 1), v + 1, by omega, ⟨rfl, by omega⟩, ?_⟩
    have hx := nb_or (p := one c x) (k := v) (by omega) (by rw [one, decide_eq_true_eq]; assumption)
    refine weak_by (fun _ _ => []) ?_ ?_ rfl
    · repeat' (first | exact VRen.int hx | exact True.intro | exact VRen.oel rfl rfl | exact VRen.map rfl | exact VRen.yld rfl | (refine VRen.fn ?_) | exact ⟨rfl, rfl⟩ | exact ⟨rfl, rfl, rfl⟩ | (refine ⟨rfl, rfl, rfl, rfl, rfl, ?_⟩) | (refine ⟨⟨_, rfl, ?_⟩, ?_⟩) | exact VRen.kf rfl | exact VRen.int rfl | exact VRen.int (by omega) | exact VRen.loc rfl | exact VRen.vec rfl rfl rfl | exact VRen.vec rfl (by omega) (by omega) | exact VRen.nil rfl rfl | exact VRen.nil rfl (by omega) | exact VRen.fz rfl (fun h => h) (fun _ _ _ _ => VLe.rfl) | (refine ⟨Nat.le_refl _, rfl, fun i j hi hj => ?_⟩) | (refine ⟨by omega, rfl, fun i j hi hj => ?_⟩) | exact VLe.rfl | (refine ⟨⟨_, _, rfl⟩, ?_⟩) | (refine And.intro ?_ ?_))
    · repeat' (first | exact VRen.int hx | exact True.intro | exact VRen.oel rfl rfl | exact VRen.map rfl | exact VRen.yld rfl | (refine VRen.fn ?_) | exact ⟨rfl, rfl⟩ | exact ⟨rfl, rfl, rfl⟩ | (refine ⟨rfl, rfl, rfl, rfl, rfl, ?_⟩) | (refine ⟨⟨_, rfl, ?_⟩, ?_⟩) | exact VRen.kf rfl | exact VRen.int rfl | exact VRen.int (by omega) | exact VRen.loc rfl | exact VRen.vec rfl rfl rfl | exact VRen.vec rfl (by omega) (by omega) | exact VRen.nil rfl rfl | exact VRen.nil rfl (by omega) | exact VRen.fz rfl (fun h => h) (fun _ _ _ _ => VLe.rfl) | (refine ⟨Nat.le_refl _, rfl, fun i j hi hj => ?_⟩) | (refine ⟨by omega, rfl, fun i j hi hj => ?_⟩) | exact VLe.rfl | (refine ⟨⟨_, _, rfl⟩, ?_⟩) | (refine And.intro ?_ ?_))
  · refine ⟨c.length - (v + 1), v + 1, by omega, ⟨rfl, by omega⟩, ?_⟩
    have hx := nb_no (p := one c x) (k := v) (by rw [one, decide_eq_false_iff_not]; assumption)
    refine weak_by (fun _ _ => []) ?_ ?_ rfl
    · repeat' (first | exact VRen.int (by rw [hx]) | exact True.intro | exact VRen.oel rfl rfl | exact VRen.map rfl | exact VRen.yld rfl | (refine VRen.fn ?_) | exact ⟨rfl, rfl⟩ | exact ⟨rfl, rfl, rfl⟩ | (refine ⟨rfl, rfl, rfl, rfl, rfl, ?_⟩) | (refine ⟨⟨_, rfl, ?_⟩, ?_⟩) | exact VRen.kf rfl | exact VRen.int rfl | exact VRen.int (by omega) | exact VRen.loc rfl | exact VRen.vec rfl rfl rfl | exact VRen.vec rfl (by omega) (by omega) | exact VRen.nil rfl rfl | exact VRen.nil rfl (by omega) | exact VRen.fz rfl (fun h => h) (fun _ _ _ _ => VLe.rfl) | (refine ⟨Nat.le_refl _, rfl, fun i j hi hj => ?_⟩) | (refine ⟨by omega, rfl, fun i j hi hj => ?_⟩) | exact VLe.rfl | (refine ⟨⟨_, _, rfl⟩, ?_⟩) | (refine And.intro ?_ ?_))
    · repeat' (first | exact VRen.int (by rw [hx]) | exact True.intro | exact VRen.oel rfl rfl | exact VRen.map rfl | exact VRen.yld rfl | (refine VRen.fn ?_) | exact ⟨rfl, rfl⟩ | exact ⟨rfl, rfl, rfl⟩ | (refine ⟨rfl, rfl, rfl, rfl, rfl, ?_⟩) | (refine ⟨⟨_, rfl, ?_⟩, ?_⟩) | exact VRen.kf rfl | exact VRen.int rfl | exact VRen.int (by omega) | exact VRen.loc rfl | exact VRen.vec rfl rfl rfl | exact VRen.vec rfl (by omega) (by omega) | exact VRen.nil rfl rfl | exact VRen.nil rfl (by omega) | exact VRen.fz rfl (fun h => h) (fun _ _ _ _ => VLe.rfl) | (refine ⟨Nat.le_refl _, rfl, fun i j hi hj => ?_⟩) | (refine ⟨by omega, rfl, fun i j hi hj => ?_⟩) | exact VLe.rfl | (refine ⟨⟨_, _, rfl⟩, ?_⟩) | (refine And.intro ?_ ?_))
  · have e : v = c.length := by omega
    rw [← e]; exact VLe.rfl

/-! ## Maximal -/

def mx (g : G) (p : Nat → Bool) : Bool := decide (∀ v, v < g.ports.length → nbr g (nb p g.ports.length) v = !p v)
theorem nbrs_valid {g : G} (h : g.valid = true) (s : Nat) : g.nbrs s = nb (nbr g s) g.ports.length := by rw [G.nbrs, if_pos h]

theorem maximal_ok (g : G) (hs : g.Small) (hg : g.valid = true) (p : Nat → Bool) : Ret Try.prog 56 [g.v, .int .u32 (nb p g.ports.length)] (.bool (mx g p)) := by
  obtain ⟨f1, f2, f3, f4, f5, f6, f7⟩ := val_facts hg
  have hlt := nb_lt p (k := g.ports.length) (by omega)
  have h1 := neighbours_ok g hs _ hlt
  have h2 := all_ok g hg
  rw [nbrs_valid hg] at h1
  rw [← f3] at h2
  have hd := bit_andNot (nb_lt (fun _ => true) (k := g.ports.length) (by omega)) hlt
  rw [nb_ndiff _ _ (by omega)] at hd
  have hi : nb (nbr g (nb p g.ports.length)) g.ports.length = nb (fun i => true && !p i) g.ports.length ↔ ∀ v, v < g.ports.length → nbr g (nb p g.ports.length) v = !p v := by
    rw [nb_inj]; simp
  refine ret_frz rfl ?_
  refine fn_rule mixed Try.func56 rfl hc56 hr56 rfl ?_
  repeat' ((conv => whnf); first
      | (refine Br.tt ?_)
      | (refine Br.ff ?_)
      | (refine Br.dec (fun _ => ?_) (fun _ => ?_) <;> first | (exfalso; omega) | skip)
      | (refine Br.beq (fun _ => ?_) (fun _ => ?_) <;> first | (exfalso; omega) | skip)
      | (refine Br.bne (fun _ => ?_) (fun _ => ?_) <;> first | (exfalso; omega) | skip)
      | (refine Br.nbeq (fun _ => ?_) (fun _ => ?_) <;> first | (exfalso; omega) | skip)
      | (refine Br.nble (fun _ => ?_) (fun _ => ?_) <;> first | (exfalso; omega) | skip)
      | (refine Ar.i64 (by omega) (by omega) ?_)
      | (refine Ar.u32 (by omega) (by omega) ?_)
      | (refine Ar.sh1 (by omega) ?_)
      | (refine Ar.u64 (by omega) (by omega) ?_)
      | (refine Sv.mk _ rfl ?_)
      | (refine Nz.mk (by omega) ?_)
      | (refine Nn.mk (by omega) ?_)
      | (refine Ix.nat (by omega) ?_)
      | (refine Ix.ofNat (by omega) ?_)
      | (refine Ix.mk 0 rfl (by omega) ?_)
      | (refine Ix.mk 1 rfl (by omega) ?_)
      | (refine Ix.int (by omega) (by omega) ?_)
      | (refine Bd.nat (by omega) ?_)
      | (refine Bd.mk 0 rfl (by omega) ?_)
      | (refine Bd.mk 1 rfl (by omega) ?_)
      | (refine Bd.int (by omega) (by omega) ?_)
      | (refine Len.mk (by omega) ?_)
      | (refine Len.mk (by simp only [List.length_cons, List.length_nil]; omega) ?_)
      | (refine Ltn.mk (by omega) ?_)
      | (refine Both.mk ?_ ?_)
      | (refine MkS.vec ?_)
      | (refine (h1 _ _).mono ?_; rintro _ _ _ ⟨rfl, rfl, rfl⟩)
      | (refine (h2 _ _).mono ?_; rintro _ _ _ ⟨rfl, rfl, rfl⟩)
      | (refine And.intro rfl ?_)
      | (refine Br.any (fun _ => ?_) (fun _ => ?_)))
  all_goals (conv => whnf)
  · rename_i hh
    rw [hd] at hh
    exact VLe.bool (by rw [mx, decide_eq_true (hi.1 (by omega))])
  · rename_i hh
    rw [hd] at hh
    exact VLe.bool (by rw [mx, decide_eq_false (fun h => hh (by rw [hi.2 h]))])

def G.indep (g : G) (s : Nat) : Bool := g.valid && decide (ndiff s (full g.ports.length) = 0 ∧ g.nbrs s &&& s = 0)
theorem independent_ok (g : G) (hs : g.Small) (s : Nat) (hlt : s < 4294967296) : Ret Try.prog 12 [g.v, .int .u32 s] (.bool (g.indep s)) := by
  have hval := rvalid_ok g hs
  have h1 := rneighbours_ok g hs s hlt
  refine ret_frz rfl ?_
  refine fn_rule mixed Try.func12 rfl hc12 hr12 rfl ?_
  rw [G.indep]
  by_cases hg : g.valid = true
  · rw [hg] at hval ⊢
    rw [Bool.true_and]
    obtain ⟨f1, f2, f3, f4, f5, f6, f7⟩ := val_facts hg
    have h2 := rall_ok g.ports.length (by omega)
    have hn : g.nbrs s < 4294967296 := by rw [nbrs_valid hg]; exact nb_lt _ (by omega)
    have hd := bit_andNot hlt (nb_lt (fun _ => true) (k := g.ports.length) (by omega))
    have ha := bit_and hn hlt
    repeat' ((conv => whnf); first
        | (refine Br.tt ?_)
        | (refine Br.ff ?_)
        | (refine Br.dec (fun _ => ?_) (fun _ => ?_) <;> first | (exfalso; omega) | skip)
        | (refine Br.beq (fun _ => ?_) (fun _ => ?_) <;> first | (exfalso; omega) | skip)
        | (refine Br.bne (fun _ => ?_) (fun _ => ?_) <;> first | (exfalso; omega) | skip)
        | (refine Br.nbeq (fun _ => ?_) (fun _ => ?_) <;> first | (exfalso; omega) | skip)
        | (refine Br.nble (fun _ => ?_) (fun _ => ?_) <;> first | (exfalso; omega) | skip)
        | (refine Ar.i64 (by omega) (by omega) ?_)
        | (refine Ar.u32 (by omega) (by omega) ?_)
        | (refine Ar.sh1 (by omega) ?_)
        | (refine Ar.u64 (by omega) (by omega) ?_)
        | (refine Sv.mk _ rfl ?_)
        | (refine Nz.mk (by omega) ?_)
        | (refine Nn.mk (by omega) ?_)
        | (refine Ix.nat (by omega) ?_)
        | (refine Ix.ofNat (by omega) ?_)
        | (refine Ix.mk 0 rfl (by omega) ?_)
        | (refine Ix.mk 1 rfl (by omega) ?_)
        | (refine Ix.int (by omega) (by omega) ?_)
        | (refine Bd.nat (by omega) ?_)
        | (refine Bd.mk 0 rfl (by omega) ?_)
        | (refine Bd.mk 1 rfl (by omega) ?_)
        | (refine Bd.int (by omega) (by omega) ?_)
        | (refine Len.mk (by omega) ?_)
        | (refine Len.mk (by simp only [List.length_cons, List.length_nil]; omega) ?_)
        | (refine Ltn.mk (by omega) ?_)
        | (refine Both.mk ?_ ?_)
        | (refine MkS.vec ?_)
        | (refine (hval _ _).mono ?_; rintro _ _ _ ⟨rfl, rfl, rfl⟩)
        | (refine (h1 _ _).mono ?_; rintro _ _ _ ⟨rfl, rfl, rfl⟩)
        | (refine (h2 _ _).mono ?_; rintro _ _ _ ⟨rfl, rfl, rfl⟩)
        | (refine And.intro rfl ?_)
        | (refine Br.any (fun _ => ?_) (fun _ => ?_)))
    all_goals (conv => whnf)
    · rename_i hh
      rw [hd] at hh
      exact VLe.bool (by rw [decide_eq_false (fun h => hh (by rw [h.1]; rfl))])
    · rename_i h3 hh
      rw [hd] at h3
      rw [ha] at hh
      exact VLe.bool (by rw [decide_eq_true ⟨by unfold full; omega, by omega⟩])
    · rename_i h3 hh
      rw [ha] at hh
      exact VLe.bool (by rw [decide_eq_false (fun h => hh (by rw [h.2]; rfl))])
  · simp only [Bool.not_eq_true] at hg
    rw [hg] at hval ⊢
    rw [Bool.false_and]
    repeat' ((conv => whnf); first
        | (refine Br.tt ?_)
        | (refine Br.ff ?_)
        | (refine Br.dec (fun _ => ?_) (fun _ => ?_) <;> first | (exfalso; omega) | skip)
        | (refine Br.beq (fun _ => ?_) (fun _ => ?_) <;> first | (exfalso; omega) | skip)
        | (refine Br.bne (fun _ => ?_) (fun _ => ?_) <;> first | (exfalso; omega) | skip)
        | (refine Br.nbeq (fun _ => ?_) (fun _ => ?_) <;> first | (exfalso; omega) | skip)
        | (refine Br.nble (fun _ => ?_) (fun _ => ?_) <;> first | (exfalso; omega) | skip)
        | (refine Ar.i64 (by omega) (by omega) ?_)
        | (refine Ar.u32 (by omega) (by omega) ?_)
        | (refine Ar.sh1 (by omega) ?_)
        | (refine Ar.u64 (by omega) (by omega) ?_)
        | (refine Sv.mk _ rfl ?_)
        | (refine Nz.mk (by omega) ?_)
        | (refine Nn.mk (by omega) ?_)
        | (refine Ix.nat (by omega) ?_)
        | (refine Ix.ofNat (by omega) ?_)
        | (refine Ix.mk 0 rfl (by omega) ?_)
        | (refine Ix.mk 1 rfl (by omega) ?_)
        | (refine Ix.int (by omega) (by omega) ?_)
        | (refine Bd.nat (by omega) ?_)
        | (refine Bd.mk 0 rfl (by omega) ?_)
        | (refine Bd.mk 1 rfl (by omega) ?_)
        | (refine Bd.int (by omega) (by omega) ?_)
        | (refine Len.mk (by omega) ?_)
        | (refine Len.mk (by simp only [List.length_cons, List.length_nil]; omega) ?_)
        | (refine Ltn.mk (by omega) ?_)
        | (refine Both.mk ?_ ?_)
        | (refine MkS.vec ?_)
        | (refine (hval _ _).mono ?_; rintro _ _ _ ⟨rfl, rfl, rfl⟩)
        | (refine Br.any (fun _ => ?_) (fun _ => ?_)))
    all_goals (conv => whnf)
    all_goals exact VLe.rfl

theorem rmaximal_ok (g : G) (hs : g.Small) (hg : g.valid = true) (p : Nat → Bool) : Ret Try.prog 62 [g.v, .int .u32 (nb p g.ports.length)] (.bool (mx g p)) := by
  obtain ⟨f1, f2, f3, f4, f5, f6, f7⟩ := val_facts hg
  have hlt := nb_lt p (k := g.ports.length) (by omega)
  have h1 := rneighbours_ok g hs _ hlt
  have h2 := rall_ok g.ports.length (by omega)
  have h3 := independent_ok g hs _ hlt
  rw [nbrs_valid hg] at h1
  have ho := bit_or hlt (nb_lt (nbr g (nb p g.ports.length)) (k := g.ports.length) (by omega))
  rw [nb_or_nb] at ho
  have hi : nb (fun i => p i || nbr g (nb p g.ports.length) i) g.ports.length = full g.ports.length ↔ ∀ v, v < g.ports.length → (p v || nbr g (nb p g.ports.length) v) = true := by
    rw [full, nb_inj]
  have hj : g.indep (nb p g.ports.length) = true ↔ ∀ v, v < g.ports.length → (nbr g (nb p g.ports.length) v && p v) = false := by
    rw [G.indep, hg, Bool.true_and, decide_eq_true_eq, nbrs_valid hg, nb_and_nb, nb_zero_iff, full, nb_ndiff _ _ (by omega), nb_zero_iff]
    simp
  have hk : mx g p = true ↔ (∀ v, v < g.ports.length → (nbr g (nb p g.ports.length) v && p v) = false) ∧ ∀ v, v < g.ports.length → (p v || nbr g (nb p g.ports.length) v) = true := by
    rw [mx, decide_eq_true_eq]
    constructor
    · intro h
      exact ⟨fun v hv => by rw [h v hv]; cases p v <;> rfl, fun v hv => by rw [h v hv]; cases p v <;> rfl⟩
    · rintro ⟨h, h'⟩ v hv
      have a := h v hv
      have b := h' v hv
      cases e : p v <;> cases e' : nbr g (nb p g.ports.length) v <;> simp_all
  refine ret_frz rfl ?_
  refine fn_rule mixed Try.func62 rfl hc62 hr62 rfl ?_
  repeat' ((conv => whnf); first
      | (refine Br.tt ?_)
      | (refine Br.ff ?_)
      | (refine Br.dec (fun _ => ?_) (fun _ => ?_) <;> first | (exfalso; omega) | skip)
      | (refine Br.beq (fun _ => ?_) (fun _ => ?_) <;> first | (exfalso; omega) | skip)
      | (refine Br.bne (fun _ => ?_) (fun _ => ?_) <;> first | (exfalso; omega) | skip)
      | (refine Br.nbeq (fun _ => ?_) (fun _ => ?_) <;> first | (exfalso; omega) | skip)
      | (refine Br.nble (fun _ => ?_) (fun _ => ?_) <;> first | (exfalso; omega) | skip)
      | (refine Ar.i64 (by omega) (by omega) ?_)
      | (refine Ar.u32 (by omega) (by omega) ?_)
      | (refine Ar.sh1 (by omega) ?_)
      | (refine Ar.u64 (by omega) (by omega) ?_)
      | (refine Sv.mk _ rfl ?_)
      | (refine Nz.mk (by omega) ?_)
      | (refine Nn.mk (by omega) ?_)
      | (refine Ix.nat (by omega) ?_)
      | (refine Ix.ofNat (by omega) ?_)
      | (refine Ix.mk 0 rfl (by omega) ?_)
      | (refine Ix.mk 1 rfl (by omega) ?_)
      | (refine Ix.int (by omega) (by omega) ?_)
      | (refine Bd.nat (by omega) ?_)
      | (refine Bd.mk 0 rfl (by omega) ?_)
      | (refine Bd.mk 1 rfl (by omega) ?_)
      | (refine Bd.int (by omega) (by omega) ?_)
      | (refine Len.mk (by omega) ?_)
      | (refine Len.mk (by simp only [List.length_cons, List.length_nil]; omega) ?_)
      | (refine Ltn.mk (by omega) ?_)
      | (refine Both.mk ?_ ?_)
      | (refine MkS.vec ?_)
      | (refine (h1 _ _).mono ?_; rintro _ _ _ ⟨rfl, rfl, rfl⟩)
      | (refine (h2 _ _).mono ?_; rintro _ _ _ ⟨rfl, rfl, rfl⟩)
      | (refine (h3 _ _).mono ?_; rintro _ _ _ ⟨rfl, rfl, rfl⟩)
      | (refine And.intro rfl ?_)
      | (refine Br.any (fun _ => ?_) (fun _ => ?_)))
  all_goals (conv => whnf)
  · rename_i h4 hh
    rw [ho] at hh
    exact VLe.bool (hk.2 ⟨hj.1 h4, hi.1 (by omega)⟩).symm
  · rename_i h4 hh
    rw [ho] at hh
    exact VLe.bool (by
      cases e : mx g p with
      | false => rfl
      | true => exact absurd (congrArg Int.ofNat (hi.2 (hk.1 e).2)) hh)
  · rename_i h4
    exact VLe.bool (by
      cases e : mx g p with
      | false => rfl
      | true => have := hj.2 (hk.1 e).1; rw [h4] at this; exact this)

/-! ## configurations -/

theorem iconfiguration_ok (g : G) (hs : g.Small) (c : Cf) (hc : CSmall c) (gs : List Int) (hgs : gs.length ≤ 1000) : Ret Try.prog 51 [g.v, cV c, .fz gs.length 1 false (vI gs)] (.bool (g.valid && conf g.ids.length gs.length (bG g gs) c)) := by
  have hval : Ret Try.prog 28 [g.v] (.bool g.valid) := by
    have h := valid_ok g hs
    refine ret_frz rfl ?_
    refine fn_rule mixed Try.func28 rfl hc28 hr28 rfl ?_
    repeat' ((conv => whnf); first
        | (refine Br.tt ?_)
        | (refine Br.ff ?_)
        | (refine Br.dec (fun _ => ?_) (fun _ => ?_) <;> first | (exfalso; omega) | skip)
        | (refine Br.beq (fun _ => ?_) (fun _ => ?_) <;> first | (exfalso; omega) | skip)
        | (refine Br.bne (fun _ => ?_) (fun _ => ?_) <;> first | (exfalso; omega) | skip)
        | (refine Br.nbeq (fun _ => ?_) (fun _ => ?_) <;> first | (exfalso; omega) | skip)
        | (refine Br.nble (fun _ => ?_) (fun _ => ?_) <;> first | (exfalso; omega) | skip)
        | (refine Ar.i64 (by omega) (by omega) ?_)
        | (refine Ar.u32 (by omega) (by omega) ?_)
        | (refine Ar.sh1 (by omega) ?_)
        | (refine Ar.u64 (by omega) (by omega) ?_)
        | (refine Sv.mk _ rfl ?_)
        | (refine Nz.mk (by omega) ?_)
        | (refine Nn.mk (by omega) ?_)
        | (refine Ix.nat (by omega) ?_)
        | (refine Ix.ofNat (by omega) ?_)
        | (refine Ix.mk 0 rfl (by omega) ?_)
        | (refine Ix.mk 1 rfl (by omega) ?_)
        | (refine Ix.int (by omega) (by omega) ?_)
        | (refine Bd.nat (by omega) ?_)
        | (refine Bd.mk 0 rfl (by omega) ?_)
        | (refine Bd.mk 1 rfl (by omega) ?_)
        | (refine Bd.int (by omega) (by omega) ?_)
        | (refine Len.mk (by omega) ?_)
        | (refine Len.mk (by simp only [List.length_cons, List.length_nil]; omega) ?_)
        | (refine Ltn.mk (by omega) ?_)
        | (refine Both.mk ?_ ?_)
        | (refine MkS.vec ?_)
        | (refine (h _ _).mono ?_; rintro _ _ _ ⟨rfl, rfl, rfl⟩)
        | (refine Br.any (fun _ => ?_) (fun _ => ?_)))
    all_goals (conv => whnf)
    all_goals exact VLe.bool (Eq.symm (by assumption))
  refine ret_frz rfl ?_
  refine fn_rule mixed Try.func51 rfl hc51 hr51 rfl ?_
  by_cases hg : g.valid = true
  · rw [hg] at hval ⊢
    rw [Bool.true_and]
    obtain ⟨f1, f2, f3, f4, f5, f6, f7⟩ := val_facts hg
    have hb := bconf_ok g hs f3 c hc gs hgs
    repeat' ((conv => whnf); first
        | (refine Br.tt ?_)
        | (refine Br.ff ?_)
        | (refine Br.dec (fun _ => ?_) (fun _ => ?_) <;> first | (exfalso; omega) | skip)
        | (refine Br.beq (fun _ => ?_) (fun _ => ?_) <;> first | (exfalso; omega) | skip)
        | (refine Br.bne (fun _ => ?_) (fun _ => ?_) <;> first | (exfalso; omega) | skip)
        | (refine Br.nbeq (fun _ => ?_) (fun _ => ?_) <;> first | (exfalso; omega) | skip)
        | (refine Br.nble (fun _ => ?_) (fun _ => ?_) <;> first | (exfalso; omega) | skip)
        | (refine Ar.i64 (by omega) (by omega) ?_)
        | (refine Ar.u32 (by omega) (by omega) ?_)
        | (refine Ar.sh1 (by omega) ?_)
        | (refine Ar.u64 (by omega) (by omega) ?_)
        | (refine Sv.mk _ rfl ?_)
        | (refine Nz.mk (by omega) ?_)
        | (refine Nn.mk (by omega) ?_)
        | (refine Ix.nat (by omega) ?_)
        | (refine Ix.ofNat (by omega) ?_)
        | (refine Ix.mk 0 rfl (by omega) ?_)
        | (refine Ix.mk 1 rfl (by omega) ?_)
        | (refine Ix.int (by omega) (by omega) ?_)
        | (refine Bd.nat (by omega) ?_)
        | (refine Bd.mk 0 rfl (by omega) ?_)
        | (refine Bd.mk 1 rfl (by omega) ?_)
        | (refine Bd.int (by omega) (by omega) ?_)
        | (refine Len.mk (by omega) ?_)
        | (refine Len.mk (by simp only [List.length_cons, List.length_nil]; omega) ?_)
        | (refine Ltn.mk (by omega) ?_)
        | (refine Both.mk ?_ ?_)
        | (refine MkS.vec ?_)
        | (refine (hval _ _).mono ?_; rintro _ _ _ ⟨rfl, rfl, rfl⟩)
        | (refine (hb _ _).mono ?_; rintro _ _ _ ⟨rfl, rfl, rfl⟩)
        | (refine Br.any (fun _ => ?_) (fun _ => ?_)))
    all_goals (conv => whnf)
    all_goals exact VLe.bool (Eq.symm (by assumption))
  · simp only [Bool.not_eq_true] at hg
    rw [hg] at hval ⊢
    rw [Bool.false_and]
    repeat' ((conv => whnf); first
        | (refine Br.tt ?_)
        | (refine Br.ff ?_)
        | (refine Br.dec (fun _ => ?_) (fun _ => ?_) <;> first | (exfalso; omega) | skip)
        | (refine Br.beq (fun _ => ?_) (fun _ => ?_) <;> first | (exfalso; omega) | skip)
        | (refine Br.bne (fun _ => ?_) (fun _ => ?_) <;> first | (exfalso; omega) | skip)
        | (refine Br.nbeq (fun _ => ?_) (fun _ => ?_) <;> first | (exfalso; omega) | skip)
        | (refine Br.nble (fun _ => ?_) (fun _ => ?_) <;> first | (exfalso; omega) | skip)
        | (refine Ar.i64 (by omega) (by omega) ?_)
        | (refine Ar.u32 (by omega) (by omega) ?_)
        | (refine Ar.sh1 (by omega) ?_)
        | (refine Ar.u64 (by omega) (by omega) ?_)
        | (refine Sv.mk _ rfl ?_)
        | (refine Nz.mk (by omega) ?_)
        | (refine Nn.mk (by omega) ?_)
        | (refine Ix.nat (by omega) ?_)
        | (refine Ix.ofNat (by omega) ?_)
        | (refine Ix.mk 0 rfl (by omega) ?_)
        | (refine Ix.mk 1 rfl (by omega) ?_)
        | (refine Ix.int (by omega) (by omega) ?_)
        | (refine Bd.nat (by omega) ?_)
        | (refine Bd.mk 0 rfl (by omega) ?_)
        | (refine Bd.mk 1 rfl (by omega) ?_)
        | (refine Bd.int (by omega) (by omega) ?_)
        | (refine Len.mk (by omega) ?_)
        | (refine Len.mk (by simp only [List.length_cons, List.length_nil]; omega) ?_)
        | (refine Ltn.mk (by omega) ?_)
        | (refine Both.mk ?_ ?_)
        | (refine MkS.vec ?_)
        | (refine (hval _ _).mono ?_; rintro _ _ _ ⟨rfl, rfl, rfl⟩)
        | (refine Br.any (fun _ => ?_) (fun _ => ?_)))
    all_goals (conv => whnf)
    all_goals exact VLe.rfl

theorem ifit_ok (g : G) (hs : g.Small) : Ret Try.prog 28 [g.v] (.bool g.valid) := by
  have h := valid_ok g hs
  refine ret_frz rfl ?_
  refine fn_rule mixed Try.func28 rfl hc28 hr28 rfl ?_
  repeat' ((conv => whnf); first
      | (refine Br.tt ?_)
      | (refine Br.ff ?_)
      | (refine Br.dec (fun _ => ?_) (fun _ => ?_) <;> first | (exfalso; omega) | skip)
      | (refine Br.beq (fun _ => ?_) (fun _ => ?_) <;> first | (exfalso; omega) | skip)
      | (refine Br.bne (fun _ => ?_) (fun _ => ?_) <;> first | (exfalso; omega) | skip)
      | (refine Br.nbeq (fun _ => ?_) (fun _ => ?_) <;> first | (exfalso; omega) | skip)
      | (refine Br.nble (fun _ => ?_) (fun _ => ?_) <;> first | (exfalso; omega) | skip)
      | (refine Ar.i64 (by omega) (by omega) ?_)
      | (refine Ar.u32 (by omega) (by omega) ?_)
      | (refine Ar.sh1 (by omega) ?_)
      | (refine Ar.u64 (by omega) (by omega) ?_)
      | (refine Sv.mk _ rfl ?_)
      | (refine Nz.mk (by omega) ?_)
      | (refine Nn.mk (by omega) ?_)
      | (refine Ix.nat (by omega) ?_)
      | (refine Ix.ofNat (by omega) ?_)
      | (refine Ix.mk 0 rfl (by omega) ?_)
      | (refine Ix.mk 1 rfl (by omega) ?_)
      | (refine Ix.int (by omega) (by omega) ?_)
      | (refine Bd.nat (by omega) ?_)
      | (refine Bd.mk 0 rfl (by omega) ?_)
      | (refine Bd.mk 1 rfl (by omega) ?_)
      | (refine Bd.int (by omega) (by omega) ?_)
      | (refine Len.mk (by omega) ?_)
      | (refine Len.mk (by simp only [List.length_cons, List.length_nil]; omega) ?_)
      | (refine Ltn.mk (by omega) ?_)
      | (refine Both.mk ?_ ?_)
      | (refine MkS.vec ?_)
      | (refine (h _ _).mono ?_; rintro _ _ _ ⟨rfl, rfl, rfl⟩)
      | (refine Br.any (fun _ => ?_) (fun _ => ?_)))
  all_goals (conv => whnf)
  all_goals exact VLe.bool (Eq.symm (by assumption))
theorem rifit_ok (g : G) (hs : g.Small) : Ret Try.prog 29 [g.v] (.bool g.valid) := by
  have h := rvalid_ok g hs
  refine ret_frz rfl ?_
  refine fn_rule mixed Try.func29 rfl hc29 hr29 rfl ?_
  repeat' ((conv => whnf); first
      | (refine Br.tt ?_)
      | (refine Br.ff ?_)
      | (refine Br.dec (fun _ => ?_) (fun _ => ?_) <;> first | (exfalso; omega) | skip)
      | (refine Br.beq (fun _ => ?_) (fun _ => ?_) <;> first | (exfalso; omega) | skip)
      | (refine Br.bne (fun _ => ?_) (fun _ => ?_) <;> first | (exfalso; omega) | skip)
      | (refine Br.nbeq (fun _ => ?_) (fun _ => ?_) <;> first | (exfalso; omega) | skip)
      | (refine Br.nble (fun _ => ?_) (fun _ => ?_) <;> first | (exfalso; omega) | skip)
      | (refine Ar.i64 (by omega) (by omega) ?_)
      | (refine Ar.u32 (by omega) (by omega) ?_)
      | (refine Ar.sh1 (by omega) ?_)
      | (refine Ar.u64 (by omega) (by omega) ?_)
      | (refine Sv.mk _ rfl ?_)
      | (refine Nz.mk (by omega) ?_)
      | (refine Nn.mk (by omega) ?_)
      | (refine Ix.nat (by omega) ?_)
      | (refine Ix.ofNat (by omega) ?_)
      | (refine Ix.mk 0 rfl (by omega) ?_)
      | (refine Ix.mk 1 rfl (by omega) ?_)
      | (refine Ix.int (by omega) (by omega) ?_)
      | (refine Bd.nat (by omega) ?_)
      | (refine Bd.mk 0 rfl (by omega) ?_)
      | (refine Bd.mk 1 rfl (by omega) ?_)
      | (refine Bd.int (by omega) (by omega) ?_)
      | (refine Len.mk (by omega) ?_)
      | (refine Len.mk (by simp only [List.length_cons, List.length_nil]; omega) ?_)
      | (refine Ltn.mk (by omega) ?_)
      | (refine Both.mk ?_ ?_)
      | (refine MkS.vec ?_)
      | (refine (h _ _).mono ?_; rintro _ _ _ ⟨rfl, rfl, rfl⟩)
      | (refine Br.any (fun _ => ?_) (fun _ => ?_)))
  all_goals (conv => whnf)
  all_goals exact VLe.bool (Eq.symm (by assumption))

def vM : List Vr := [⟨ByteArray.mk #[109], 2, 0, 0, 0, 0⟩]
theorem truth_ok (s : ByteArray) : Ret Try.prog 50 [.str s] (.agg [.str s, .int .i64 2, .int .i64 0, .int .i64 0, .int .i64 0, .int .i64 0]) := by
  refine ret_frz rfl ?_
  refine fn_rule mixed Try.func50 rfl hc50 hr50 rfl ?_
  repeat' ((conv => whnf); first
      | (refine Br.tt ?_)
      | (refine Br.ff ?_)
      | (refine Br.dec (fun _ => ?_) (fun _ => ?_) <;> first | (exfalso; omega) | skip)
      | (refine Br.beq (fun _ => ?_) (fun _ => ?_) <;> first | (exfalso; omega) | skip)
      | (refine Br.bne (fun _ => ?_) (fun _ => ?_) <;> first | (exfalso; omega) | skip)
      | (refine Br.nbeq (fun _ => ?_) (fun _ => ?_) <;> first | (exfalso; omega) | skip)
      | (refine Br.nble (fun _ => ?_) (fun _ => ?_) <;> first | (exfalso; omega) | skip)
      | (refine Ar.i64 (by omega) (by omega) ?_)
      | (refine Ar.u32 (by omega) (by omega) ?_)
      | (refine Ar.sh1 (by omega) ?_)
      | (refine Ar.u64 (by omega) (by omega) ?_)
      | (refine Sv.mk _ rfl ?_)
      | (refine Nz.mk (by omega) ?_)
      | (refine Nn.mk (by omega) ?_)
      | (refine Ix.nat (by omega) ?_)
      | (refine Ix.ofNat (by omega) ?_)
      | (refine Ix.mk 0 rfl (by omega) ?_)
      | (refine Ix.mk 1 rfl (by omega) ?_)
      | (refine Ix.int (by omega) (by omega) ?_)
      | (refine Bd.nat (by omega) ?_)
      | (refine Bd.mk 0 rfl (by omega) ?_)
      | (refine Bd.mk 1 rfl (by omega) ?_)
      | (refine Bd.int (by omega) (by omega) ?_)
      | (refine Len.mk (by omega) ?_)
      | (refine Len.mk (by simp only [List.length_cons, List.length_nil]; omega) ?_)
      | (refine Ltn.mk (by omega) ?_)
      | (refine Both.mk ?_ ?_)
      | (refine MkS.vec ?_)
      | (refine Br.any (fun _ => ?_) (fun _ => ?_)))
  all_goals (conv => whnf)
  all_goals exact VLe.rfl
theorem ivars_ok : Ret Try.prog 9 [] (.fz vM.length 6 false (vV vM)) := by
  refine ret_frz rfl ?_
  refine fn_rule mixed Try.func9 rfl hc9 hr9 rfl ?_
  repeat' ((conv => whnf); first
      | (refine Br.tt ?_)
      | (refine Br.ff ?_)
      | (refine Br.dec (fun _ => ?_) (fun _ => ?_) <;> first | (exfalso; omega) | skip)
      | (refine Br.beq (fun _ => ?_) (fun _ => ?_) <;> first | (exfalso; omega) | skip)
      | (refine Br.bne (fun _ => ?_) (fun _ => ?_) <;> first | (exfalso; omega) | skip)
      | (refine Br.nbeq (fun _ => ?_) (fun _ => ?_) <;> first | (exfalso; omega) | skip)
      | (refine Br.nble (fun _ => ?_) (fun _ => ?_) <;> first | (exfalso; omega) | skip)
      | (refine Ar.i64 (by omega) (by omega) ?_)
      | (refine Ar.u32 (by omega) (by omega) ?_)
      | (refine Ar.sh1 (by omega) ?_)
      | (refine Ar.u64 (by omega) (by omega) ?_)
      | (refine Sv.mk _ rfl ?_)
      | (refine Nz.mk (by omega) ?_)
      | (refine Nn.mk (by omega) ?_)
      | (refine Ix.nat (by omega) ?_)
      | (refine Ix.ofNat (by omega) ?_)
      | (refine Ix.mk 0 rfl (by omega) ?_)
      | (refine Ix.mk 1 rfl (by omega) ?_)
      | (refine Ix.int (by omega) (by omega) ?_)
      | (refine Bd.nat (by omega) ?_)
      | (refine Bd.mk 0 rfl (by omega) ?_)
      | (refine Bd.mk 1 rfl (by omega) ?_)
      | (refine Bd.int (by omega) (by omega) ?_)
      | (refine Len.mk (by omega) ?_)
      | (refine Len.mk (by simp only [List.length_cons, List.length_nil]; omega) ?_)
      | (refine Ltn.mk (by omega) ?_)
      | (refine Both.mk ?_ ?_)
      | (refine MkS.vec ?_)
      | (refine (truth_ok _ _ _).mono ?_; rintro _ _ _ ⟨rfl, rfl, rfl⟩)
      | (refine Br.any (fun _ => ?_) (fun _ => ?_)))
  all_goals (conv => whnf)
  refine VLe.fz rfl (fun h => h) (fun i j hi hj => ?_)
  have e : i = 0 := by omega
  subst e
  rcases j with _ | _ | _ | _ | _ | _ | j
  all_goals first | (exfalso; omega) | exact VLe.rfl
theorem vM_ok : VOk vM := ⟨by decide, fun x => by
  cases x with
  | zero => exact ⟨by decide, by decide, by decide, by decide, by decide, by decide⟩
  | succ x => exact ⟨by simp [gV, vM, default], by simp [gV, vM, default], by simp [gV, vM, default], by simp [gV, vM, default], by simp [gV, vM, default], by simp [gV, vM, default]⟩⟩

def b01 (v x : Nat) : Int × Int := (0, 1)
def G.iconf (g : G) (c : Cf) : Bool := conf g.ids.length 1 b01 c
theorem iconf_g (g : G) (c : Cf) : conf g.ids.length [(1 : Int)].length (bG g [1]) c = g.iconf c := conf_ext (fun v x hv hx => by
  have e : x = 0 := by simp at hx; omega
  subst e
  rfl)
theorem iconf_v (g : G) (hg : g.valid = true) (c : Cf) : (g.valid && conf g.ports.length vM.length (bV g vM) c) = g.iconf c := by
  obtain ⟨f1, f2, f3, f4, f5, f6, f7⟩ := val_facts hg
  rw [hg, Bool.true_and, f3]
  refine conf_ext (fun v x hv hx => ?_)
  have e : x = 0 := by simp [vM] at hx; omega
  subst e
  rfl
theorem iconf_facts {g : G} {c : Cf} (h : g.iconf c = true) : c.length = g.ids.length ∧ ∀ v, v < c.length → 0 < (gC c v).length ∧ 0 ≤ gI (gC c v) 0 ∧ gI (gC c v) 0 ≤ 1 := by
  have := conf_iff.1 h
  refine ⟨this.1, fun v hv => ?_⟩
  have h2 := this.2 v (by omega)
  have h3 := h2.2 0 (by omega)
  simp only [b01] at h3
  omega

def G.ilegit (g : G) (c : Cf) : Bool := g.valid && g.iconf c && mx g (one c 0)
def G.imem (g : G) (c : Cf) : Nat := if g.valid && g.iconf c then nb (one c 0) c.length else 0
def G.iclaim (g : G) : V := if g.valid then .agg [.int .i64 2, .bool false, .bool true, .int .i64 2, .int .i64 (2 * (g.ids.length : Int))] else .agg [.int .i64 0, .bool false, .bool false, .int .i64 0, .int .i64 0]

theorem iconfiguration1_ok (g : G) (hs : g.Small) (c : Cf) (hc : CSmall c) : Ret Try.prog 51 [g.v, cV c, .fz 1 1 false (vI [1])] (.bool (g.valid && g.iconf c)) := by
  have := iconfiguration_ok g hs c hc [1] (by decide)
  rw [iconf_g] at this
  exact this

theorem ilegit_ok (g : G) (hs : g.Small) (c : Cf) (hc : CSmall c) : Ret Try.prog 16 [g.v, cV c] (.bool (g.ilegit c)) := by
  have h1 := iconfiguration1_ok g hs c hc
  refine ret_frz rfl ?_
  refine fn_rule mixed Try.func16 rfl hc16 hr16 rfl ?_
  rw [G.ilegit]
  by_cases hg : (g.valid && g.iconf c) = true
  · rw [hg] at h1 ⊢
    rw [Bool.true_and]
    rw [Bool.and_eq_true] at hg
    obtain ⟨f1, f2, f3, f4, f5, f6, f7⟩ := val_facts hg.1
    obtain ⟨e1, e2⟩ := iconf_facts hg.2
    have h2 := true_ok c 0 (by omega) e2
    have h3 := maximal_ok g hs hg.1 (one c 0)
    rw [show c.length = g.ports.length by omega] at h2
    repeat' ((conv => whnf); first
        | (refine Br.tt ?_)
        | (refine Br.ff ?_)
        | (refine Br.dec (fun _ => ?_) (fun _ => ?_) <;> first | (exfalso; omega) | skip)
        | (refine Br.beq (fun _ => ?_) (fun _ => ?_) <;> first | (exfalso; omega) | skip)
        | (refine Br.bne (fun _ => ?_) (fun _ => ?_) <;> first | (exfalso; omega) | skip)
        | (refine Br.nbeq (fun _ => ?_) (fun _ => ?_) <;> first | (exfalso; omega) | skip)
        | (refine Br.nble (fun _ => ?_) (fun _ => ?_) <;> first | (exfalso; omega) | skip)
        | (refine Ar.i64 (by omega) (by omega) ?_)
        | (refine Ar.u32 (by omega) (by omega) ?_)
        | (refine Ar.sh1 (by omega) ?_)
        | (refine Ar.u64 (by omega) (by omega) ?_)
        | (refine Sv.mk _ rfl ?_)
        | (refine Nz.mk (by omega) ?_)
        | (refine Nn.mk (by omega) ?_)
        | (refine Ix.nat (by omega) ?_)
        | (refine Ix.ofNat (by omega) ?_)
        | (refine Ix.mk 0 rfl (by omega) ?_)
        | (refine Ix.mk 1 rfl (by omega) ?_)
        | (refine Ix.int (by omega) (by omega) ?_)
        | (refine Bd.nat (by omega) ?_)
        | (refine Bd.mk 0 rfl (by omega) ?_)
        | (refine Bd.mk 1 rfl (by omega) ?_)
        | (refine Bd.int (by omega) (by omega) ?_)
        | (refine Len.mk (by omega) ?_)
        | (refine Len.mk (by simp only [List.length_cons, List.length_nil]; omega) ?_)
        | (refine Ltn.mk (by omega) ?_)
        | (refine Both.mk ?_ ?_)
        | (refine MkS.vec ?_)
        | (refine call_frz [1] h1 ⟨by decide, VLe.rfl, VLe.rfl, VLe.fz rfl (fun h => h) (one_le _ _ rfl), True.intro⟩ ?_)
        | (refine (h2 _ _).mono ?_; rintro _ _ _ ⟨rfl, rfl, rfl⟩)
        | (refine (h3 _ _).mono ?_; rintro _ _ _ ⟨rfl, rfl, rfl⟩)
        | (refine And.intro rfl ?_)
        | (refine Br.any (fun _ => ?_) (fun _ => ?_)))
    all_goals (conv => whnf)
    all_goals exact VLe.bool (by rw [mx]; symm; first | exact decide_eq_true (by assumption) | exact decide_eq_false (by assumption))
  · simp only [Bool.not_eq_true] at hg
    rw [hg] at h1 ⊢
    rw [Bool.false_and]
    repeat' ((conv => whnf); first
        | (refine Br.tt ?_)
        | (refine Br.ff ?_)
        | (refine Br.dec (fun _ => ?_) (fun _ => ?_) <;> first | (exfalso; omega) | skip)
        | (refine Br.beq (fun _ => ?_) (fun _ => ?_) <;> first | (exfalso; omega) | skip)
        | (refine Br.bne (fun _ => ?_) (fun _ => ?_) <;> first | (exfalso; omega) | skip)
        | (refine Br.nbeq (fun _ => ?_) (fun _ => ?_) <;> first | (exfalso; omega) | skip)
        | (refine Br.nble (fun _ => ?_) (fun _ => ?_) <;> first | (exfalso; omega) | skip)
        | (refine Ar.i64 (by omega) (by omega) ?_)
        | (refine Ar.u32 (by omega) (by omega) ?_)
        | (refine Ar.sh1 (by omega) ?_)
        | (refine Ar.u64 (by omega) (by omega) ?_)
        | (refine Sv.mk _ rfl ?_)
        | (refine Nz.mk (by omega) ?_)
        | (refine Nn.mk (by omega) ?_)
        | (refine Ix.nat (by omega) ?_)
        | (refine Ix.ofNat (by omega) ?_)
        | (refine Ix.mk 0 rfl (by omega) ?_)
        | (refine Ix.mk 1 rfl (by omega) ?_)
        | (refine Ix.int (by omega) (by omega) ?_)
        | (refine Bd.nat (by omega) ?_)
        | (refine Bd.mk 0 rfl (by omega) ?_)
        | (refine Bd.mk 1 rfl (by omega) ?_)
        | (refine Bd.int (by omega) (by omega) ?_)
        | (refine Len.mk (by omega) ?_)
        | (refine Len.mk (by simp only [List.length_cons, List.length_nil]; omega) ?_)
        | (refine Ltn.mk (by omega) ?_)
        | (refine Both.mk ?_ ?_)
        | (refine MkS.vec ?_)
        | (refine call_frz [1] h1 ⟨by decide, VLe.rfl, VLe.rfl, VLe.fz rfl (fun h => h) (one_le _ _ rfl), True.intro⟩ ?_)
        | (refine Br.any (fun _ => ?_) (fun _ => ?_)))
    all_goals (conv => whnf)
    all_goals exact VLe.rfl

theorem rilegit_ok (g : G) (hs : g.Small) (c : Cf) (hc : CSmall c) : Ret Try.prog 30 [g.v, cV c] (.bool (g.ilegit c)) := by
  have h0 := rifit_ok g hs
  have h1 := rconf_ok g hs c hc vM vM_ok
  refine ret_frz rfl ?_
  refine fn_rule mixed Try.func30 rfl hc30 hr30 rfl ?_
  rw [G.ilegit]
  by_cases hv : g.valid = true
  · rw [iconf_v g hv] at h1
    rw [hv] at h0 ⊢
    rw [Bool.true_and]
    by_cases hg : g.iconf c = true
    · rw [hg] at h1 ⊢
      rw [Bool.true_and]
      obtain ⟨f1, f2, f3, f4, f5, f6, f7⟩ := val_facts hv
      obtain ⟨e1, e2⟩ := iconf_facts hg
      have h2 := ones_ok c 0 (by omega) (fun v hv => (e2 v hv).1)
      have h3 := rmaximal_ok g hs hv (one c 0)
      rw [show c.length = g.ports.length by omega] at h2
      repeat' ((conv => whnf); first
          | (refine Br.tt ?_)
          | (refine Br.ff ?_)
          | (refine Br.dec (fun _ => ?_) (fun _ => ?_) <;> first | (exfalso; omega) | skip)
          | (refine Br.beq (fun _ => ?_) (fun _ => ?_) <;> first | (exfalso; omega) | skip)
          | (refine Br.bne (fun _ => ?_) (fun _ => ?_) <;> first | (exfalso; omega) | skip)
          | (refine Br.nbeq (fun _ => ?_) (fun _ => ?_) <;> first | (exfalso; omega) | skip)
          | (refine Br.nble (fun _ => ?_) (fun _ => ?_) <;> first | (exfalso; omega) | skip)
          | (refine Ar.i64 (by omega) (by omega) ?_)
          | (refine Ar.u32 (by omega) (by omega) ?_)
          | (refine Ar.sh1 (by omega) ?_)
          | (refine Ar.u64 (by omega) (by omega) ?_)
          | (refine Sv.mk _ rfl ?_)
          | (refine Nz.mk (by omega) ?_)
          | (refine Nn.mk (by omega) ?_)
          | (refine Ix.nat (by omega) ?_)
          | (refine Ix.ofNat (by omega) ?_)
          | (refine Ix.mk 0 rfl (by omega) ?_)
          | (refine Ix.mk 1 rfl (by omega) ?_)
          | (refine Ix.int (by omega) (by omega) ?_)
          | (refine Bd.nat (by omega) ?_)
          | (refine Bd.mk 0 rfl (by omega) ?_)
          | (refine Bd.mk 1 rfl (by omega) ?_)
          | (refine Bd.int (by omega) (by omega) ?_)
          | (refine Len.mk (by omega) ?_)
          | (refine Len.mk (by simp only [List.length_cons, List.length_nil]; omega) ?_)
          | (refine Ltn.mk (by omega) ?_)
          | (refine Both.mk ?_ ?_)
          | (refine MkS.vec ?_)
          | (refine (h0 _ _).mono ?_; rintro _ _ _ ⟨rfl, rfl, rfl⟩)
          | (refine (ivars_ok _ _).mono ?_; rintro _ _ _ ⟨rfl, rfl, rfl⟩)
          | (refine (h1 _ _).mono ?_; rintro _ _ _ ⟨rfl, rfl, rfl⟩)
          | (refine (h2 _ _).mono ?_; rintro _ _ _ ⟨rfl, rfl, rfl⟩)
          | (refine (h3 _ _).mono ?_; rintro _ _ _ ⟨rfl, rfl, rfl⟩)
          | (refine And.intro rfl ?_)
          | (refine Br.any (fun _ => ?_) (fun _ => ?_)))
      all_goals (conv => whnf)
      all_goals exact VLe.bool (by rw [mx]; symm; first | exact decide_eq_true (by assumption) | exact decide_eq_false (by assumption))
    · simp only [Bool.not_eq_true] at hg
      rw [hg] at h1 ⊢
      rw [Bool.false_and]
      repeat' ((conv => whnf); first
          | (refine Br.tt ?_)
          | (refine Br.ff ?_)
          | (refine Br.dec (fun _ => ?_) (fun _ => ?_) <;> first | (exfalso; omega) | skip)
          | (refine Br.beq (fun _ => ?_) (fun _ => ?_) <;> first | (exfalso; omega) | skip)
          | (refine Br.bne (fun _ => ?_) (fun _ => ?_) <;> first | (exfalso; omega) | skip)
          | (refine Br.nbeq (fun _ => ?_) (fun _ => ?_) <;> first | (exfalso; omega) | skip)
          | (refine Br.nble (fun _ => ?_) (fun _ => ?_) <;> first | (exfalso; omega) | skip)
          | (refine Ar.i64 (by omega) (by omega) ?_)
          | (refine Ar.u32 (by omega) (by omega) ?_)
          | (refine Ar.sh1 (by omega) ?_)
          | (refine Ar.u64 (by omega) (by omega) ?_)
          | (refine Sv.mk _ rfl ?_)
          | (refine Nz.mk (by omega) ?_)
          | (refine Nn.mk (by omega) ?_)
          | (refine Ix.nat (by omega) ?_)
          | (refine Ix.ofNat (by omega) ?_)
          | (refine Ix.mk 0 rfl (by omega) ?_)
          | (refine Ix.mk 1 rfl (by omega) ?_)
          | (refine Ix.int (by omega) (by omega) ?_)
          | (refine Bd.nat (by omega) ?_)
          | (refine Bd.mk 0 rfl (by omega) ?_)
          | (refine Bd.mk 1 rfl (by omega) ?_)
          | (refine Bd.int (by omega) (by omega) ?_)
          | (refine Len.mk (by omega) ?_)
          | (refine Len.mk (by simp only [List.length_cons, List.length_nil]; omega) ?_)
          | (refine Ltn.mk (by omega) ?_)
          | (refine Both.mk ?_ ?_)
          | (refine MkS.vec ?_)
          | (refine (h0 _ _).mono ?_; rintro _ _ _ ⟨rfl, rfl, rfl⟩)
          | (refine (ivars_ok _ _).mono ?_; rintro _ _ _ ⟨rfl, rfl, rfl⟩)
          | (refine (h1 _ _).mono ?_; rintro _ _ _ ⟨rfl, rfl, rfl⟩)
          | (refine And.intro rfl ?_)
          | (refine Br.any (fun _ => ?_) (fun _ => ?_)))
      all_goals (conv => whnf)
      all_goals exact VLe.rfl
  · simp only [Bool.not_eq_true] at hv
    rw [hv] at h0 ⊢
    rw [Bool.false_and, Bool.false_and]
    repeat' ((conv => whnf); first
        | (refine Br.tt ?_)
        | (refine Br.ff ?_)
        | (refine Br.dec (fun _ => ?_) (fun _ => ?_) <;> first | (exfalso; omega) | skip)
        | (refine Br.beq (fun _ => ?_) (fun _ => ?_) <;> first | (exfalso; omega) | skip)
        | (refine Br.bne (fun _ => ?_) (fun _ => ?_) <;> first | (exfalso; omega) | skip)
        | (refine Br.nbeq (fun _ => ?_) (fun _ => ?_) <;> first | (exfalso; omega) | skip)
        | (refine Br.nble (fun _ => ?_) (fun _ => ?_) <;> first | (exfalso; omega) | skip)
        | (refine Ar.i64 (by omega) (by omega) ?_)
        | (refine Ar.u32 (by omega) (by omega) ?_)
        | (refine Ar.sh1 (by omega) ?_)
        | (refine Ar.u64 (by omega) (by omega) ?_)
        | (refine Sv.mk _ rfl ?_)
        | (refine Nz.mk (by omega) ?_)
        | (refine Nn.mk (by omega) ?_)
        | (refine Ix.nat (by omega) ?_)
        | (refine Ix.ofNat (by omega) ?_)
        | (refine Ix.mk 0 rfl (by omega) ?_)
        | (refine Ix.mk 1 rfl (by omega) ?_)
        | (refine Ix.int (by omega) (by omega) ?_)
        | (refine Bd.nat (by omega) ?_)
        | (refine Bd.mk 0 rfl (by omega) ?_)
        | (refine Bd.mk 1 rfl (by omega) ?_)
        | (refine Bd.int (by omega) (by omega) ?_)
        | (refine Len.mk (by omega) ?_)
        | (refine Len.mk (by simp only [List.length_cons, List.length_nil]; omega) ?_)
        | (refine Ltn.mk (by omega) ?_)
        | (refine Both.mk ?_ ?_)
        | (refine MkS.vec ?_)
        | (refine (h0 _ _).mono ?_; rintro _ _ _ ⟨rfl, rfl, rfl⟩)
        | (refine Br.any (fun _ => ?_) (fun _ => ?_)))
    all_goals (conv => whnf)
    all_goals exact VLe.rfl

theorem members_ok (g : G) (hs : g.Small) (c : Cf) (hc : CSmall c) : Ret Try.prog 10 [g.v, cV c] (.int .u32 (g.imem c)) := by
  have h1 := iconfiguration1_ok g hs c hc
  refine ret_frz rfl ?_
  refine fn_rule mixed Try.func10 rfl hc10 hr10 rfl ?_
  rw [G.imem]
  by_cases hg : (g.valid && g.iconf c) = true
  · rw [hg] at h1 ⊢
    rw [if_pos rfl]
    rw [Bool.and_eq_true] at hg
    obtain ⟨f1, f2, f3, f4, f5, f6, f7⟩ := val_facts hg.1
    obtain ⟨e1, e2⟩ := iconf_facts hg.2
    have h2 := true_ok c 0 (by omega) e2
    repeat' ((conv => whnf); first
        | (refine Br.tt ?_)
        | (refine Br.ff ?_)
        | (refine Br.dec (fun _ => ?_) (fun _ => ?_) <;> first | (exfalso; omega) | skip)
        | (refine Br.beq (fun _ => ?_) (fun _ => ?_) <;> first | (exfalso; omega) | skip)
        | (refine Br.bne (fun _ => ?_) (fun _ => ?_) <;> first | (exfalso; omega) | skip)
        | (refine Br.nbeq (fun _ => ?_) (fun _ => ?_) <;> first | (exfalso; omega) | skip)
        | (refine Br.nble (fun _ => ?_) (fun _ => ?_) <;> first | (exfalso; omega) | skip)
        | (refine Ar.i64 (by omega) (by omega) ?_)
        | (refine Ar.u32 (by omega) (by omega) ?_)
        | (refine Ar.sh1 (by omega) ?_)
        | (refine Ar.u64 (by omega) (by omega) ?_)
        | (refine Sv.mk _ rfl ?_)
        | (refine Nz.mk (by omega) ?_)
        | (refine Nn.mk (by omega) ?_)
        | (refine Ix.nat (by omega) ?_)
        | (refine Ix.ofNat (by omega) ?_)
        | (refine Ix.mk 0 rfl (by omega) ?_)
        | (refine Ix.mk 1 rfl (by omega) ?_)
        | (refine Ix.int (by omega) (by omega) ?_)
        | (refine Bd.nat (by omega) ?_)
        | (refine Bd.mk 0 rfl (by omega) ?_)
        | (refine Bd.mk 1 rfl (by omega) ?_)
        | (refine Bd.int (by omega) (by omega) ?_)
        | (refine Len.mk (by omega) ?_)
        | (refine Len.mk (by simp only [List.length_cons, List.length_nil]; omega) ?_)
        | (refine Ltn.mk (by omega) ?_)
        | (refine Both.mk ?_ ?_)
        | (refine MkS.vec ?_)
        | (refine call_frz [1] h1 ⟨by decide, VLe.rfl, VLe.rfl, VLe.fz rfl (fun h => h) (one_le _ _ rfl), True.intro⟩ ?_)
        | (refine (h2 _ _).mono ?_; rintro _ _ _ ⟨rfl, rfl, rfl⟩)
        | (refine And.intro rfl ?_)
        | (refine Br.any (fun _ => ?_) (fun _ => ?_)))
    all_goals (conv => whnf)
    all_goals exact VLe.rfl
  · simp only [Bool.not_eq_true] at hg
    rw [hg] at h1 ⊢
    rw [if_neg (by simp)]
    repeat' ((conv => whnf); first
        | (refine Br.tt ?_)
        | (refine Br.ff ?_)
        | (refine Br.dec (fun _ => ?_) (fun _ => ?_) <;> first | (exfalso; omega) | skip)
        | (refine Br.beq (fun _ => ?_) (fun _ => ?_) <;> first | (exfalso; omega) | skip)
        | (refine Br.bne (fun _ => ?_) (fun _ => ?_) <;> first | (exfalso; omega) | skip)
        | (refine Br.nbeq (fun _ => ?_) (fun _ => ?_) <;> first | (exfalso; omega) | skip)
        | (refine Br.nble (fun _ => ?_) (fun _ => ?_) <;> first | (exfalso; omega) | skip)
        | (refine Ar.i64 (by omega) (by omega) ?_)
        | (refine Ar.u32 (by omega) (by omega) ?_)
        | (refine Ar.sh1 (by omega) ?_)
        | (refine Ar.u64 (by omega) (by omega) ?_)
        | (refine Sv.mk _ rfl ?_)
        | (refine Nz.mk (by omega) ?_)
        | (refine Nn.mk (by omega) ?_)
        | (refine Ix.nat (by omega) ?_)
        | (refine Ix.ofNat (by omega) ?_)
        | (refine Ix.mk 0 rfl (by omega) ?_)
        | (refine Ix.mk 1 rfl (by omega) ?_)
        | (refine Ix.int (by omega) (by omega) ?_)
        | (refine Bd.nat (by omega) ?_)
        | (refine Bd.mk 0 rfl (by omega) ?_)
        | (refine Bd.mk 1 rfl (by omega) ?_)
        | (refine Bd.int (by omega) (by omega) ?_)
        | (refine Len.mk (by omega) ?_)
        | (refine Len.mk (by simp only [List.length_cons, List.length_nil]; omega) ?_)
        | (refine Ltn.mk (by omega) ?_)
        | (refine Both.mk ?_ ?_)
        | (refine MkS.vec ?_)
        | (refine call_frz [1] h1 ⟨by decide, VLe.rfl, VLe.rfl, VLe.fz rfl (fun h => h) (one_le _ _ rfl), True.intro⟩ ?_)
        | (refine Br.any (fun _ => ?_) (fun _ => ?_)))
    all_goals (conv => whnf)
    all_goals exact VLe.rfl

theorem rmembers_ok (g : G) (hs : g.Small) (c : Cf) (hc : CSmall c) : Ret Try.prog 33 [g.v, cV c] (.int .u32 (g.imem c)) := by
  have h0 := rifit_ok g hs
  have h1 := rconf_ok g hs c hc vM vM_ok
  refine ret_frz rfl ?_
  refine fn_rule mixed Try.func33 rfl hc33 hr33 rfl ?_
  rw [G.imem]
  by_cases hv : g.valid = true
  · rw [iconf_v g hv] at h1
    rw [hv] at h0 ⊢
    rw [Bool.true_and]
    by_cases hg : g.iconf c = true
    · rw [hg] at h1 ⊢
      rw [if_pos rfl]
      obtain ⟨f1, f2, f3, f4, f5, f6, f7⟩ := val_facts hv
      obtain ⟨e1, e2⟩ := iconf_facts hg
      have h2 := ones_ok c 0 (by omega) (fun v hv => (e2 v hv).1)
      repeat' ((conv => whnf); first
          | (refine Br.tt ?_)
          | (refine Br.ff ?_)
          | (refine Br.dec (fun _ => ?_) (fun _ => ?_) <;> first | (exfalso; omega) | skip)
          | (refine Br.beq (fun _ => ?_) (fun _ => ?_) <;> first | (exfalso; omega) | skip)
          | (refine Br.bne (fun _ => ?_) (fun _ => ?_) <;> first | (exfalso; omega) | skip)
          | (refine Br.nbeq (fun _ => ?_) (fun _ => ?_) <;> first | (exfalso; omega) | skip)
          | (refine Br.nble (fun _ => ?_) (fun _ => ?_) <;> first | (exfalso; omega) | skip)
          | (refine Ar.i64 (by omega) (by omega) ?_)
          | (refine Ar.u32 (by omega) (by omega) ?_)
          | (refine Ar.sh1 (by omega) ?_)
          | (refine Ar.u64 (by omega) (by omega) ?_)
          | (refine Sv.mk _ rfl ?_)
          | (refine Nz.mk (by omega) ?_)
          | (refine Nn.mk (by omega) ?_)
          | (refine Ix.nat (by omega) ?_)
          | (refine Ix.ofNat (by omega) ?_)
          | (refine Ix.mk 0 rfl (by omega) ?_)
          | (refine Ix.mk 1 rfl (by omega) ?_)
          | (refine Ix.int (by omega) (by omega) ?_)
          | (refine Bd.nat (by omega) ?_)
          | (refine Bd.mk 0 rfl (by omega) ?_)
          | (refine Bd.mk 1 rfl (by omega) ?_)
          | (refine Bd.int (by omega) (by omega) ?_)
          | (refine Len.mk (by omega) ?_)
          | (refine Len.mk (by simp only [List.length_cons, List.length_nil]; omega) ?_)
          | (refine Ltn.mk (by omega) ?_)
          | (refine Both.mk ?_ ?_)
          | (refine MkS.vec ?_)
          | (refine (h0 _ _).mono ?_; rintro _ _ _ ⟨rfl, rfl, rfl⟩)
          | (refine (ivars_ok _ _).mono ?_; rintro _ _ _ ⟨rfl, rfl, rfl⟩)
          | (refine (h1 _ _).mono ?_; rintro _ _ _ ⟨rfl, rfl, rfl⟩)
          | (refine (h2 _ _).mono ?_; rintro _ _ _ ⟨rfl, rfl, rfl⟩)
          | (refine And.intro rfl ?_)
          | (refine Br.any (fun _ => ?_) (fun _ => ?_)))
      all_goals (conv => whnf)
      all_goals exact VLe.rfl
    · simp only [Bool.not_eq_true] at hg
      rw [hg] at h1 ⊢
      rw [if_neg (by simp)]
      repeat' ((conv => whnf); first
          | (refine Br.tt ?_)
          | (refine Br.ff ?_)
          | (refine Br.dec (fun _ => ?_) (fun _ => ?_) <;> first | (exfalso; omega) | skip)
          | (refine Br.beq (fun _ => ?_) (fun _ => ?_) <;> first | (exfalso; omega) | skip)
          | (refine Br.bne (fun _ => ?_) (fun _ => ?_) <;> first | (exfalso; omega) | skip)
          | (refine Br.nbeq (fun _ => ?_) (fun _ => ?_) <;> first | (exfalso; omega) | skip)
          | (refine Br.nble (fun _ => ?_) (fun _ => ?_) <;> first | (exfalso; omega) | skip)
          | (refine Ar.i64 (by omega) (by omega) ?_)
          | (refine Ar.u32 (by omega) (by omega) ?_)
          | (refine Ar.sh1 (by omega) ?_)
          | (refine Ar.u64 (by omega) (by omega) ?_)
          | (refine Sv.mk _ rfl ?_)
          | (refine Nz.mk (by omega) ?_)
          | (refine Nn.mk (by omega) ?_)
          | (refine Ix.nat (by omega) ?_)
          | (refine Ix.ofNat (by omega) ?_)
          | (refine Ix.mk 0 rfl (by omega) ?_)
          | (refine Ix.mk 1 rfl (by omega) ?_)
          | (refine Ix.int (by omega) (by omega) ?_)
          | (refine Bd.nat (by omega) ?_)
          | (refine Bd.mk 0 rfl (by omega) ?_)
          | (refine Bd.mk 1 rfl (by omega) ?_)
          | (refine Bd.int (by omega) (by omega) ?_)
          | (refine Len.mk (by omega) ?_)
          | (refine Len.mk (by simp only [List.length_cons, List.length_nil]; omega) ?_)
          | (refine Ltn.mk (by omega) ?_)
          | (refine Both.mk ?_ ?_)
          | (refine MkS.vec ?_)
          | (refine (h0 _ _).mono ?_; rintro _ _ _ ⟨rfl, rfl, rfl⟩)
          | (refine (ivars_ok _ _).mono ?_; rintro _ _ _ ⟨rfl, rfl, rfl⟩)
          | (refine (h1 _ _).mono ?_; rintro _ _ _ ⟨rfl, rfl, rfl⟩)
          | (refine And.intro rfl ?_)
          | (refine Br.any (fun _ => ?_) (fun _ => ?_)))
      all_goals (conv => whnf)
      all_goals exact VLe.rfl
  · simp only [Bool.not_eq_true] at hv
    rw [hv] at h0 ⊢
    rw [Bool.false_and, if_neg (by simp)]
    repeat' ((conv => whnf); first
        | (refine Br.tt ?_)
        | (refine Br.ff ?_)
        | (refine Br.dec (fun _ => ?_) (fun _ => ?_) <;> first | (exfalso; omega) | skip)
        | (refine Br.beq (fun _ => ?_) (fun _ => ?_) <;> first | (exfalso; omega) | skip)
        | (refine Br.bne (fun _ => ?_) (fun _ => ?_) <;> first | (exfalso; omega) | skip)
        | (refine Br.nbeq (fun _ => ?_) (fun _ => ?_) <;> first | (exfalso; omega) | skip)
        | (refine Br.nble (fun _ => ?_) (fun _ => ?_) <;> first | (exfalso; omega) | skip)
        | (refine Ar.i64 (by omega) (by omega) ?_)
        | (refine Ar.u32 (by omega) (by omega) ?_)
        | (refine Ar.sh1 (by omega) ?_)
        | (refine Ar.u64 (by omega) (by omega) ?_)
        | (refine Sv.mk _ rfl ?_)
        | (refine Nz.mk (by omega) ?_)
        | (refine Nn.mk (by omega) ?_)
        | (refine Ix.nat (by omega) ?_)
        | (refine Ix.ofNat (by omega) ?_)
        | (refine Ix.mk 0 rfl (by omega) ?_)
        | (refine Ix.mk 1 rfl (by omega) ?_)
        | (refine Ix.int (by omega) (by omega) ?_)
        | (refine Bd.nat (by omega) ?_)
        | (refine Bd.mk 0 rfl (by omega) ?_)
        | (refine Bd.mk 1 rfl (by omega) ?_)
        | (refine Bd.int (by omega) (by omega) ?_)
        | (refine Len.mk (by omega) ?_)
        | (refine Len.mk (by simp only [List.length_cons, List.length_nil]; omega) ?_)
        | (refine Ltn.mk (by omega) ?_)
        | (refine Both.mk ?_ ?_)
        | (refine MkS.vec ?_)
        | (refine (h0 _ _).mono ?_; rintro _ _ _ ⟨rfl, rfl, rfl⟩)
        | (refine Br.any (fun _ => ?_) (fun _ => ?_)))
    all_goals (conv => whnf)
    all_goals exact VLe.rfl

theorem iclaim_ok (g : G) (hs : g.Small) : Ret Try.prog 31 [g.v] g.iclaim := by
  have h0 := ifit_ok g hs
  refine ret_frz rfl ?_
  refine fn_rule mixed Try.func31 rfl hc31 hr31 rfl ?_
  by_cases hv : g.valid = true
  · obtain ⟨f1, f2, f3, f4, f5, f6, f7⟩ := val_facts hv
    rw [G.iclaim, if_pos hv]
    rw [hv] at h0
    repeat' ((conv => whnf); first
        | (refine Br.tt ?_)
        | (refine Br.ff ?_)
        | (refine Br.dec (fun _ => ?_) (fun _ => ?_) <;> first | (exfalso; omega) | skip)
        | (refine Br.beq (fun _ => ?_) (fun _ => ?_) <;> first | (exfalso; omega) | skip)
        | (refine Br.bne (fun _ => ?_) (fun _ => ?_) <;> first | (exfalso; omega) | skip)
        | (refine Br.nbeq (fun _ => ?_) (fun _ => ?_) <;> first | (exfalso; omega) | skip)
        | (refine Br.nble (fun _ => ?_) (fun _ => ?_) <;> first | (exfalso; omega) | skip)
        | (refine Ar.i64 (by omega) (by omega) ?_)
        | (refine Ar.u32 (by omega) (by omega) ?_)
        | (refine Ar.sh1 (by omega) ?_)
        | (refine Ar.u64 (by omega) (by omega) ?_)
        | (refine Sv.mk _ rfl ?_)
        | (refine Nz.mk (by omega) ?_)
        | (refine Nn.mk (by omega) ?_)
        | (refine Ix.nat (by omega) ?_)
        | (refine Ix.ofNat (by omega) ?_)
        | (refine Ix.mk 0 rfl (by omega) ?_)
        | (refine Ix.mk 1 rfl (by omega) ?_)
        | (refine Ix.int (by omega) (by omega) ?_)
        | (refine Bd.nat (by omega) ?_)
        | (refine Bd.mk 0 rfl (by omega) ?_)
        | (refine Bd.mk 1 rfl (by omega) ?_)
        | (refine Bd.int (by omega) (by omega) ?_)
        | (refine Len.mk (by omega) ?_)
        | (refine Len.mk (by simp only [List.length_cons, List.length_nil]; omega) ?_)
        | (refine Ltn.mk (by omega) ?_)
        | (refine Both.mk ?_ ?_)
        | (refine MkS.vec ?_)
        | (refine (h0 _ _).mono ?_; rintro _ _ _ ⟨rfl, rfl, rfl⟩)
        | (refine Br.any (fun _ => ?_) (fun _ => ?_)))
    all_goals (conv => whnf)
    all_goals exact VLe.rfl
  · rw [G.iclaim, if_neg hv]
    simp only [Bool.not_eq_true] at hv
    rw [hv] at h0
    repeat' ((conv => whnf); first
        | (refine Br.tt ?_)
        | (refine Br.ff ?_)
        | (refine Br.dec (fun _ => ?_) (fun _ => ?_) <;> first | (exfalso; omega) | skip)
        | (refine Br.beq (fun _ => ?_) (fun _ => ?_) <;> first | (exfalso; omega) | skip)
        | (refine Br.bne (fun _ => ?_) (fun _ => ?_) <;> first | (exfalso; omega) | skip)
        | (refine Br.nbeq (fun _ => ?_) (fun _ => ?_) <;> first | (exfalso; omega) | skip)
        | (refine Br.nble (fun _ => ?_) (fun _ => ?_) <;> first | (exfalso; omega) | skip)
        | (refine Ar.i64 (by omega) (by omega) ?_)
        | (refine Ar.u32 (by omega) (by omega) ?_)
        | (refine Ar.sh1 (by omega) ?_)
        | (refine Ar.u64 (by omega) (by omega) ?_)
        | (refine Sv.mk _ rfl ?_)
        | (refine Nz.mk (by omega) ?_)
        | (refine Nn.mk (by omega) ?_)
        | (refine Ix.nat (by omega) ?_)
        | (refine Ix.ofNat (by omega) ?_)
        | (refine Ix.mk 0 rfl (by omega) ?_)
        | (refine Ix.mk 1 rfl (by omega) ?_)
        | (refine Ix.int (by omega) (by omega) ?_)
        | (refine Bd.nat (by omega) ?_)
        | (refine Bd.mk 0 rfl (by omega) ?_)
        | (refine Bd.mk 1 rfl (by omega) ?_)
        | (refine Bd.int (by omega) (by omega) ?_)
        | (refine Len.mk (by omega) ?_)
        | (refine Len.mk (by simp only [List.length_cons, List.length_nil]; omega) ?_)
        | (refine Ltn.mk (by omega) ?_)
        | (refine Both.mk ?_ ?_)
        | (refine MkS.vec ?_)
        | (refine (h0 _ _).mono ?_; rintro _ _ _ ⟨rfl, rfl, rfl⟩)
        | (refine Br.any (fun _ => ?_) (fun _ => ?_)))
    all_goals (conv => whnf)
    all_goals exact VLe.rfl
theorem riclaim_ok (g : G) (hs : g.Small) : Ret Try.prog 32 [g.v] g.iclaim := by
  have h0 := rifit_ok g hs
  refine ret_frz rfl ?_
  refine fn_rule mixed Try.func32 rfl hc32 hr32 rfl ?_
  by_cases hv : g.valid = true
  · obtain ⟨f1, f2, f3, f4, f5, f6, f7⟩ := val_facts hv
    rw [G.iclaim, if_pos hv, ← f3]
    rw [hv] at h0
    repeat' ((conv => whnf); first
        | (refine Br.tt ?_)
        | (refine Br.ff ?_)
        | (refine Br.dec (fun _ => ?_) (fun _ => ?_) <;> first | (exfalso; omega) | skip)
        | (refine Br.beq (fun _ => ?_) (fun _ => ?_) <;> first | (exfalso; omega) | skip)
        | (refine Br.bne (fun _ => ?_) (fun _ => ?_) <;> first | (exfalso; omega) | skip)
        | (refine Br.nbeq (fun _ => ?_) (fun _ => ?_) <;> first | (exfalso; omega) | skip)
        | (refine Br.nble (fun _ => ?_) (fun _ => ?_) <;> first | (exfalso; omega) | skip)
        | (refine Ar.i64 (by omega) (by omega) ?_)
        | (refine Ar.u32 (by omega) (by omega) ?_)
        | (refine Ar.sh1 (by omega) ?_)
        | (refine Ar.u64 (by omega) (by omega) ?_)
        | (refine Sv.mk _ rfl ?_)
        | (refine Nz.mk (by omega) ?_)
        | (refine Nn.mk (by omega) ?_)
        | (refine Ix.nat (by omega) ?_)
        | (refine Ix.ofNat (by omega) ?_)
        | (refine Ix.mk 0 rfl (by omega) ?_)
        | (refine Ix.mk 1 rfl (by omega) ?_)
        | (refine Ix.int (by omega) (by omega) ?_)
        | (refine Bd.nat (by omega) ?_)
        | (refine Bd.mk 0 rfl (by omega) ?_)
        | (refine Bd.mk 1 rfl (by omega) ?_)
        | (refine Bd.int (by omega) (by omega) ?_)
        | (refine Len.mk (by omega) ?_)
        | (refine Len.mk (by simp only [List.length_cons, List.length_nil]; omega) ?_)
        | (refine Ltn.mk (by omega) ?_)
        | (refine Both.mk ?_ ?_)
        | (refine MkS.vec ?_)
        | (refine (h0 _ _).mono ?_; rintro _ _ _ ⟨rfl, rfl, rfl⟩)
        | (refine Br.any (fun _ => ?_) (fun _ => ?_)))
    all_goals (conv => whnf)
    all_goals exact VLe.rfl
  · rw [G.iclaim, if_neg hv]
    simp only [Bool.not_eq_true] at hv
    rw [hv] at h0
    repeat' ((conv => whnf); first
        | (refine Br.tt ?_)
        | (refine Br.ff ?_)
        | (refine Br.dec (fun _ => ?_) (fun _ => ?_) <;> first | (exfalso; omega) | skip)
        | (refine Br.beq (fun _ => ?_) (fun _ => ?_) <;> first | (exfalso; omega) | skip)
        | (refine Br.bne (fun _ => ?_) (fun _ => ?_) <;> first | (exfalso; omega) | skip)
        | (refine Br.nbeq (fun _ => ?_) (fun _ => ?_) <;> first | (exfalso; omega) | skip)
        | (refine Br.nble (fun _ => ?_) (fun _ => ?_) <;> first | (exfalso; omega) | skip)
        | (refine Ar.i64 (by omega) (by omega) ?_)
        | (refine Ar.u32 (by omega) (by omega) ?_)
        | (refine Ar.sh1 (by omega) ?_)
        | (refine Ar.u64 (by omega) (by omega) ?_)
        | (refine Sv.mk _ rfl ?_)
        | (refine Nz.mk (by omega) ?_)
        | (refine Nn.mk (by omega) ?_)
        | (refine Ix.nat (by omega) ?_)
        | (refine Ix.ofNat (by omega) ?_)
        | (refine Ix.mk 0 rfl (by omega) ?_)
        | (refine Ix.mk 1 rfl (by omega) ?_)
        | (refine Ix.int (by omega) (by omega) ?_)
        | (refine Bd.nat (by omega) ?_)
        | (refine Bd.mk 0 rfl (by omega) ?_)
        | (refine Bd.mk 1 rfl (by omega) ?_)
        | (refine Bd.int (by omega) (by omega) ?_)
        | (refine Len.mk (by omega) ?_)
        | (refine Len.mk (by simp only [List.length_cons, List.length_nil]; omega) ?_)
        | (refine Ltn.mk (by omega) ?_)
        | (refine Both.mk ?_ ?_)
        | (refine MkS.vec ?_)
        | (refine (h0 _ _).mono ?_; rintro _ _ _ ⟨rfl, rfl, rfl⟩)
        | (refine Br.any (fun _ => ?_) (fun _ => ?_)))
    all_goals (conv => whnf)
    all_goals exact VLe.rfl
end Go.Proofs.Ytjadlpflhmooaaa
