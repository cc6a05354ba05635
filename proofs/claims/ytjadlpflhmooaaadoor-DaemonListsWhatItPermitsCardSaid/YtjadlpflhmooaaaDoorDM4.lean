import Derived.Test.YtjadlpflhmooaaaDoorDGR3
import Derived.Test.YtjadlpflhmooaaaDoorEngY
namespace Go.Proofs.YtjadlpflhmooaaaDoor
open Go.Eng
set_option maxRecDepth 100000
set_option linter.unusedVariables false

/-! ## the table of math/bits -/

def tzL : List Int := [0, 1, 28, 2, 29, 14, 24, 3, 30, 22, 20, 15, 25, 17, 4, 8, 31, 27, 13, 23, 21, 19, 16, 7, 26, 12, 18, 6, 11, 5, 10, 9]
def tzF (i j : Nat) : V := .int .u8 (tzL.getD i 0)
abbrev GB : Blk := .glob 0 32 tzF
abbrev RG (f : FuncId) (args : List V) (X : V) : Prop := RetG Tryd.prog GB f args X

theorem tz_all0 : ∀ k : Nat, k < 32 → IntKind.u32.wrap (((2 ^ k : Nat) : Int) * 125613361) = ((2 ^ k * 125613361 % 4294967296 : Nat) : Int) ∧ ((2 ^ k * 125613361 % 4294967296 : Nat) : Int).fdiv (2 ^ (min (27 : Int).toNat 32)) = ((2 ^ k * 125613361 % 4294967296 / 134217728 : Nat) : Int) ∧ 2 ^ k * 125613361 % 4294967296 / 134217728 < 32 ∧ tzL.getD (2 ^ k * 125613361 % 4294967296 / 134217728) 0 = (k : Int) := by
  decide +kernel
theorem tz_all (k : Nat) (hk : k < 32) : ∃ a b : Nat, IntKind.u32.wrap (((2 ^ k : Nat) : Int) * 125613361) = (a : Int) ∧ (a : Int).fdiv (2 ^ (min (27 : Int).toNat 32)) = (b : Int) ∧ b < 32 ∧ tzL.getD b 0 = (k : Int) := ⟨_, _, tz_all0 k hk⟩

theorem tz_ok (s : Nat) (h0 : s ≠ 0) (hs : s < 4294967296) : RG 51 [.int .u32 s] (.int .i64 (ctz s)) := by
  obtain ⟨k1, k2, k3⟩ := ctz_spec h0 hs
  obtain ⟨a, b, t1, t2, t3, t4⟩ := tz_all (ctz s) k1
  have hand : bitI .and .u32 (s : Int) (((4294967296 - s) % 4294967296 : Nat) : Int) = ((2 ^ ctz s : Nat) : Int) := by
    rw [bit_and hs (Nat.mod_lt _ (by omega)), lowb_neg hs, lowb, if_neg h0]
  have t5 : (ctz s : Int) = IntKind.i64.wrap (tzL.getD b 0) := by rw [t4]; exact (wrap_i64 (by omega) (by omega)).symm
  generalize ((2 ^ ctz s : Nat) : Int) = p at hand t1
  refine ret_frzG rfl ?_
  refine fn_rule mixed Tryd.func51 rfl hc51 hr51 rfl ?_
  repeat' ((conv => whnf); first
      | (refine Ar.neg32 hs ?_)
      | (refine Sv.mk _ hand.symm ?_)
      | (refine Ar.mk _ t1.symm ?_)
      | (refine Sv.mk _ t2.symm ?_)
      | (refine Ix.mk _ rfl t3 ?_)
      | (refine Ar.mk _ t5 ?_)
      | (refine Br.tt ?_)
      | (refine Br.ff ?_)
      | (refine Br.dec (fun _ => ?_) (fun _ => ?_) <;> first | (exfalso; omega) | skip)
      | (refine Br.beq (fun _ => ?_) (fun _ => ?_) <;> first | (exfalso; omega) | skip)
      | (refine Br.bne (fun _ => ?_) (fun _ => ?_) <;> first | (exfalso; omega) | skip)
      | (refine Br.nbeq (fun _ => ?_) (fun _ => ?_) <;> first | (exfalso; omega) | skip)
      | (refine Br.nble (fun _ => ?_) (fun _ => ?_) <;> first | (exfalso; omega) | skip)
      | (refine Ar.i64 (by omega) (by omega) ?_)
      | (refine Ar.u32 (by omega) (by omega) ?_)
      | (refine Ar.sh1 (by omega) ?_)
      | (refine Ar.u64 (by omega) (by omega) ?_)
      | (refine Sv.mk _ rfl ?_)
      | (refine Nz.mk (by omega) ?_)
      | (refine Nn.mk (by omega) ?_)
      | (refine Ix.nat (by omega) ?_)
      | (refine Ix.ofNat (by omega) ?_)
      | (refine Ix.mk 0 rfl (by omega) ?_)
      | (refine Ix.mk 1 rfl (by omega) ?_)
      | (refine Ix.int (by omega) (by omega) ?_)
      | (refine Bd.nat (by omega) ?_)
      | (refine Bd.mk 0 rfl (by omega) ?_)
      | (refine Bd.mk 1 rfl (by omega) ?_)
      | (refine Bd.int (by omega) (by omega) ?_)
      | (refine Len.mk (by omega) ?_)
      | (refine Len.mk (by simp only [List.length_cons, List.length_nil]; omega) ?_)
      | (refine Ltn.mk (by omega) ?_)
      | (refine Both.mk ?_ ?_)
      | (refine MkS.vec ?_)
      | (refine Br.any (fun _ => ?_) (fun _ => ?_)))
  all_goals (conv => whnf)
  all_goals exact VLe.rfl

theorem has_bit {s : Nat} {v : Nat} (hv : v < 32) : hasB s v = s.testBit v := by
  rw [hasB, decide_eq_true (by omega), Bool.true_and]; rfl

theorem count_ok (s : Nat) (hs : s < 4294967296) : Ret Tryd.prog 22 [.int .u32 s] (.int .i64 (cnt s 32)) := by
  refine ret_frz rfl ?_
  refine fn_rule mixed Tryd.func22 rfl hc22 hr22 rfl ?_
  repeat' ((conv => whnf); first
      | (refine Br.tt ?_)
      | (refine Br.ff ?_)
      | (refine Br.dec (fun _ => ?_) (fun _ => ?_) <;> first | (exfalso; omega) | skip)
      | (refine Br.beq (fun _ => ?_) (fun _ => ?_) <;> first | (exfalso; omega) | skip)
      | (refine Br.bne (fun _ => ?_) (fun _ => ?_) <;> first | (exfalso; omega) | skip)
      | (refine Br.nbeq (fun _ => ?_) (fun _ => ?_) <;> first | (exfalso; omega) | skip)
      | (refine Br.nble (fun _ => ?_) (fun _ => ?_) <;> first | (exfalso; omega) | skip)
      | (refine Ar.i64 (by omega) (by omega) ?_)
      | (refine Ar.u32 (by omega) (by omega) ?_)
      | (refine Ar.sh1 (by omega) ?_)
      | (refine Ar.u64 (by omega) (by omega) ?_)
      | (refine Sv.mk _ rfl ?_)
      | (refine Nz.mk (by omega) ?_)
      | (refine Nn.mk (by omega) ?_)
      | (refine Ix.nat (by omega) ?_)
      | (refine Ix.ofNat (by omega) ?_)
      | (refine Ix.mk 0 rfl (by omega) ?_)
      | (refine Ix.mk 1 rfl (by omega) ?_)
      | (refine Ix.int (by omega) (by omega) ?_)
      | (refine Bd.nat (by omega) ?_)
      | (refine Bd.mk 0 rfl (by omega) ?_)
      | (refine Bd.mk 1 rfl (by omega) ?_)
      | (refine Bd.int (by omega) (by omega) ?_)
      | (refine Len.mk (by omega) ?_)
      | (refine Len.mk (by simp only [List.length_cons, List.length_nil]; omega) ?_)
      | (refine Ltn.mk (by omega) ?_)
      | (refine Both.mk ?_ ?_)
      | (refine MkS.vec ?_)
      | (refine Br.any (fun _ => ?_) (fun _ => ?_)))
  all_goals (conv => whnf)
  refine loop_r mixed [0] (fun i : Nat => [(3, .int .i64 (cnt s i)), (4, .int .i64 i)]) (fun m i => m = 32 - i ∧ i ≤ 32) 32 0 ⟨rfl, by omega⟩ ?_ ?_
  · refine weak_by (fun _ _ => []) ?_ ?_ rfl
    · repeat' (first | exact True.intro | exact VRen.oel rfl rfl | exact VRen.map rfl | exact VRen.yld rfl | (refine VRen.fn ?_) | exact ⟨rfl, rfl⟩ | exact ⟨rfl, rfl, rfl⟩ | (refine ⟨rfl, rfl, rfl, rfl, rfl, ?_⟩) | (refine ⟨⟨_, rfl, ?_⟩, ?_⟩) | exact VRen.kf rfl | exact VRen.int rfl | exact VRen.int (by omega) | exact VRen.loc rfl | exact VRen.vec rfl rfl rfl | exact VRen.vec rfl (by omega) (by omega) | exact VRen.nil rfl rfl | exact VRen.nil rfl (by omega) | exact VRen.fz rfl (fun h => h) (fun _ _ _ _ => VLe.rfl) | (refine ⟨Nat.le_refl _, rfl, fun i j hi hj => ?_⟩) | (refine ⟨by omega, rfl, fun i j hi hj => ?_⟩) | exact VLe.rfl | (refine ⟨⟨_, _, rfl⟩, ?_⟩) | (refine And.intro ?_ ?_))
    · repeat' (first | exact True.intro | exact VRen.oel rfl rfl | exact VRen.map rfl | exact VRen.yld rfl | (refine VRen.fn ?_) | exact ⟨rfl, rfl⟩ | exact ⟨rfl, rfl, rfl⟩ | (refine ⟨rfl, rfl, rfl, rfl, rfl, ?_⟩) | (refine ⟨⟨_, rfl, ?_⟩, ?_⟩) | exact VRen.kf rfl | exact VRen.int rfl | exact VRen.int (by omega) | exact VRen.loc rfl | exact VRen.vec rfl rfl rfl | exact VRen.vec rfl (by omega) (by omega) | exact VRen.nil rfl rfl | exact VRen.nil rfl (by omega) | exact VRen.fz rfl (fun h => h) (fun _ _ _ _ => VLe.rfl) | (refine ⟨Nat.le_refl _, rfl, fun i j hi hj => ?_⟩) | (refine ⟨by omega, rfl, fun i j hi hj => ?_⟩) | exact VLe.rfl | (refine ⟨⟨_, _, rfl⟩, ?_⟩) | (refine And.intro ?_ ?_))
  rintro m i ⟨hm, hi⟩
  have hc := cnt_le s i
  have hb := fun h => has_bit (s := s) (v := i) h
  repeat' ((conv => whnf); first
      | (refine Br.tt ?_)
      | (refine Br.ff ?_)
      | (refine Br.dec (fun _ => ?_) (fun _ => ?_) <;> first | (exfalso; omega) | skip)
      | (refine Br.beq (fun _ => ?_) (fun _ => ?_) <;> first | (exfalso; omega) | skip)
      | (refine Br.bne (fun _ => ?_) (fun _ => ?_) <;> first | (exfalso; omega) | skip)
      | (refine Br.nbeq (fun _ => ?_) (fun _ => ?_) <;> first | (exfalso; omega) | skip)
      | (refine Br.nble (fun _ => ?_) (fun _ => ?_) <;> first | (exfalso; omega) | skip)
      | (refine Ar.i64 (by omega) (by omega) ?_)
      | (refine Ar.u32 (by omega) (by omega) ?_)
      | (refine Ar.sh1 (by omega) ?_)
      | (refine Ar.u64 (by omega) (by omega) ?_)
      | (refine Sv.mk _ rfl ?_)
      | (refine Nz.mk (by omega) ?_)
      | (refine Nn.mk (by omega) ?_)
      | (refine Ix.nat (by omega) ?_)
      | (refine Ix.ofNat (by omega) ?_)
      | (refine Ix.mk 0 rfl (by omega) ?_)
      | (refine Ix.mk 1 rfl (by omega) ?_)
      | (refine Ix.int (by omega) (by omega) ?_)
      | (refine Bd.nat (by omega) ?_)
      | (refine Bd.mk 0 rfl (by omega) ?_)
      | (refine Bd.mk 1 rfl (by omega) ?_)
      | (refine Bd.int (by omega) (by omega) ?_)
      | (refine Len.mk (by omega) ?_)
      | (refine Len.mk (by simp only [List.length_cons, List.length_nil]; omega) ?_)
      | (refine Ltn.mk (by omega) ?_)
      | (refine Both.mk ?_ ?_)
      | (refine MkS.vec ?_)
      | (refine (has_ok s hs _ _ _).mono ?_; rintro _ _ _ ⟨rfl, rfl, rfl⟩)
      | (refine Br.any (fun _ => ?_) (fun _ => ?_)))
  all_goals (conv => whnf)
  · refine ⟨32 - (i + 1), i + 1, by omega, ⟨rfl, by omega⟩, ?_⟩
    have hx : cnt s (i + 1) = cnt s i + 1 := by rw [cnt, if_pos (by rw [← hb (by omega)]; assumption)]
    refine weak_by (fun _ _ => []) ?_ ?_ rfl
    · repeat' (first | exact True.intro | exact VRen.oel rfl rfl | exact VRen.map rfl | exact VRen.yld rfl | (refine VRen.fn ?_) | exact ⟨rfl, rfl⟩ | exact ⟨rfl, rfl, rfl⟩ | (refine ⟨rfl, rfl, rfl, rfl, rfl, ?_⟩) | (refine ⟨⟨_, rfl, ?_⟩, ?_⟩) | exact VRen.kf rfl | exact VRen.int rfl | exact VRen.int (by omega) | exact VRen.loc rfl | exact VRen.vec rfl rfl rfl | exact VRen.vec rfl (by omega) (by omega) | exact VRen.nil rfl rfl | exact VRen.nil rfl (by omega) | exact VRen.fz rfl (fun h => h) (fun _ _ _ _ => VLe.rfl) | (refine ⟨Nat.le_refl _, rfl, fun i j hi hj => ?_⟩) | (refine ⟨by omega, rfl, fun i j hi hj => ?_⟩) | exact VLe.rfl | (refine ⟨⟨_, _, rfl⟩, ?_⟩) | (refine And.intro ?_ ?_))
    · repeat' (first | exact True.intro | exact VRen.oel rfl rfl | exact VRen.map rfl | exact VRen.yld rfl | (refine VRen.fn ?_) | exact ⟨rfl, rfl⟩ | exact ⟨rfl, rfl, rfl⟩ | (refine ⟨rfl, rfl, rfl, rfl, rfl, ?_⟩) | (refine ⟨⟨_, rfl, ?_⟩, ?_⟩) | exact VRen.kf rfl | exact VRen.int rfl | exact VRen.int (by omega) | exact VRen.loc rfl | exact VRen.vec rfl rfl rfl | exact VRen.vec rfl (by omega) (by omega) | exact VRen.nil rfl rfl | exact VRen.nil rfl (by omega) | exact VRen.fz rfl (fun h => h) (fun _ _ _ _ => VLe.rfl) | (refine ⟨Nat.le_refl _, rfl, fun i j hi hj => ?_⟩) | (refine ⟨by omega, rfl, fun i j hi hj => ?_⟩) | exact VLe.rfl | (refine ⟨⟨_, _, rfl⟩, ?_⟩) | (refine And.intro ?_ ?_))
  · refine ⟨32 - (i + 1), i + 1, by omega, ⟨rfl, by omega⟩, ?_⟩
    have hx : cnt s (i + 1) = cnt s i := by rw [cnt, if_neg (by rw [← hb (by omega)]; simp; assumption)]
    refine weak_by (fun _ _ => []) ?_ ?_ rfl
    · repeat' (first | exact True.intro | exact VRen.oel rfl rfl | exact VRen.map rfl | exact VRen.yld rfl | (refine VRen.fn ?_) | exact ⟨rfl, rfl⟩ | exact ⟨rfl, rfl, rfl⟩ | (refine ⟨rfl, rfl, rfl, rfl, rfl, ?_⟩) | (refine ⟨⟨_, rfl, ?_⟩, ?_⟩) | exact VRen.kf rfl | exact VRen.int rfl | exact VRen.int (by omega) | exact VRen.loc rfl | exact VRen.vec rfl rfl rfl | exact VRen.vec rfl (by omega) (by omega) | exact VRen.nil rfl rfl | exact VRen.nil rfl (by omega) | exact VRen.fz rfl (fun h => h) (fun _ _ _ _ => VLe.rfl) | (refine ⟨Nat.le_refl _, rfl, fun i j hi hj => ?_⟩) | (refine ⟨by omega, rfl, fun i j hi hj => ?_⟩) | exact VLe.rfl | (refine ⟨⟨_, _, rfl⟩, ?_⟩) | (refine And.intro ?_ ?_))
    · repeat' (first | exact True.intro | exact VRen.oel rfl rfl | exact VRen.map rfl | exact VRen.yld rfl | (refine VRen.fn ?_) | exact ⟨rfl, rfl⟩ | exact ⟨rfl, rfl, rfl⟩ | (refine ⟨rfl, rfl, rfl, rfl, rfl, ?_⟩) | (refine ⟨⟨_, rfl, ?_⟩, ?_⟩) | exact VRen.kf rfl | exact VRen.int rfl | exact VRen.int (by omega) | exact VRen.loc rfl | exact VRen.vec rfl rfl rfl | exact VRen.vec rfl (by omega) (by omega) | exact VRen.nil rfl rfl | exact VRen.nil rfl (by omega) | exact VRen.fz rfl (fun h => h) (fun _ _ _ _ => VLe.rfl) | (refine ⟨Nat.le_refl _, rfl, fun i j hi hj => ?_⟩) | (refine ⟨by omega, rfl, fun i j hi hj => ?_⟩) | exact VLe.rfl | (refine ⟨⟨_, _, rfl⟩, ?_⟩) | (refine And.intro ?_ ?_))
  · have e : i = 32 := by omega
    rw [← e]; exact VLe.rfl

theorem least_ok (s : Nat) (hs : s < 4294967296) : Ret Tryd.prog 39 [.int .u32 s] (.int .u32 (lowb s)) := by
  refine ret_frz rfl ?_
  refine fn_rule mixed Tryd.func39 rfl hc39 hr39 rfl ?_
  repeat' ((conv => whnf); first
      | (refine Br.tt ?_)
      | (refine Br.ff ?_)
      | (refine Br.dec (fun _ => ?_) (fun _ => ?_) <;> first | (exfalso; omega) | skip)
      | (refine Br.beq (fun _ => ?_) (fun _ => ?_) <;> first | (exfalso; omega) | skip)
      | (refine Br.bne (fun _ => ?_) (fun _ => ?_) <;> first | (exfalso; omega) | skip)
      | (refine Br.nbeq (fun _ => ?_) (fun _ => ?_) <;> first | (exfalso; omega) | skip)
      | (refine Br.nble (fun _ => ?_) (fun _ => ?_) <;> first | (exfalso; omega) | skip)
      | (refine Ar.i64 (by omega) (by omega) ?_)
      | (refine Ar.u32 (by omega) (by omega) ?_)
      | (refine Ar.sh1 (by omega) ?_)
      | (refine Ar.u64 (by omega) (by omega) ?_)
      | (refine Sv.mk _ rfl ?_)
      | (refine Nz.mk (by omega) ?_)
      | (refine Nn.mk (by omega) ?_)
      | (refine Ix.nat (by omega) ?_)
      | (refine Ix.ofNat (by omega) ?_)
      | (refine Ix.mk 0 rfl (by omega) ?_)
      | (refine Ix.mk 1 rfl (by omega) ?_)
      | (refine Ix.int (by omega) (by omega) ?_)
      | (refine Bd.nat (by omega) ?_)
      | (refine Bd.mk 0 rfl (by omega) ?_)
      | (refine Bd.mk 1 rfl (by omega) ?_)
      | (refine Bd.int (by omega) (by omega) ?_)
      | (refine Len.mk (by omega) ?_)
      | (refine Len.mk (by simp only [List.length_cons, List.length_nil]; omega) ?_)
      | (refine Ltn.mk (by omega) ?_)
      | (refine Both.mk ?_ ?_)
      | (refine MkS.vec ?_)
      | (refine Br.any (fun _ => ?_) (fun _ => ?_)))
  all_goals (conv => whnf)
  refine loop_r mixed [0] (fun i : Nat => [(3, .int .i64 i)]) (fun m i => m = 32 - i ∧ i ≤ 32 ∧ ∀ j, j < i → s.testBit j = false) 32 0 ⟨rfl, by omega, fun j hj => by omega⟩ ?_ ?_
  · refine weak_by (fun _ _ => []) ?_ ?_ rfl
    · repeat' (first | exact True.intro | exact VRen.oel rfl rfl | exact VRen.map rfl | exact VRen.yld rfl | (refine VRen.fn ?_) | exact ⟨rfl, rfl⟩ | exact ⟨rfl, rfl, rfl⟩ | (refine ⟨rfl, rfl, rfl, rfl, rfl, ?_⟩) | (refine ⟨⟨_, rfl, ?_⟩, ?_⟩) | exact VRen.kf rfl | exact VRen.int rfl | exact VRen.int (by omega) | exact VRen.loc rfl | exact VRen.vec rfl rfl rfl | exact VRen.vec rfl (by omega) (by omega) | exact VRen.nil rfl rfl | exact VRen.nil rfl (by omega) | exact VRen.fz rfl (fun h => h) (fun _ _ _ _ => VLe.rfl) | (refine ⟨Nat.le_refl _, rfl, fun i j hi hj => ?_⟩) | (refine ⟨by omega, rfl, fun i j hi hj => ?_⟩) | exact VLe.rfl | (refine ⟨⟨_, _, rfl⟩, ?_⟩) | (refine And.intro ?_ ?_))
    · repeat' (first | exact True.intro | exact VRen.oel rfl rfl | exact VRen.map rfl | exact VRen.yld rfl | (refine VRen.fn ?_) | exact ⟨rfl, rfl⟩ | exact ⟨rfl, rfl, rfl⟩ | (refine ⟨rfl, rfl, rfl, rfl, rfl, ?_⟩) | (refine ⟨⟨_, rfl, ?_⟩, ?_⟩) | exact VRen.kf rfl | exact VRen.int rfl | exact VRen.int (by omega) | exact VRen.loc rfl | exact VRen.vec rfl rfl rfl | exact VRen.vec rfl (by omega) (by omega) | exact VRen.nil rfl rfl | exact VRen.nil rfl (by omega) | exact VRen.fz rfl (fun h => h) (fun _ _ _ _ => VLe.rfl) | (refine ⟨Nat.le_refl _, rfl, fun i j hi hj => ?_⟩) | (refine ⟨by omega, rfl, fun i j hi hj => ?_⟩) | exact VLe.rfl | (refine ⟨⟨_, _, rfl⟩, ?_⟩) | (refine And.intro ?_ ?_))
  rintro m i ⟨hm, hi, hz⟩
  have hb := fun h => has_bit (s := s) (v := i) h
  repeat' ((conv => whnf); first
      | (refine Br.tt ?_)
      | (refine Br.ff ?_)
      | (refine Br.dec (fun _ => ?_) (fun _ => ?_) <;> first | (exfalso; omega) | skip)
      | (refine Br.beq (fun _ => ?_) (fun _ => ?_) <;> first | (exfalso; omega) | skip)
      | (refine Br.bne (fun _ => ?_) (fun _ => ?_) <;> first | (exfalso; omega) | skip)
      | (refine Br.nbeq (fun _ => ?_) (fun _ => ?_) <;> first | (exfalso; omega) | skip)
      | (refine Br.nble (fun _ => ?_) (fun _ => ?_) <;> first | (exfalso; omega) | skip)
      | (refine Ar.i64 (by omega) (by omega) ?_)
      | (refine Ar.u32 (by omega) (by omega) ?_)
      | (refine Ar.sh1 (by omega) ?_)
      | (refine Ar.u64 (by omega) (by omega) ?_)
      | (refine Sv.mk _ rfl ?_)
      | (refine Nz.mk (by omega) ?_)
      | (refine Nn.mk (by omega) ?_)
      | (refine Ix.nat (by omega) ?_)
      | (refine Ix.ofNat (by omega) ?_)
      | (refine Ix.mk 0 rfl (by omega) ?_)
      | (refine Ix.mk 1 rfl (by omega) ?_)
      | (refine Ix.int (by omega) (by omega) ?_)
      | (refine Bd.nat (by omega) ?_)
      | (refine Bd.mk 0 rfl (by omega) ?_)
      | (refine Bd.mk 1 rfl (by omega) ?_)
      | (refine Bd.int (by omega) (by omega) ?_)
      | (refine Len.mk (by omega) ?_)
      | (refine Len.mk (by simp only [List.length_cons, List.length_nil]; omega) ?_)
      | (refine Ltn.mk (by omega) ?_)
      | (refine Both.mk ?_ ?_)
      | (refine MkS.vec ?_)
      | (refine (has_ok s hs _ _ _).mono ?_; rintro _ _ _ ⟨rfl, rfl, rfl⟩)
      | (refine Br.any (fun _ => ?_) (fun _ => ?_)))
  all_goals (conv => whnf)
  · have h1 : s.testBit i = true := by rw [← hb (by omega)]; assumption
    have h0 : s ≠ 0 := fun e => by subst e; simp at h1
    refine VLe.int ?_
    rw [lowb, if_neg h0, ctz_unique (by omega) h1 hz]
  · refine ⟨32 - (i + 1), i + 1, by omega, ⟨rfl, by omega, fun j hj => ?_⟩, ?_⟩
    · by_cases e : j = i
      · subst e; rw [← hb (by omega)]; assumption
      · exact hz j (by omega)
    · refine weak_by (fun _ _ => []) ?_ ?_ rfl
      · repeat' (first | exact True.intro | exact VRen.oel rfl rfl | exact VRen.map rfl | exact VRen.yld rfl | (refine VRen.fn ?_) | exact ⟨rfl, rfl⟩ | exact ⟨rfl, rfl, rfl⟩ | (refine ⟨rfl, rfl, rfl, rfl, rfl, ?_⟩) | (refine ⟨⟨_, rfl, ?_⟩, ?_⟩) | exact VRen.kf rfl | exact VRen.int rfl | exact VRen.int (by omega) | exact VRen.loc rfl | exact VRen.vec rfl rfl rfl | exact VRen.vec rfl (by omega) (by omega) | exact VRen.nil rfl rfl | exact VRen.nil rfl (by omega) | exact VRen.fz rfl (fun h => h) (fun _ _ _ _ => VLe.rfl) | (refine ⟨Nat.le_refl _, rfl, fun i j hi hj => ?_⟩) | (refine ⟨by omega, rfl, fun i j hi hj => ?_⟩) | exact VLe.rfl | (refine ⟨⟨_, _, rfl⟩, ?_⟩) | (refine And.intro ?_ ?_))
      · repeat' (first | exact True.intro | exact VRen.oel rfl rfl | exact VRen.map rfl | exact VRen.yld rfl | (refine VRen.fn ?_) | exact ⟨rfl, rfl⟩ | exact ⟨rfl, rfl, rfl⟩ | (refine ⟨rfl, rfl, rfl, rfl, rfl, ?_⟩) | (refine ⟨⟨_, rfl, ?_⟩, ?_⟩) | exact VRen.kf rfl | exact VRen.int rfl | exact VRen.int (by omega) | exact VRen.loc rfl | exact VRen.vec rfl rfl rfl | exact VRen.vec rfl (by omega) (by omega) | exact VRen.nil rfl rfl | exact VRen.nil rfl (by omega) | exact VRen.fz rfl (fun h => h) (fun _ _ _ _ => VLe.rfl) | (refine ⟨Nat.le_refl _, rfl, fun i j hi hj => ?_⟩) | (refine ⟨by omega, rfl, fun i j hi hj => ?_⟩) | exact VLe.rfl | (refine ⟨⟨_, _, rfl⟩, ?_⟩) | (refine And.intro ?_ ?_))
  · have e : s = 0 := Nat.eq_of_testBit_eq fun j => by
      rw [Nat.zero_testBit]
      by_cases h : j < 32
      · exact hz j (by omega)
      · exact bit_high hs (by omega)
    subst e
    exact VLe.rfl

abbrev P8 : ByteArray := ByteArray.mk (Array.mk [0, 1, 1, 2, 1, 2, 2, 3, 1, 2, 2, 3, 2, 3, 3, 4, 1, 2, 2, 3, 2, 3, 3, 4, 2, 3, 3, 4, 3, 4, 4, 5, 1, 2, 2, 3, 2, 3, 3, 4, 2, 3, 3, 4, 3, 4, 4, 5, 2, 3, 3, 4, 3, 4, 4, 5, 3, 4, 4, 5, 4, 5, 5, 6, 1, 2, 2, 3, 2, 3, 3, 4, 2, 3, 3, 4, 3, 4, 4, 5, 2, 3, 3, 4, 3, 4, 4, 5, 3, 4, 4, 5, 4, 5, 5, 6, 2, 3, 3, 4, 3, 4, 4, 5, 3, 4, 4, 5, 4, 5, 5, 6, 3, 4, 4, 5, 4, 5, 5, 6, 4, 5, 5, 6, 5, 6, 6, 7, 1, 2, 2, 3, 2, 3, 3, 4, 2, 3, 3, 4, 3, 4, 4, 5, 2, 3, 3, 4, 3, 4, 4, 5, 3, 4, 4, 5, 4, 5, 5, 6, 2, 3, 3, 4, 3, 4, 4, 5, 3, 4, 4, 5, 4, 5, 5, 6, 3, 4, 4, 5, 4, 5, 5, 6, 4, 5, 5, 6, 5, 6, 6, 7, 2, 3, 3, 4, 3, 4, 4, 5, 3, 4, 4, 5, 4, 5, 5, 6, 3, 4, 4, 5, 4, 5, 5, 6, 4, 5, 5, 6, 5, 6, 6, 7, 3, 4, 4, 5, 4, 5, 5, 6, 4, 5, 5, 6, 5, 6, 6, 7, 4, 5, 5, 6, 5, 6, 6, 7, 5, 6, 6, 7, 6, 7, 7, 8])
theorem pop8 : ∀ x : Nat, x < 256 → (P8.get! x).toNat = cnt x 8 := by decide +kernel
theorem fdiv_shr (s k : Nat) : (s : Int).fdiv (2 ^ k) = ((s >>> k : Nat) : Int) := by
  rw [Int.fdiv_eq_ediv_of_nonneg _ (Int.pow_nonneg (by omega)), Nat.shiftRight_eq_div_pow]
  simp
theorem and255 (x : Nat) : x &&& 255 < 256 := Nat.lt_of_le_of_lt Nat.and_le_right (by omega)
theorem cnt255 (x : Nat) : cnt (x &&& 255) 8 = cnt x 8 := cnt_ext fun i hi => by
  rw [Nat.testBit_and, show (255 : Nat) = 2 ^ 8 - 1 from rfl, Nat.testBit_two_pow_sub_one]; simp [hi]
theorem cnt_bytes (s : Nat) (hs : s < 4294967296) : cnt (s >>> 24) 8 + cnt (s >>> 16 &&& 255) 8 + cnt (s >>> 8 &&& 255) 8 + cnt (s &&& 255) 8 = cnt s 32 := by
  rw [cnt255, cnt255, cnt255, show (32 : Nat) = 8 + 24 from rfl, cnt_add 8 24, show (24 : Nat) = 8 + 16 from rfl, cnt_add 8 16, show (16 : Nat) = 8 + 8 from rfl, cnt_add 8 8]
  rw [← Nat.shiftRight_add, ← Nat.shiftRight_add]
  show cnt (s >>> 24) 8 + cnt (s >>> 16) 8 + cnt (s >>> 8) 8 + cnt s 8 = cnt s 8 + (cnt (s >>> 8) 8 + (cnt (s >>> 16) 8 + cnt (s >>> 24) 8))
  omega
theorem wrap_u8 {n : Int} (h1 : 0 ≤ n) (h2 : n ≤ 255) : IntKind.u8.wrap n = n := by
  simp only [IntKind.wrap, IntKind.bits, IntKind.signed, Bool.false_and]
  first | (split <;> omega) | (simp; omega)
theorem Ar.u8 {n : Int} {K : Int → Prop} (h1 : 0 ≤ n) (h2 : n ≤ 255) (hK : K n) : Ar .u8 n K := ⟨n, (wrap_u8 h1 h2).symm, hK⟩
theorem Ar.u8e {n : Int} {K : Int → Prop} (a : Nat) (h : n = (a : Int)) (ha : a ≤ 255) (hK : K (a : Int)) : Ar .u8 n K := by subst h; exact Ar.u8 (by omega) (by omega) hK
theorem oc_ok (s : Nat) (hs : s < 4294967296) : Ret Tryd.prog 45 [.int .u32 s] (.int .i64 (cnt s 32)) := by
  have hsum := cnt_bytes s hs
  have f24 : (s : Int).fdiv (2 ^ (min (24 : Int).toNat 32)) = ((s >>> 24 : Nat) : Int) := fdiv_shr s 24
  have f16 : (s : Int).fdiv (2 ^ (min (16 : Int).toNat 32)) = ((s >>> 16 : Nat) : Int) := fdiv_shr s 16
  have f8 : (s : Int).fdiv (2 ^ (min (8 : Int).toNat 32)) = ((s >>> 8 : Nat) : Int) := fdiv_shr s 8
  have l24 : s >>> 24 < 256 := by rw [Nat.shiftRight_eq_div_pow]; omega
  have l16 : s >>> 16 < 4294967296 := Nat.lt_of_le_of_lt (Nat.shiftRight_le s 16) hs
  have l8 : s >>> 8 < 4294967296 := Nat.lt_of_le_of_lt (Nat.shiftRight_le s 8) hs
  have a16 : bitI .and .u32 ((s >>> 16 : Nat) : Int) 255 = ((s >>> 16 &&& 255 : Nat) : Int) := bit_and (b := 255) l16 (by omega)
  have a8 : bitI .and .u32 ((s >>> 8 : Nat) : Int) 255 = ((s >>> 8 &&& 255 : Nat) : Int) := bit_and (b := 255) l8 (by omega)
  have a0 : bitI .and .u32 (s : Int) 255 = ((s &&& 255 : Nat) : Int) := bit_and (b := 255) hs (by omega)
  have m16 := and255 (s >>> 16)
  have m8 := and255 (s >>> 8)
  have m0 := and255 s
  generalize s >>> 24 = x24 at *
  generalize s >>> 16 &&& 255 = x16 at *
  generalize s >>> 8 &&& 255 = x8 at *
  generalize s &&& 255 = x0 at *
  have p24 := pop8 x24 l24
  have p16 := pop8 x16 m16
  have p8 := pop8 x8 m8
  have p0 := pop8 x0 m0
  have c24 := cnt_le x24 8
  have c16 := cnt_le x16 8
  have c8 := cnt_le x8 8
  have c0 := cnt_le x0 8
  rw [← hsum]
  rw [← p24] at c24 ⊢
  rw [← p16] at c16 ⊢
  rw [← p8] at c8 ⊢
  rw [← p0] at c0 ⊢
  clear p24 p16 p8 p0 hsum
  refine ret_frz rfl ?_
  refine fn_rule mixed Tryd.func45 rfl hc45 hr45 rfl ?_
  repeat' ((conv => whnf); first
      | (refine Sv.mk _ f24.symm ?_)
      | (refine Sv.mk _ f16.symm ?_)
      | (refine Sv.mk _ f8.symm ?_)
      | (refine Sv.mk _ a16.symm ?_)
      | (refine Sv.mk _ a8.symm ?_)
      | (refine Sv.mk _ a0.symm ?_)
      | (refine Ix.mk x24 rfl l24 ?_)
      | (refine Ix.mk x16 rfl m16 ?_)
      | (refine Ix.mk x8 rfl m8 ?_)
      | (refine Ix.mk x0 rfl m0 ?_)
      | (refine Ar.u8e ((P8.get! x24).toNat + (P8.get! x16).toNat) rfl (by omega) ?_)
      | (refine Ar.u8e ((P8.get! x24).toNat + (P8.get! x16).toNat + (P8.get! x8).toNat) rfl (by omega) ?_)
      | (refine Ar.u8e ((P8.get! x24).toNat + (P8.get! x16).toNat + (P8.get! x8).toNat + (P8.get! x0).toNat) rfl (by omega) ?_)
      | (refine Br.tt ?_)
      | (refine Br.ff ?_)
      | (refine Br.dec (fun _ => ?_) (fun _ => ?_) <;> first | (exfalso; omega) | skip)
      | (refine Br.beq (fun _ => ?_) (fun _ => ?_) <;> first | (exfalso; omega) | skip)
      | (refine Br.bne (fun _ => ?_) (fun _ => ?_) <;> first | (exfalso; omega) | skip)
      | (refine Br.nbeq (fun _ => ?_) (fun _ => ?_) <;> first | (exfalso; omega) | skip)
      | (refine Br.nble (fun _ => ?_) (fun _ => ?_) <;> first | (exfalso; omega) | skip)
      | (refine Ar.i64 (by omega) (by omega) ?_)
      | (refine Ar.u32 (by omega) (by omega) ?_)
      | (refine Ar.sh1 (by omega) ?_)
      | (refine Ar.u64 (by omega) (by omega) ?_)
      | (refine Sv.mk _ rfl ?_)
      | (refine Nz.mk (by omega) ?_)
      | (refine Nn.mk (by omega) ?_)
      | (refine Ix.nat (by omega) ?_)
      | (refine Ix.ofNat (by omega) ?_)
      | (refine Ix.mk 0 rfl (by omega) ?_)
      | (refine Ix.mk 1 rfl (by omega) ?_)
      | (refine Ix.int (by omega) (by omega) ?_)
      | (refine Bd.nat (by omega) ?_)
      | (refine Bd.mk 0 rfl (by omega) ?_)
      | (refine Bd.mk 1 rfl (by omega) ?_)
      | (refine Bd.int (by omega) (by omega) ?_)
      | (refine Len.mk (by omega) ?_)
      | (refine Len.mk (by simp only [List.length_cons, List.length_nil]; omega) ?_)
      | (refine Ltn.mk (by omega) ?_)
      | (refine Both.mk ?_ ?_)
      | (refine MkS.vec ?_)
      | (refine And.intro rfl ?_)
      | (refine Br.any (fun _ => ?_) (fun _ => ?_)))
  all_goals (conv => whnf)
  all_goals exact VLe.rfl
end Go.Proofs.YtjadlpflhmooaaaDoor
