import Derived.Test.YtjadlpflhmooaaaDoorDM8
namespace Go.Proofs.YtjadlpflhmooaaaDoor
open Go.Eng
set_option maxRecDepth 100000
set_option linter.unusedVariables false

/-- a record without what is hidden -/
def cleanE : Env → List Nat → Env
  | [], _ => []
  | (t, v) :: r, seen => match memN t seen with
    | true => cleanE r seen
    | false => (t, v) :: cleanE r (t :: seen)
def cleanB : Blk → Blk
  | .loop st pe env N ps C => .loop st pe (cleanE env []) N ps C
  | b => b
def cleanO : Own → Own
  | [] => []
  | (k, b) :: r => (k, cleanB b) :: cleanO r

/-! ## Resolve -/

def gr (g : G) (W : Nat) : Nat → Nat
  | 0 => 0
  | b + 1 => if W.testBit b = true ∧ nm (gR g.ports b) &&& gr g W b = 0 then gr g W b ||| 2 ^ b else gr g W b
theorem gr_pow (g : G) (W : Nat) : ∀ b, gr g W b < 2 ^ b
  | 0 => by show 0 < 1; omega
  | b + 1 => by
    have h := gr_pow g W b
    have h2 : 2 ^ b < 2 ^ (b + 1) := Nat.pow_lt_pow_right (by omega) (by omega)
    rw [gr]
    split
    · exact Nat.or_lt_two_pow (by omega) h2
    · omega
theorem gr_lt (g : G) (W : Nat) {b : Nat} (h : b ≤ 32) : gr g W b < 4294967296 := Nat.lt_of_lt_of_le (gr_pow g W b) (Nat.pow_le_pow_right (n := 2) (by omega) h)
theorem gr_skip {g : G} {W b : Nat} : ∀ {v : Nat}, b ≤ v → (∀ j, b ≤ j → j < v → W.testBit j = false) → gr g W v = gr g W b
  | 0, h, _ => by rw [show b = 0 by omega]
  | v + 1, h, hz => by
    by_cases e1 : b = v + 1
    · rw [e1]
    · rw [gr, if_neg (by rw [hz v (by omega) (by omega)]; simp)]
      exact gr_skip (by omega) (fun j a c => hz j a (by omega))
theorem gr_full {g : G} {W n : Nat} (hp : Part W (full n)) (hn : n ≤ 32) : gr g W n = gr g W 32 :=
  (gr_skip hn (fun j hj _ => by
    cases h : W.testBit j with
    | false => rfl
    | true => have := part_full hp h; omega)).symm
theorem gr_zero (g : G) : ∀ b, gr g 0 b = 0
  | 0 => rfl
  | b + 1 => by rw [gr, if_neg (by simp), gr_zero g b]

def wsh (e w : Nat) : Nat := if w &&& e = 0 then lowb e else w &&& e
theorem wsh_lt {e w : Nat} (he : e < 4294967296) : wsh e w < 4294967296 := by
  rw [wsh]; split
  · exact lowb_lt e he
  · exact Nat.lt_of_le_of_lt Nat.and_le_right he
theorem wsh_part {e w : Nat} (he : e < 4294967296) : Part (wsh e w) e := by
  rw [wsh]; split
  · exact lowb_part he
  · exact part_and _ _
def rs (g : G) (k : Int) (e w : Nat) : Nat := if k = 1 then lowb (wsh e w) else if k = 2 then gr g (wsh e w) 32 else if k = 4 then e else wsh e w
theorem rs_zero (g : G) (k : Int) (w : Nat) : rs g k 0 w = 0 := by
  have : wsh 0 w = 0 := by rw [wsh, if_pos (by simp)]; rfl
  rw [rs, this, gr_zero]
  split
  · rfl
  · split
    · rfl
    · split <;> rfl

set_option maxHeartbeats 8000000 in
theorem nresolve_ok (g : G) (hg : g.valid = true) (k : Int) (e w : Nat) (he : e < 4294967296) (hw : w < 4294967296) (hp : Part e (full g.ports.length)) : RG 37 [.fz g.ports.length 1 false (vNet g), .int .i64 k, .int .u32 e, .int .u32 w] (.int .u32 (rs g k e w)) := by
  obtain ⟨f1, f2, f3, f4, f5, f6, f7⟩ := val_facts hg
  have ha := bit_and hw he
  have hne : bitI .and .u32 (e : Int) (((4294967296 - e) % 4294967296 : Nat) : Int) = (lowb e : Nat) := by rw [bit_and he (Nat.mod_lt _ (by omega)), lowb_neg he]
  have hW := wsh_lt (w := w) he
  have hWp := part_trans (wsh_part (w := w) he) hp
  have hnw : bitI .and .u32 (wsh e w : Nat) (((4294967296 - wsh e w) % 4294967296 : Nat) : Int) = (lowb (wsh e w) : Nat) := by rw [bit_and hW (Nat.mod_lt _ (by omega)), lowb_neg hW]
  refine ret_frzG rfl ?_
  refine fn_rule mixed Tryd.func37 rfl hc37 hr37 rfl ?_
  rw [rs]
  by_cases hz : w &&& e = 0
  · have hww : wsh e w = lowb e := by rw [wsh, if_pos hz]
    rw [hww] at hW hWp hnw ⊢
    by_cases k2 : k = 2
    · have k1 : ¬ k = 1 := by omega
      rw [if_neg k1, if_pos k2]
      repeat' ((conv => whnf); first
          | (refine Sv.mk _ ha.symm ?_)
          | (refine Ar.neg32 he ?_)
          | (refine Sv.mk _ hne.symm ?_)
          | (refine Br.tt ?_)
          | (refine Br.ff ?_)
          | (refine Br.dec (fun _ => ?_) (fun _ => ?_) <;> first | (exfalso; omega) | skip)
          | (refine Br.beq (fun _ => ?_) (fun _ => ?_) <;> first | (exfalso; omega) | skip)
          | (refine Br.bne (fun _ => ?_) (fun _ => ?_) <;> first | (exfalso; omega) | skip)
          | (refine Br.nbeq (fun _ => ?_) (fun _ => ?_) <;> first | (exfalso; omega) | skip)
          | (refine Br.nble (fun _ => ?_) (fun _ => ?_) <;> first | (exfalso; omega) | skip)
          | (refine Ar.i64 (by omega) (by omega) ?_)
          | (refine Ar.u32 (by omega) (by omega) ?_)
          | (refine Ar.sh1 (by omega) ?_)
          | (refine Ar.u64 (by omega) (by omega) ?_)
          | (refine Sv.mk _ rfl ?_)
          | (refine Nz.mk (by omega) ?_)
          | (refine Nn.mk (by omega) ?_)
          | (refine Ix.nat (by omega) ?_)
          | (refine Ix.ofNat (by omega) ?_)
          | (refine Ix.mk 0 rfl (by omega) ?_)
          | (refine Ix.mk 1 rfl (by omega) ?_)
          | (refine Ix.int (by omega) (by omega) ?_)
          | (refine Bd.nat (by omega) ?_)
          | (refine Bd.mk 0 rfl (by omega) ?_)
          | (refine Bd.mk 1 rfl (by omega) ?_)
          | (refine Bd.int (by omega) (by omega) ?_)
          | (refine Len.mk (by omega) ?_)
          | (refine Len.mk (by simp only [List.length_cons, List.length_nil]; omega) ?_)
          | (refine Ltn.mk (by omega) ?_)
          | (refine Both.mk ?_ ?_)
          | (refine MkS.vec ?_)
          | (refine fn_rule mixed Tryd.func44 rfl hc44 hr44 rfl ?_)
          | (refine range_rule ?_)
          | (refine Chk.mk (by kernel_rfl) ?_)
          | (refine fn_rule mixed Tryd.func50 rfl hc50 hr50 rfl ?_)
          | (refine Br.any (fun _ => ?_) (fun _ => ?_)))
      all_goals (conv => whnf)
      generalize lowb e = W at *
      refine loop_u mixed [0, 1] [] [4, 5, 6, 7, 8, 9, 10, 11, 12, 13, 14, 15, 16, 17, 18, 19, 20, 21, 22, 23, 24, 25, 26, 27, 28, 29] [3, 2, 1, 0, 999] (fun b : Nat => []) (fun own b => cleanO (updO (updO own 1 (.cells [.int .u32 (gr g W b)])) 2 (.cells [.int .u32 (upS W b)]))) (fun m b => m = 32 - b ∧ b ≤ 32) 32 0 ⟨rfl, by omega⟩ rfl (fun _ => rfl) ?_ ?_
      · have hx := upS_zero hW
        refine weak_by (fun _ _ => [(0, some 0), (1, some 1), (2, some 2), (3, some 3), (999, some 999)]) ?_ ?_ rfl
        · repeat' (first | exact VRen.int (by rw [hx]) | exact VRen.yld rfl | (refine VRen.fn ?_) | (refine ⟨rfl, rfl, rfl, rfl, rfl, ?_⟩) | exact True.intro | exact VRen.oel rfl rfl | exact VRen.map rfl | exact VRen.yld rfl | (refine VRen.fn ?_) | exact ⟨rfl, rfl⟩ | exact ⟨rfl, rfl, rfl⟩ | (refine ⟨rfl, rfl, rfl, rfl, rfl, ?_⟩) | (refine ⟨⟨_, rfl, ?_⟩, ?_⟩) | exact VRen.kf rfl | exact VRen.int rfl | exact VRen.int (by omega) | exact VRen.loc rfl | exact VRen.vec rfl rfl rfl | exact VRen.vec rfl (by omega) (by omega) | exact VRen.nil rfl rfl | exact VRen.nil rfl (by omega) | exact VRen.fz rfl (fun h => h) (fun _ _ _ _ => VLe.rfl) | (refine ⟨Nat.le_refl _, rfl, fun i j hi hj => ?_⟩) | (refine ⟨by omega, rfl, fun i j hi hj => ?_⟩) | exact VLe.rfl | (refine ⟨⟨_, _, rfl⟩, ?_⟩) | (refine And.intro ?_ ?_))
        · repeat' (first | exact VRen.int (by rw [hx]) | exact VRen.yld rfl | (refine VRen.fn ?_) | (refine ⟨rfl, rfl, rfl, rfl, rfl, ?_⟩) | exact True.intro | exact VRen.oel rfl rfl | exact VRen.map rfl | exact VRen.yld rfl | (refine VRen.fn ?_) | exact ⟨rfl, rfl⟩ | exact ⟨rfl, rfl, rfl⟩ | (refine ⟨rfl, rfl, rfl, rfl, rfl, ?_⟩) | (refine ⟨⟨_, rfl, ?_⟩, ?_⟩) | exact VRen.kf rfl | exact VRen.int rfl | exact VRen.int (by omega) | exact VRen.loc rfl | exact VRen.vec rfl rfl rfl | exact VRen.vec rfl (by omega) (by omega) | exact VRen.nil rfl rfl | exact VRen.nil rfl (by omega) | exact VRen.fz rfl (fun h => h) (fun _ _ _ _ => VLe.rfl) | (refine ⟨Nat.le_refl _, rfl, fun i j hi hj => ?_⟩) | (refine ⟨by omega, rfl, fun i j hi hj => ?_⟩) | exact VLe.rfl | (refine ⟨⟨_, _, rfl⟩, ?_⟩) | (refine And.intro ?_ ?_))
      rintro m b ⟨hm, hb⟩
      have hul := upS_lt W b
      by_cases hu : upS W b = 0
      · repeat' ((conv => whnf); first
            | (refine Br.tt ?_)
            | (refine Br.ff ?_)
            | (refine Br.dec (fun _ => ?_) (fun _ => ?_) <;> first | (exfalso; omega) | skip)
            | (refine Br.beq (fun _ => ?_) (fun _ => ?_) <;> first | (exfalso; omega) | skip)
            | (refine Br.bne (fun _ => ?_) (fun _ => ?_) <;> first | (exfalso; omega) | skip)
            | (refine Br.nbeq (fun _ => ?_) (fun _ => ?_) <;> first | (exfalso; omega) | skip)
            | (refine Br.nble (fun _ => ?_) (fun _ => ?_) <;> first | (exfalso; omega) | skip)
            | (refine Ar.i64 (by omega) (by omega) ?_)
            | (refine Ar.u32 (by omega) (by omega) ?_)
            | (refine Ar.sh1 (by omega) ?_)
            | (refine Ar.u64 (by omega) (by omega) ?_)
            | (refine Sv.mk _ rfl ?_)
            | (refine Nz.mk (by omega) ?_)
            | (refine Nn.mk (by omega) ?_)
            | (refine Ix.nat (by omega) ?_)
            | (refine Ix.ofNat (by omega) ?_)
            | (refine Ix.mk 0 rfl (by omega) ?_)
            | (refine Ix.mk 1 rfl (by omega) ?_)
            | (refine Ix.int (by omega) (by omega) ?_)
            | (refine Bd.nat (by omega) ?_)
            | (refine Bd.mk 0 rfl (by omega) ?_)
            | (refine Bd.mk 1 rfl (by omega) ?_)
            | (refine Bd.int (by omega) (by omega) ?_)
            | (refine Len.mk (by omega) ?_)
            | (refine Len.mk (by simp only [List.length_cons, List.length_nil]; omega) ?_)
            | (refine Ltn.mk (by omega) ?_)
            | (refine Both.mk ?_ ?_)
            | (refine MkS.vec ?_)
            | (refine Br.any (fun _ => ?_) (fun _ => ?_)))
        all_goals (conv => whnf)
        have hx : gr g W 32 = gr g W b := gr_skip hb (fun j hj _ => upS_end hW hu j hj)
        rw [hx]
        exact VLe.rfl
      · obtain ⟨v1, v2, v3, v4, v5⟩ := upS_next hW hu
        have htz := tz_ok _ hu hul
        have hr : bitI .and .u32 ((upS W b : Nat) : Int) ((upS W b : Nat) - 1 : Int) = ((upS W (ctz (upS W b) + 1) : Nat) : Int) := by
          rw [← v5, show ((upS W b : Nat) : Int) - 1 = ((upS W b - 1 : Nat) : Int) by omega, bit_and hul (by omega)]
        generalize ctz (upS W b) = v at *
        have hvn := part_full hWp v3
        have hnl := nm_lt _ (row_lt hg hvn)
        have hgl := gr_lt g W hb
        have hga := bit_and hnl hgl
        have hgo := bit_or hgl (pow_lt32 v1)
        have hsk := gr_skip (g := g) v2 v4
        repeat' ((conv => whnf); first
            | (refine Sv.mk _ hga.symm ?_)
            | (refine Br.tt ?_)
            | (refine Br.ff ?_)
            | (refine Br.dec (fun _ => ?_) (fun _ => ?_) <;> first | (exfalso; omega) | skip)
            | (refine Br.beq (fun _ => ?_) (fun _ => ?_) <;> first | (exfalso; omega) | skip)
            | (refine Br.bne (fun _ => ?_) (fun _ => ?_) <;> first | (exfalso; omega) | skip)
            | (refine Br.nbeq (fun _ => ?_) (fun _ => ?_) <;> first | (exfalso; omega) | skip)
            | (refine Br.nble (fun _ => ?_) (fun _ => ?_) <;> first | (exfalso; omega) | skip)
            | (refine Ar.i64 (by omega) (by omega) ?_)
            | (refine Ar.u32 (by omega) (by omega) ?_)
            | (refine Ar.sh1 (by omega) ?_)
            | (refine Ar.u64 (by omega) (by omega) ?_)
            | (refine Sv.mk _ rfl ?_)
            | (refine Nz.mk (by omega) ?_)
            | (refine Nn.mk (by omega) ?_)
            | (refine Ix.nat (by omega) ?_)
            | (refine Ix.ofNat (by omega) ?_)
            | (refine Ix.mk 0 rfl (by omega) ?_)
            | (refine Ix.mk 1 rfl (by omega) ?_)
            | (refine Ix.int (by omega) (by omega) ?_)
            | (refine Bd.nat (by omega) ?_)
            | (refine Bd.mk 0 rfl (by omega) ?_)
            | (refine Bd.mk 1 rfl (by omega) ?_)
            | (refine Bd.int (by omega) (by omega) ?_)
            | (refine Len.mk (by omega) ?_)
            | (refine Len.mk (by simp only [List.length_cons, List.length_nil]; omega) ?_)
            | (refine Ltn.mk (by omega) ?_)
            | (refine Both.mk ?_ ?_)
            | (refine MkS.vec ?_)
            | (refine (htz _ _ rfl).mono ?_; rintro _ _ _ ⟨rfl, rfl, rfl⟩)
            | (refine Chk.mk (by kernel_rfl) ?_)
            | (refine yield_rule mixed rfl rfl ?_)
            | (refine And.intro rfl ?_)
            | (refine Br.any (fun _ => ?_) (fun _ => ?_)))
        all_goals (conv => whnf)
        all_goals
          refine ⟨32 - (v + 1), v + 1, by omega, ⟨rfl, by omega⟩, ?_⟩
          first
          | (have hs : gr g W (v + 1) = gr g W b ||| 2 ^ v := by rw [gr, hsk, if_pos ⟨v3, by omega⟩]
             refine weak_by (fun _ _ => [(0, some 0), (1, some 1), (2, some 2), (3, some 3), (999, some 999)]) ?_ ?_ rfl
             · repeat' (first | exact VRen.int hr | exact VRen.int (by rw [hs]; exact hgo) | exact VRen.yld rfl | (refine VRen.fn ?_) | (refine ⟨rfl, rfl, rfl, rfl, rfl, ?_⟩) | exact True.intro | exact VRen.oel rfl rfl | exact VRen.map rfl | exact VRen.yld rfl | (refine VRen.fn ?_) | exact ⟨rfl, rfl⟩ | exact ⟨rfl, rfl, rfl⟩ | (refine ⟨rfl, rfl, rfl, rfl, rfl, ?_⟩) | (refine ⟨⟨_, rfl, ?_⟩, ?_⟩) | exact VRen.kf rfl | exact VRen.int rfl | exact VRen.int (by omega) | exact VRen.loc rfl | exact VRen.vec rfl rfl rfl | exact VRen.vec rfl (by omega) (by omega) | exact VRen.nil rfl rfl | exact VRen.nil rfl (by omega) | exact VRen.fz rfl (fun h => h) (fun _ _ _ _ => VLe.rfl) | (refine ⟨Nat.le_refl _, rfl, fun i j hi hj => ?_⟩) | (refine ⟨by omega, rfl, fun i j hi hj => ?_⟩) | exact VLe.rfl | (refine ⟨⟨_, _, rfl⟩, ?_⟩) | (refine And.intro ?_ ?_))
             · repeat' (first | exact VRen.int hr | exact VRen.int (by rw [hs]; exact hgo) | exact VRen.yld rfl | (refine VRen.fn ?_) | (refine ⟨rfl, rfl, rfl, rfl, rfl, ?_⟩) | exact True.intro | exact VRen.oel rfl rfl | exact VRen.map rfl | exact VRen.yld rfl | (refine VRen.fn ?_) | exact ⟨rfl, rfl⟩ | exact ⟨rfl, rfl, rfl⟩ | (refine ⟨rfl, rfl, rfl, rfl, rfl, ?_⟩) | (refine ⟨⟨_, rfl, ?_⟩, ?_⟩) | exact VRen.kf rfl | exact VRen.int rfl | exact VRen.int (by omega) | exact VRen.loc rfl | exact VRen.vec rfl rfl rfl | exact VRen.vec rfl (by omega) (by omega) | exact VRen.nil rfl rfl | exact VRen.nil rfl (by omega) | exact VRen.fz rfl (fun h => h) (fun _ _ _ _ => VLe.rfl) | (refine ⟨Nat.le_refl _, rfl, fun i j hi hj => ?_⟩) | (refine ⟨by omega, rfl, fun i j hi hj => ?_⟩) | exact VLe.rfl | (refine ⟨⟨_, _, rfl⟩, ?_⟩) | (refine And.intro ?_ ?_)))
          | (have hs : gr g W (v + 1) = gr g W b := by rw [gr, hsk, if_neg (fun h => by have := h.2; omega)]
             refine weak_by (fun _ _ => [(0, some 0), (1, some 1), (2, some 2), (3, some 3), (999, some 999)]) ?_ ?_ rfl
             · repeat' (first | exact VRen.int hr | exact VRen.int (by rw [hs]) | exact VRen.yld rfl | (refine VRen.fn ?_) | (refine ⟨rfl, rfl, rfl, rfl, rfl, ?_⟩) | exact True.intro | exact VRen.oel rfl rfl | exact VRen.map rfl | exact VRen.yld rfl | (refine VRen.fn ?_) | exact ⟨rfl, rfl⟩ | exact ⟨rfl, rfl, rfl⟩ | (refine ⟨rfl, rfl, rfl, rfl, rfl, ?_⟩) | (refine ⟨⟨_, rfl, ?_⟩, ?_⟩) | exact VRen.kf rfl | exact VRen.int rfl | exact VRen.int (by omega) | exact VRen.loc rfl | exact VRen.vec rfl rfl rfl | exact VRen.vec rfl (by omega) (by omega) | exact VRen.nil rfl rfl | exact VRen.nil rfl (by omega) | exact VRen.fz rfl (fun h => h) (fun _ _ _ _ => VLe.rfl) | (refine ⟨Nat.le_refl _, rfl, fun i j hi hj => ?_⟩) | (refine ⟨by omega, rfl, fun i j hi hj => ?_⟩) | exact VLe.rfl | (refine ⟨⟨_, _, rfl⟩, ?_⟩) | (refine And.intro ?_ ?_))
             · repeat' (first | exact VRen.int hr | exact VRen.int (by rw [hs]) | exact VRen.yld rfl | (refine VRen.fn ?_) | (refine ⟨rfl, rfl, rfl, rfl, rfl, ?_⟩) | exact True.intro | exact VRen.oel rfl rfl | exact VRen.map rfl | exact VRen.yld rfl | (refine VRen.fn ?_) | exact ⟨rfl, rfl⟩ | exact ⟨rfl, rfl, rfl⟩ | (refine ⟨rfl, rfl, rfl, rfl, rfl, ?_⟩) | (refine ⟨⟨_, rfl, ?_⟩, ?_⟩) | exact VRen.kf rfl | exact VRen.int rfl | exact VRen.int (by omega) | exact VRen.loc rfl | exact VRen.vec rfl rfl rfl | exact VRen.vec rfl (by omega) (by omega) | exact VRen.nil rfl rfl | exact VRen.nil rfl (by omega) | exact VRen.fz rfl (fun h => h) (fun _ _ _ _ => VLe.rfl) | (refine ⟨Nat.le_refl _, rfl, fun i j hi hj => ?_⟩) | (refine ⟨by omega, rfl, fun i j hi hj => ?_⟩) | exact VLe.rfl | (refine ⟨⟨_, _, rfl⟩, ?_⟩) | (refine And.intro ?_ ?_)))
    · repeat' ((conv => whnf); first
          | (refine Sv.mk _ ha.symm ?_)
          | (refine Ar.neg32 he ?_)
          | (refine Sv.mk _ hne.symm ?_)
          | (refine Ar.neg32 hW ?_)
          | (refine Sv.mk _ hnw.symm ?_)
          | (refine Br.tt ?_)
          | (refine Br.ff ?_)
          | (refine Br.dec (fun _ => ?_) (fun _ => ?_) <;> first | (exfalso; omega) | skip)
          | (refine Br.beq (fun _ => ?_) (fun _ => ?_) <;> first | (exfalso; omega) | skip)
          | (refine Br.bne (fun _ => ?_) (fun _ => ?_) <;> first | (exfalso; omega) | skip)
          | (refine Br.nbeq (fun _ => ?_) (fun _ => ?_) <;> first | (exfalso; omega) | skip)
          | (refine Br.nble (fun _ => ?_) (fun _ => ?_) <;> first | (exfalso; omega) | skip)
          | (refine Ar.i64 (by omega) (by omega) ?_)
          | (refine Ar.u32 (by omega) (by omega) ?_)
          | (refine Ar.sh1 (by omega) ?_)
          | (refine Ar.u64 (by omega) (by omega) ?_)
          | (refine Sv.mk _ rfl ?_)
          | (refine Nz.mk (by omega) ?_)
          | (refine Nn.mk (by omega) ?_)
          | (refine Ix.nat (by omega) ?_)
          | (refine Ix.ofNat (by omega) ?_)
          | (refine Ix.mk 0 rfl (by omega) ?_)
          | (refine Ix.mk 1 rfl (by omega) ?_)
          | (refine Ix.int (by omega) (by omega) ?_)
          | (refine Bd.nat (by omega) ?_)
          | (refine Bd.mk 0 rfl (by omega) ?_)
          | (refine Bd.mk 1 rfl (by omega) ?_)
          | (refine Bd.int (by omega) (by omega) ?_)
          | (refine Len.mk (by omega) ?_)
          | (refine Len.mk (by simp only [List.length_cons, List.length_nil]; omega) ?_)
          | (refine Ltn.mk (by omega) ?_)
          | (refine Both.mk ?_ ?_)
          | (refine MkS.vec ?_)
          | (refine Br.any (fun _ => ?_) (fun _ => ?_)))
      all_goals (conv => whnf)
      all_goals first
        | (rw [if_pos (by assumption)]; exact VLe.rfl)
        | (rw [if_neg (by assumption), if_neg k2, if_pos (by assumption)]; exact VLe.rfl)
        | (rw [if_neg (by assumption), if_neg k2, if_neg (by assumption)]; exact VLe.rfl)
  · have hww : wsh e w = w &&& e := by rw [wsh, if_neg hz]
    rw [hww] at hW hWp hnw ⊢
    by_cases k2 : k = 2
    · have k1 : ¬ k = 1 := by omega
      rw [if_neg k1, if_pos k2]
      repeat' ((conv => whnf); first
          | (refine Sv.mk _ ha.symm ?_)
          | (refine Ar.neg32 he ?_)
          | (refine Sv.mk _ hne.symm ?_)
          | (refine Br.tt ?_)
          | (refine Br.ff ?_)
          | (refine Br.dec (fun _ => ?_) (fun _ => ?_) <;> first | (exfalso; omega) | skip)
          | (refine Br.beq (fun _ => ?_) (fun _ => ?_) <;> first | (exfalso; omega) | skip)
          | (refine Br.bne (fun _ => ?_) (fun _ => ?_) <;> first | (exfalso; omega) | skip)
          | (refine Br.nbeq (fun _ => ?_) (fun _ => ?_) <;> first | (exfalso; omega) | skip)
          | (refine Br.nble (fun _ => ?_) (fun _ => ?_) <;> first | (exfalso; omega) | skip)
          | (refine Ar.i64 (by omega) (by omega) ?_)
          | (refine Ar.u32 (by omega) (by omega) ?_)
          | (refine Ar.sh1 (by omega) ?_)
          | (refine Ar.u64 (by omega) (by omega) ?_)
          | (refine Sv.mk _ rfl ?_)
          | (refine Nz.mk (by omega) ?_)
          | (refine Nn.mk (by omega) ?_)
          | (refine Ix.nat (by omega) ?_)
          | (refine Ix.ofNat (by omega) ?_)
          | (refine Ix.mk 0 rfl (by omega) ?_)
          | (refine Ix.mk 1 rfl (by omega) ?_)
          | (refine Ix.int (by omega) (by omega) ?_)
          | (refine Bd.nat (by omega) ?_)
          | (refine Bd.mk 0 rfl (by omega) ?_)
          | (refine Bd.mk 1 rfl (by omega) ?_)
          | (refine Bd.int (by omega) (by omega) ?_)
          | (refine Len.mk (by omega) ?_)
          | (refine Len.mk (by simp only [List.length_cons, List.length_nil]; omega) ?_)
          | (refine Ltn.mk (by omega) ?_)
          | (refine Both.mk ?_ ?_)
          | (refine MkS.vec ?_)
          | (refine fn_rule mixed Tryd.func44 rfl hc44 hr44 rfl ?_)
          | (refine range_rule ?_)
          | (refine Chk.mk (by kernel_rfl) ?_)
          | (refine fn_rule mixed Tryd.func50 rfl hc50 hr50 rfl ?_)
          | (refine Br.any (fun _ => ?_) (fun _ => ?_)))
      all_goals (conv => whnf)
      generalize w &&& e = W at *
      refine loop_u mixed [0, 1] [] [4, 5, 6, 7, 8, 9, 10, 11, 12, 13, 14, 15, 16, 17, 18, 19, 20, 21, 22, 23, 24, 25, 26, 27, 28, 29] [3, 2, 1, 0, 999] (fun b : Nat => []) (fun own b => cleanO (updO (updO own 1 (.cells [.int .u32 (gr g W b)])) 2 (.cells [.int .u32 (upS W b)]))) (fun m b => m = 32 - b ∧ b ≤ 32) 32 0 ⟨rfl, by omega⟩ rfl (fun _ => rfl) ?_ ?_
      · have hx := upS_zero hW
        refine weak_by (fun _ _ => [(0, some 0), (1, some 1), (2, some 2), (3, some 3), (999, some 999)]) ?_ ?_ rfl
        · repeat' (first | exact VRen.int (by rw [hx]) | exact VRen.yld rfl | (refine VRen.fn ?_) | (refine ⟨rfl, rfl, rfl, rfl, rfl, ?_⟩) | exact True.intro | exact VRen.oel rfl rfl | exact VRen.map rfl | exact VRen.yld rfl | (refine VRen.fn ?_) | exact ⟨rfl, rfl⟩ | exact ⟨rfl, rfl, rfl⟩ | (refine ⟨rfl, rfl, rfl, rfl, rfl, ?_⟩) | (refine ⟨⟨_, rfl, ?_⟩, ?_⟩) | exact VRen.kf rfl | exact VRen.int rfl | exact VRen.int (by omega) | exact VRen.loc rfl | exact VRen.vec rfl rfl rfl | exact VRen.vec rfl (by omega) (by omega) | exact VRen.nil rfl rfl | exact VRen.nil rfl (by omega) | exact VRen.fz rfl (fun h => h) (fun _ _ _ _ => VLe.rfl) | (refine ⟨Nat.le_refl _, rfl, fun i j hi hj => ?_⟩) | (refine ⟨by omega, rfl, fun i j hi hj => ?_⟩) | exact VLe.rfl | (refine ⟨⟨_, _, rfl⟩, ?_⟩) | (refine And.intro ?_ ?_))
        · repeat' (first | exact VRen.int (by rw [hx]) | exact VRen.yld rfl | (refine VRen.fn ?_) | (refine ⟨rfl, rfl, rfl, rfl, rfl, ?_⟩) | exact True.intro | exact VRen.oel rfl rfl | exact VRen.map rfl | exact VRen.yld rfl | (refine VRen.fn ?_) | exact ⟨rfl, rfl⟩ | exact ⟨rfl, rfl, rfl⟩ | (refine ⟨rfl, rfl, rfl, rfl, rfl, ?_⟩) | (refine ⟨⟨_, rfl, ?_⟩, ?_⟩) | exact VRen.kf rfl | exact VRen.int rfl | exact VRen.int (by omega) | exact VRen.loc rfl | exact VRen.vec rfl rfl rfl | exact VRen.vec rfl (by omega) (by omega) | exact VRen.nil rfl rfl | exact VRen.nil rfl (by omega) | exact VRen.fz rfl (fun h => h) (fun _ _ _ _ => VLe.rfl) | (refine ⟨Nat.le_refl _, rfl, fun i j hi hj => ?_⟩) | (refine ⟨by omega, rfl, fun i j hi hj => ?_⟩) | exact VLe.rfl | (refine ⟨⟨_, _, rfl⟩, ?_⟩) | (refine And.intro ?_ ?_))
      rintro m b ⟨hm, hb⟩
      have hul := upS_lt W b
      by_cases hu : upS W b = 0
      · repeat' ((conv => whnf); first
            | (refine Br.tt ?_)
            | (refine Br.ff ?_)
            | (refine Br.dec (fun _ => ?_) (fun _ => ?_) <;> first | (exfalso; omega) | skip)
            | (refine Br.beq (fun _ => ?_) (fun _ => ?_) <;> first | (exfalso; omega) | skip)
            | (refine Br.bne (fun _ => ?_) (fun _ => ?_) <;> first | (exfalso; omega) | skip)
            | (refine Br.nbeq (fun _ => ?_) (fun _ => ?_) <;> first | (exfalso; omega) | skip)
            | (refine Br.nble (fun _ => ?_) (fun _ => ?_) <;> first | (exfalso; omega) | skip)
            | (refine Ar.i64 (by omega) (by omega) ?_)
            | (refine Ar.u32 (by omega) (by omega) ?_)
            | (refine Ar.sh1 (by omega) ?_)
            | (refine Ar.u64 (by omega) (by omega) ?_)
            | (refine Sv.mk _ rfl ?_)
            | (refine Nz.mk (by omega) ?_)
            | (refine Nn.mk (by omega) ?_)
            | (refine Ix.nat (by omega) ?_)
            | (refine Ix.ofNat (by omega) ?_)
            | (refine Ix.mk 0 rfl (by omega) ?_)
            | (refine Ix.mk 1 rfl (by omega) ?_)
            | (refine Ix.int (by omega) (by omega) ?_)
            | (refine Bd.nat (by omega) ?_)
            | (refine Bd.mk 0 rfl (by omega) ?_)
            | (refine Bd.mk 1 rfl (by omega) ?_)
            | (refine Bd.int (by omega) (by omega) ?_)
            | (refine Len.mk (by omega) ?_)
            | (refine Len.mk (by simp only [List.length_cons, List.length_nil]; omega) ?_)
            | (refine Ltn.mk (by omega) ?_)
            | (refine Both.mk ?_ ?_)
            | (refine MkS.vec ?_)
            | (refine Br.any (fun _ => ?_) (fun _ => ?_)))
        all_goals (conv => whnf)
        have hx : gr g W 32 = gr g W b := gr_skip hb (fun j hj _ => upS_end hW hu j hj)
        rw [hx]
        exact VLe.rfl
      · obtain ⟨v1, v2, v3, v4, v5⟩ := upS_next hW hu
        have htz := tz_ok _ hu hul
        have hr : bitI .and .u32 ((upS W b : Nat) : Int) ((upS W b : Nat) - 1 : Int) = ((upS W (ctz (upS W b) + 1) : Nat) : Int) := by
          rw [← v5, show ((upS W b : Nat) : Int) - 1 = ((upS W b - 1 : Nat) : Int) by omega, bit_and hul (by omega)]
        generalize ctz (upS W b) = v at *
        have hvn := part_full hWp v3
        have hnl := nm_lt _ (row_lt hg hvn)
        have hgl := gr_lt g W hb
        have hga := bit_and hnl hgl
        have hgo := bit_or hgl (pow_lt32 v1)
        have hsk := gr_skip (g := g) v2 v4
        repeat' ((conv => whnf); first
            | (refine Sv.mk _ hga.symm ?_)
            | (refine Br.tt ?_)
            | (refine Br.ff ?_)
            | (refine Br.dec (fun _ => ?_) (fun _ => ?_) <;> first | (exfalso; omega) | skip)
            | (refine Br.beq (fun _ => ?_) (fun _ => ?_) <;> first | (exfalso; omega) | skip)
            | (refine Br.bne (fun _ => ?_) (fun _ => ?_) <;> first | (exfalso; omega) | skip)
            | (refine Br.nbeq (fun _ => ?_) (fun _ => ?_) <;> first | (exfalso; omega) | skip)
            | (refine Br.nble (fun _ => ?_) (fun _ => ?_) <;> first | (exfalso; omega) | skip)
            | (refine Ar.i64 (by omega) (by omega) ?_)
            | (refine Ar.u32 (by omega) (by omega) ?_)
            | (refine Ar.sh1 (by omega) ?_)
            | (refine Ar.u64 (by omega) (by omega) ?_)
            | (refine Sv.mk _ rfl ?_)
            | (refine Nz.mk (by omega) ?_)
            | (refine Nn.mk (by omega) ?_)
            | (refine Ix.nat (by omega) ?_)
            | (refine Ix.ofNat (by omega) ?_)
            | (refine Ix.mk 0 rfl (by omega) ?_)
            | (refine Ix.mk 1 rfl (by omega) ?_)
            | (refine Ix.int (by omega) (by omega) ?_)
            | (refine Bd.nat (by omega) ?_)
            | (refine Bd.mk 0 rfl (by omega) ?_)
            | (refine Bd.mk 1 rfl (by omega) ?_)
            | (refine Bd.int (by omega) (by omega) ?_)
            | (refine Len.mk (by omega) ?_)
            | (refine Len.mk (by simp only [List.length_cons, List.length_nil]; omega) ?_)
            | (refine Ltn.mk (by omega) ?_)
            | (refine Both.mk ?_ ?_)
            | (refine MkS.vec ?_)
            | (refine (htz _ _ rfl).mono ?_; rintro _ _ _ ⟨rfl, rfl, rfl⟩)
            | (refine Chk.mk (by kernel_rfl) ?_)
            | (refine yield_rule mixed rfl rfl ?_)
            | (refine And.intro rfl ?_)
            | (refine Br.any (fun _ => ?_) (fun _ => ?_)))
        all_goals (conv => whnf)
        all_goals
          refine ⟨32 - (v + 1), v + 1, by omega, ⟨rfl, by omega⟩, ?_⟩
          first
          | (have hs : gr g W (v + 1) = gr g W b ||| 2 ^ v := by rw [gr, hsk, if_pos ⟨v3, by omega⟩]
             refine weak_by (fun _ _ => [(0, some 0), (1, some 1), (2, some 2), (3, some 3), (999, some 999)]) ?_ ?_ rfl
             · repeat' (first | exact VRen.int hr | exact VRen.int (by rw [hs]; exact hgo) | exact VRen.yld rfl | (refine VRen.fn ?_) | (refine ⟨rfl, rfl, rfl, rfl, rfl, ?_⟩) | exact True.intro | exact VRen.oel rfl rfl | exact VRen.map rfl | exact VRen.yld rfl | (refine VRen.fn ?_) | exact ⟨rfl, rfl⟩ | exact ⟨rfl, rfl, rfl⟩ | (refine ⟨rfl, rfl, rfl, rfl, rfl, ?_⟩) | (refine ⟨⟨_, rfl, ?_⟩, ?_⟩) | exact VRen.kf rfl | exact VRen.int rfl | exact VRen.int (by omega) | exact VRen.loc rfl | exact VRen.vec rfl rfl rfl | exact VRen.vec rfl (by omega) (by omega) | exact VRen.nil rfl rfl | exact VRen.nil rfl (by omega) | exact VRen.fz rfl (fun h => h) (fun _ _ _ _ => VLe.rfl) | (refine ⟨Nat.le_refl _, rfl, fun i j hi hj => ?_⟩) | (refine ⟨by omega, rfl, fun i j hi hj => ?_⟩) | exact VLe.rfl | (refine ⟨⟨_, _, rfl⟩, ?_⟩) | (refine And.intro ?_ ?_))
             · repeat' (first | exact VRen.int hr | exact VRen.int (by rw [hs]; exact hgo) | exact VRen.yld rfl | (refine VRen.fn ?_) | (refine ⟨rfl, rfl, rfl, rfl, rfl, ?_⟩) | exact True.intro | exact VRen.oel rfl rfl | exact VRen.map rfl | exact VRen.yld rfl | (refine VRen.fn ?_) | exact ⟨rfl, rfl⟩ | exact ⟨rfl, rfl, rfl⟩ | (refine ⟨rfl, rfl, rfl, rfl, rfl, ?_⟩) | (refine ⟨⟨_, rfl, ?_⟩, ?_⟩) | exact VRen.kf rfl | exact VRen.int rfl | exact VRen.int (by omega) | exact VRen.loc rfl | exact VRen.vec rfl rfl rfl | exact VRen.vec rfl (by omega) (by omega) | exact VRen.nil rfl rfl | exact VRen.nil rfl (by omega) | exact VRen.fz rfl (fun h => h) (fun _ _ _ _ => VLe.rfl) | (refine ⟨Nat.le_refl _, rfl, fun i j hi hj => ?_⟩) | (refine ⟨by omega, rfl, fun i j hi hj => ?_⟩) | exact VLe.rfl | (refine ⟨⟨_, _, rfl⟩, ?_⟩) | (refine And.intro ?_ ?_)))
          | (have hs : gr g W (v + 1) = gr g W b := by rw [gr, hsk, if_neg (fun h => by have := h.2; omega)]
             refine weak_by (fun _ _ => [(0, some 0), (1, some 1), (2, some 2), (3, some 3), (999, some 999)]) ?_ ?_ rfl
             · repeat' (first | exact VRen.int hr | exact VRen.int (by rw [hs]) | exact VRen.yld rfl | (refine VRen.fn ?_) | (refine ⟨rfl, rfl, rfl, rfl, rfl, ?_⟩) | exact True.intro | exact VRen.oel rfl rfl | exact VRen.map rfl | exact VRen.yld rfl | (refine VRen.fn ?_) | exact ⟨rfl, rfl⟩ | exact ⟨rfl, rfl, rfl⟩ | (refine ⟨rfl, rfl, rfl, rfl, rfl, ?_⟩) | (refine ⟨⟨_, rfl, ?_⟩, ?_⟩) | exact VRen.kf rfl | exact VRen.int rfl | exact VRen.int (by omega) | exact VRen.loc rfl | exact VRen.vec rfl rfl rfl | exact VRen.vec rfl (by omega) (by omega) | exact VRen.nil rfl rfl | exact VRen.nil rfl (by omega) | exact VRen.fz rfl (fun h => h) (fun _ _ _ _ => VLe.rfl) | (refine ⟨Nat.le_refl _, rfl, fun i j hi hj => ?_⟩) | (refine ⟨by omega, rfl, fun i j hi hj => ?_⟩) | exact VLe.rfl | (refine ⟨⟨_, _, rfl⟩, ?_⟩) | (refine And.intro ?_ ?_))
             · repeat' (first | exact VRen.int hr | exact VRen.int (by rw [hs]) | exact VRen.yld rfl | (refine VRen.fn ?_) | (refine ⟨rfl, rfl, rfl, rfl, rfl, ?_⟩) | exact True.intro | exact VRen.oel rfl rfl | exact VRen.map rfl | exact VRen.yld rfl | (refine VRen.fn ?_) | exact ⟨rfl, rfl⟩ | exact ⟨rfl, rfl, rfl⟩ | (refine ⟨rfl, rfl, rfl, rfl, rfl, ?_⟩) | (refine ⟨⟨_, rfl, ?_⟩, ?_⟩) | exact VRen.kf rfl | exact VRen.int rfl | exact VRen.int (by omega) | exact VRen.loc rfl | exact VRen.vec rfl rfl rfl | exact VRen.vec rfl (by omega) (by omega) | exact VRen.nil rfl rfl | exact VRen.nil rfl (by omega) | exact VRen.fz rfl (fun h => h) (fun _ _ _ _ => VLe.rfl) | (refine ⟨Nat.le_refl _, rfl, fun i j hi hj => ?_⟩) | (refine ⟨by omega, rfl, fun i j hi hj => ?_⟩) | exact VLe.rfl | (refine ⟨⟨_, _, rfl⟩, ?_⟩) | (refine And.intro ?_ ?_)))
    · repeat' ((conv => whnf); first
          | (refine Sv.mk _ ha.symm ?_)
          | (refine Ar.neg32 he ?_)
          | (refine Sv.mk _ hne.symm ?_)
          | (refine Ar.neg32 hW ?_)
          | (refine Sv.mk _ hnw.symm ?_)
          | (refine Br.tt ?_)
          | (refine Br.ff ?_)
          | (refine Br.dec (fun _ => ?_) (fun _ => ?_) <;> first | (exfalso; omega) | skip)
          | (refine Br.beq (fun _ => ?_) (fun _ => ?_) <;> first | (exfalso; omega) | skip)
          | (refine Br.bne (fun _ => ?_) (fun _ => ?_) <;> first | (exfalso; omega) | skip)
          | (refine Br.nbeq (fun _ => ?_) (fun _ => ?_) <;> first | (exfalso; omega) | skip)
          | (refine Br.nble (fun _ => ?_) (fun _ => ?_) <;> first | (exfalso; omega) | skip)
          | (refine Ar.i64 (by omega) (by omega) ?_)
          | (refine Ar.u32 (by omega) (by omega) ?_)
          | (refine Ar.sh1 (by omega) ?_)
          | (refine Ar.u64 (by omega) (by omega) ?_)
          | (refine Sv.mk _ rfl ?_)
          | (refine Nz.mk (by omega) ?_)
          | (refine Nn.mk (by omega) ?_)
          | (refine Ix.nat (by omega) ?_)
          | (refine Ix.ofNat (by omega) ?_)
          | (refine Ix.mk 0 rfl (by omega) ?_)
          | (refine Ix.mk 1 rfl (by omega) ?_)
          | (refine Ix.int (by omega) (by omega) ?_)
          | (refine Bd.nat (by omega) ?_)
          | (refine Bd.mk 0 rfl (by omega) ?_)
          | (refine Bd.mk 1 rfl (by omega) ?_)
          | (refine Bd.int (by omega) (by omega) ?_)
          | (refine Len.mk (by omega) ?_)
          | (refine Len.mk (by simp only [List.length_cons, List.length_nil]; omega) ?_)
          | (refine Ltn.mk (by omega) ?_)
          | (refine Both.mk ?_ ?_)
          | (refine MkS.vec ?_)
          | (refine Br.any (fun _ => ?_) (fun _ => ?_)))
      all_goals (conv => whnf)
      all_goals first
        | (rw [if_pos (by assumption)]; exact VLe.rfl)
        | (rw [if_neg (by assumption), if_neg k2, if_pos (by assumption)]; exact VLe.rfl)
        | (rw [if_neg (by assumption), if_neg k2, if_neg (by assumption)]; exact VLe.rfl)
end Go.Proofs.YtjadlpflhmooaaaDoor
