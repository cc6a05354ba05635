import Derived.Test.YtjadlpflhmooaaaGR11
namespace Go.Proofs.Ytjadlpflhmooaaa
open Go.Eng
set_option maxRecDepth 100000
set_option linter.unusedVariables false

/-! ## the example of the chapter -/

def l01 : List Int := [0, 1]
def netL (n : Int) (l : List Int) : V := .agg [.int .i64 n, .fz l.length 1 false (vI l), .nilslice, .nilslice, .bool false, .bool false]
def t3 : G := ⟨[0, 1, 2], [[(1, 1)], [(0, 1), (2, 1)], [(1, 1)]]⟩
theorem at01_0 : Ret Try.prog 49 [.fz 2 1 false (vI l01), .int .i64 0] (.int .i64 0) := at_ok l01 (by decide) 0
theorem at01_1 : Ret Try.prog 49 [.fz 2 1 false (vI l01), .int .i64 1] (.int .i64 1) := at_ok l01 (by decide) 1
theorem w_0_1 : Ret Try.prog 48 [.int .i64 0, .int .i64 1] (.int .i64 0) := within_ok 0 1 (by decide)
theorem w_1_2 : Ret Try.prog 48 [.int .i64 1, .int .i64 2] (.int .i64 1) := within_ok 1 2 (by decide)

set_option maxHeartbeats 4000000 in
theorem tree3 : Ret Try.prog 55 [netL 3 l01, .int .i64 3] t3.v := by
  refine ret_frz2 rfl ?_
  refine fn_rule mixed Try.func55 rfl hc55 hr55 rfl ?_
  repeat' ((conv => whnf); first
      | (refine MkS.cells ?_)
      | (refine Bd.mk 3 (by decide) (by omega) ?_)
      | (refine Sv.mk 0 (by decide) ?_)
      | (refine Sv.mk 1 (by decide) ?_)
      | (refine Sv.mk 2 (by decide) ?_)
      | (refine Br.tt ?_)
      | (refine Br.ff ?_)
      | (refine Br.dec (fun _ => ?_) (fun _ => ?_) <;> first | (exfalso; omega) | skip)
      | (refine Br.beq (fun _ => ?_) (fun _ => ?_) <;> first | (exfalso; omega) | skip)
      | (refine Br.bne (fun _ => ?_) (fun _ => ?_) <;> first | (exfalso; omega) | skip)
      | (refine Br.nbeq (fun _ => ?_) (fun _ => ?_) <;> first | (exfalso; omega) | skip)
      | (refine Br.nble (fun _ => ?_) (fun _ => ?_) <;> first | (exfalso; omega) | skip)
      | (refine Ar.i64 (by omega) (by omega) ?_)
      | (refine Ar.u32 (by omega) (by omega) ?_)
      | (refine Ar.sh1 (by omega) ?_)
      | (refine Ar.u64 (by omega) (by omega) ?_)
      | (refine Sv.mk _ rfl ?_)
      | (refine Nz.mk (by omega) ?_)
      | (refine Nn.mk (by omega) ?_)
      | (refine Ix.nat (by omega) ?_)
      | (refine Ix.ofNat (by omega) ?_)
      | (refine Ix.mk 0 rfl (by omega) ?_)
      | (refine Ix.mk 1 rfl (by omega) ?_)
      | (refine Ix.int (by omega) (by omega) ?_)
      | (refine Bd.nat (by omega) ?_)
      | (refine Bd.mk 0 rfl (by omega) ?_)
      | (refine Bd.mk 1 rfl (by omega) ?_)
      | (refine Bd.int (by omega) (by omega) ?_)
      | (refine Len.mk (by omega) ?_)
      | (refine Len.mk (by simp only [List.length_cons, List.length_nil]; omega) ?_)
      | (refine Ltn.mk (by omega) ?_)
      | (refine Both.mk ?_ ?_)
      | (refine MkS.vec ?_)
      | (refine And.intro rfl ?_)
      | (refine fn_rule mixed Try.func47 rfl hc47 hr47 rfl ?_)
      | (refine fn_rule mixed Try.func72 rfl hc72 hr72 rfl ?_)
      | (refine fn_rule mixed Try.func84 rfl hc84 hr84 rfl ?_)
      | (refine (w_2_3 _ _).mono ?_; rintro _ _ _ ⟨rfl, rfl, rfl⟩)
      | (refine (w_0_256 _ _).mono ?_; rintro _ _ _ ⟨rfl, rfl, rfl⟩)
      | (refine (w_0_15 _ _).mono ?_; rintro _ _ _ ⟨rfl, rfl, rfl⟩)
      | (refine (w_0_1 _ _).mono ?_; rintro _ _ _ ⟨rfl, rfl, rfl⟩)
      | (refine (w_1_2 _ _).mono ?_; rintro _ _ _ ⟨rfl, rfl, rfl⟩)
      | (refine (at01_0 _ _).mono ?_; rintro _ _ _ ⟨rfl, rfl, rfl⟩)
      | (refine (at01_1 _ _).mono ?_; rintro _ _ _ ⟨rfl, rfl, rfl⟩)
      | (refine loop_fuel mixed 20 ?_)
      | (refine call_frz [] (at_nil 0) ⟨VLe.nilfz rfl, VLe.int (by omega), True.intro⟩ ?_)
      | (refine call_frz [] (at_nil 1) ⟨VLe.nilfz rfl, VLe.int (by omega), True.intro⟩ ?_)
      | (refine call_frz [] (at_nil 2) ⟨VLe.nilfz rfl, VLe.int (by omega), True.intro⟩ ?_)
      | (refine Br.any (fun _ => ?_) (fun _ => ?_)))
  all_goals (conv => whnf)
  refine VLe.agg ⟨VLe.fz rfl (fun h => h) (fun i j hi hj => ?_), VLe.fz rfl (fun h => h) (fun i j hi hj => ?_), True.intro⟩
  · rcases i with _ | _ | _ | i
    all_goals first | (exfalso; omega) | (rcases j with _ | j; exact VLe.rfl; exfalso; omega)
  · rcases i with _ | _ | _ | i
    all_goals first | (exfalso; omega) | skip
    all_goals
      refine VLe.fz rfl (fun h => h) (fun i j hi hj => ?_)
      rcases i with _ | _ | i
      all_goals first | (exfalso; omega) | (rcases j with _ | _ | j; exact VLe.rfl; exact VLe.rfl; exfalso; omega)

theorem t3_small : t3.Small := ⟨by decide, by decide, by decide⟩
theorem i101 : t3.ilegit [[1], [0], [1]] = true := by decide +kernel
theorem i010 : t3.ilegit [[0], [1], [0]] = true := by decide +kernel
theorem i100 : t3.ilegit [[1], [0], [0]] = false := by decide +kernel
theorem m101 : t3.imem [[1], [0], [1]] = 5 := by decide +kernel
theorem two_le (a b : Int) (f : Nat → Nat → V) (h0 : f 0 0 = .int .i64 a) (h1 : f 1 0 = .int .i64 b) : ∀ i j : Nat, i < 2 → j < 1 → VLe (f i j) (vI [a, b] i j) := by
  intro i j hi hj
  have e' : j = 0 := by omega
  subst e'
  rcases i with _ | _ | i
  · rw [h0]; exact VLe.rfl
  · rw [h1]; exact VLe.rfl
  · exfalso; omega

set_option maxHeartbeats 4000000 in
theorem known31_ok : Ret Try.prog 15 [] (.bool true) := by
  have h1 := ilegit_ok t3 t3_small _ (cf3_small 1 0 1)
  have h2 := ilegit_ok t3 t3_small _ (cf3_small 0 1 0)
  have h3 := ilegit_ok t3 t3_small _ (cf3_small 1 0 0)
  have h4 := members_ok t3 t3_small _ (cf3_small 1 0 1)
  rw [i101] at h1
  rw [i010] at h2
  rw [i100] at h3
  rw [m101] at h4
  refine ret_frz2 rfl ?_
  refine fn_rule mixed Try.func15 rfl hc15 hr15 rfl ?_
  repeat' ((conv => whnf); first
      | (refine Br.tt ?_)
      | (refine Br.ff ?_)
      | (refine Br.dec (fun _ => ?_) (fun _ => ?_) <;> first | (exfalso; omega) | skip)
      | (refine Br.beq (fun _ => ?_) (fun _ => ?_) <;> first | (exfalso; omega) | skip)
      | (refine Br.bne (fun _ => ?_) (fun _ => ?_) <;> first | (exfalso; omega) | skip)
      | (refine Br.nbeq (fun _ => ?_) (fun _ => ?_) <;> first | (exfalso; omega) | skip)
      | (refine Br.nble (fun _ => ?_) (fun _ => ?_) <;> first | (exfalso; omega) | skip)
      | (refine Ar.i64 (by omega) (by omega) ?_)
      | (refine Ar.u32 (by omega) (by omega) ?_)
      | (refine Ar.sh1 (by omega) ?_)
      | (refine Ar.u64 (by omega) (by omega) ?_)
      | (refine Sv.mk _ rfl ?_)
      | (refine Nz.mk (by omega) ?_)
      | (refine Nn.mk (by omega) ?_)
      | (refine Ix.nat (by omega) ?_)
      | (refine Ix.ofNat (by omega) ?_)
      | (refine Ix.mk 0 rfl (by omega) ?_)
      | (refine Ix.mk 1 rfl (by omega) ?_)
      | (refine Ix.int (by omega) (by omega) ?_)
      | (refine Bd.nat (by omega) ?_)
      | (refine Bd.mk 0 rfl (by omega) ?_)
      | (refine Bd.mk 1 rfl (by omega) ?_)
      | (refine Bd.int (by omega) (by omega) ?_)
      | (refine Len.mk (by omega) ?_)
      | (refine Len.mk (by simp only [List.length_cons, List.length_nil]; omega) ?_)
      | (refine Ltn.mk (by omega) ?_)
      | (refine Both.mk ?_ ?_)
      | (refine MkS.vec ?_)
      | (refine call_frz [0] tree3 ⟨by decide, VLe.agg ⟨VLe.rfl, VLe.fz rfl (fun h => h) (two_le _ _ _ rfl rfl), VLe.rfl, VLe.rfl, VLe.rfl, VLe.rfl, True.intro⟩, VLe.rfl, True.intro⟩ ?_)
      | (refine call_frz [2, 3, 4, 5] h1 ⟨by decide, by decide, by decide, VLe.rfl, cf3_le rfl rfl rfl rfl rfl rfl, True.intro⟩ ?_)
      | (refine call_frz [6, 7, 8, 9] h2 ⟨by decide, by decide, by decide, VLe.rfl, cf3_le rfl rfl rfl rfl rfl rfl, True.intro⟩ ?_)
      | (refine call_frz [10, 11, 12, 13] h3 ⟨by decide, by decide, by decide, VLe.rfl, cf3_le rfl rfl rfl rfl rfl rfl, True.intro⟩ ?_)
      | (refine call_frz [14, 15, 16, 17] h4 ⟨by decide, by decide, by decide, VLe.rfl, cf3_le rfl rfl rfl rfl rfl rfl, True.intro⟩ ?_)
      | (refine Br.any (fun _ => ?_) (fun _ => ?_)))
  all_goals (conv => whnf)
  all_goals exact VLe.rfl

def bigI (g : G) (c : Cf) : Bool := decide (g.ports.length > 60 ∨ g.ids.length > 60 ∨ c.length > 60)
theorem large31_ok (g : G) (hs : g.Small) (c : Cf) (hc : CSmall c) : Ret Try.prog 27 [g.v, cV c] (.bool (bigI g c)) := by
  have s1 := hs.ids
  have s2 := hs.ports
  have s3 := hc.len
  refine ret_frz rfl ?_
  refine fn_rule mixed Try.func27 rfl hc27 hr27 rfl ?_
  repeat' ((conv => whnf); first
      | (refine Br.tt ?_)
      | (refine Br.ff ?_)
      | (refine Br.dec (fun _ => ?_) (fun _ => ?_) <;> first | (exfalso; omega) | skip)
      | (refine Br.beq (fun _ => ?_) (fun _ => ?_) <;> first | (exfalso; omega) | skip)
      | (refine Br.bne (fun _ => ?_) (fun _ => ?_) <;> first | (exfalso; omega) | skip)
      | (refine Br.nbeq (fun _ => ?_) (fun _ => ?_) <;> first | (exfalso; omega) | skip)
      | (refine Br.nble (fun _ => ?_) (fun _ => ?_) <;> first | (exfalso; omega) | skip)
      | (refine Ar.i64 (by omega) (by omega) ?_)
      | (refine Ar.u32 (by omega) (by omega) ?_)
      | (refine Ar.sh1 (by omega) ?_)
      | (refine Ar.u64 (by omega) (by omega) ?_)
      | (refine Sv.mk _ rfl ?_)
      | (refine Nz.mk (by omega) ?_)
      | (refine Nn.mk (by omega) ?_)
      | (refine Ix.nat (by omega) ?_)
      | (refine Ix.ofNat (by omega) ?_)
      | (refine Ix.mk 0 rfl (by omega) ?_)
      | (refine Ix.mk 1 rfl (by omega) ?_)
      | (refine Ix.int (by omega) (by omega) ?_)
      | (refine Bd.nat (by omega) ?_)
      | (refine Bd.mk 0 rfl (by omega) ?_)
      | (refine Bd.mk 1 rfl (by omega) ?_)
      | (refine Bd.int (by omega) (by omega) ?_)
      | (refine Len.mk (by omega) ?_)
      | (refine Len.mk (by simp only [List.length_cons, List.length_nil]; omega) ?_)
      | (refine Ltn.mk (by omega) ?_)
      | (refine Both.mk ?_ ?_)
      | (refine MkS.vec ?_)
      | (refine Br.any (fun _ => ?_) (fun _ => ?_)))
  all_goals (conv => whnf)
  all_goals exact VLe.bool (by symm; rw [bigI]; first | (rw [decide_eq_true_eq]; omega) | (rw [decide_eq_false_iff_not]; omega))

set_option maxHeartbeats 4000000 in
theorem law31 (g : G) (hs : g.Small) (c : Cf) (hc : CSmall c) : Ret Try.prog 5 [g.v, cV c] (.bool true) := by
  have hl := large31_ok g hs c hc
  have h1 := ifit_ok g hs
  have h2 := rifit_ok g hs
  have h3 := ilegit_ok g hs c hc
  have h4 := rilegit_ok g hs c hc
  have h5 := iclaim_ok g hs
  have h6 := riclaim_ok g hs
  have h7 := members_ok g hs c hc
  have h8 := rmembers_ok g hs c hc
  refine ret_frz rfl ?_
  refine fn_rule mixed Try.func5 rfl hc5 hr5 rfl ?_
  by_cases hf : g.valid = true
  · rw [G.iclaim, if_pos hf] at h5 h6
    repeat' ((conv => whnf); first
        | (refine Br.self ?_)
        | (refine Br.tt ?_)
        | (refine Br.ff ?_)
        | (refine Br.dec (fun _ => ?_) (fun _ => ?_) <;> first | (exfalso; omega) | skip)
        | (refine Br.beq (fun _ => ?_) (fun _ => ?_) <;> first | (exfalso; omega) | skip)
        | (refine Br.bne (fun _ => ?_) (fun _ => ?_) <;> first | (exfalso; omega) | skip)
        | (refine Br.nbeq (fun _ => ?_) (fun _ => ?_) <;> first | (exfalso; omega) | skip)
        | (refine Br.nble (fun _ => ?_) (fun _ => ?_) <;> first | (exfalso; omega) | skip)
        | (refine Ar.i64 (by omega) (by omega) ?_)
        | (refine Ar.u32 (by omega) (by omega) ?_)
        | (refine Ar.sh1 (by omega) ?_)
        | (refine Ar.u64 (by omega) (by omega) ?_)
        | (refine Sv.mk _ rfl ?_)
        | (refine Nz.mk (by omega) ?_)
        | (refine Nn.mk (by omega) ?_)
        | (refine Ix.nat (by omega) ?_)
        | (refine Ix.ofNat (by omega) ?_)
        | (refine Ix.mk 0 rfl (by omega) ?_)
        | (refine Ix.mk 1 rfl (by omega) ?_)
        | (refine Ix.int (by omega) (by omega) ?_)
        | (refine Bd.nat (by omega) ?_)
        | (refine Bd.mk 0 rfl (by omega) ?_)
        | (refine Bd.mk 1 rfl (by omega) ?_)
        | (refine Bd.int (by omega) (by omega) ?_)
        | (refine Len.mk (by omega) ?_)
        | (refine Len.mk (by simp only [List.length_cons, List.length_nil]; omega) ?_)
        | (refine Ltn.mk (by omega) ?_)
        | (refine Both.mk ?_ ?_)
        | (refine MkS.vec ?_)
        | (refine (hl _ _).mono ?_; rintro _ _ _ ⟨rfl, rfl, rfl⟩)
        | (refine (known31_ok _ _).mono ?_; rintro _ _ _ ⟨rfl, rfl, rfl⟩)
        | (refine (h1 _ _).mono ?_; rintro _ _ _ ⟨rfl, rfl, rfl⟩)
        | (refine (h2 _ _).mono ?_; rintro _ _ _ ⟨rfl, rfl, rfl⟩)
        | (refine (h3 _ _).mono ?_; rintro _ _ _ ⟨rfl, rfl, rfl⟩)
        | (refine (h4 _ _).mono ?_; rintro _ _ _ ⟨rfl, rfl, rfl⟩)
        | (refine (h5 _ _).mono ?_; rintro _ _ _ ⟨rfl, rfl, rfl⟩)
        | (refine (h6 _ _).mono ?_; rintro _ _ _ ⟨rfl, rfl, rfl⟩)
        | (refine (h7 _ _).mono ?_; rintro _ _ _ ⟨rfl, rfl, rfl⟩)
        | (refine (h8 _ _).mono ?_; rintro _ _ _ ⟨rfl, rfl, rfl⟩)
        | (refine And.intro rfl ?_)
        | (refine Br.any (fun _ => ?_) (fun _ => ?_)))
    all_goals (conv => whnf)
    all_goals first | exact VLe.rfl | (exfalso; clear hl h1 h2 h3 h4 h5 h6 h7 h8; simp_all)
  · rw [G.iclaim, if_neg hf] at h5 h6
    repeat' ((conv => whnf); first
        | (refine Br.self ?_)
        | (refine Br.tt ?_)
        | (refine Br.ff ?_)
        | (refine Br.dec (fun _ => ?_) (fun _ => ?_) <;> first | (exfalso; omega) | skip)
        | (refine Br.beq (fun _ => ?_) (fun _ => ?_) <;> first | (exfalso; omega) | skip)
        | (refine Br.bne (fun _ => ?_) (fun _ => ?_) <;> first | (exfalso; omega) | skip)
        | (refine Br.nbeq (fun _ => ?_) (fun _ => ?_) <;> first | (exfalso; omega) | skip)
        | (refine Br.nble (fun _ => ?_) (fun _ => ?_) <;> first | (exfalso; omega) | skip)
        | (refine Ar.i64 (by omega) (by omega) ?_)
        | (refine Ar.u32 (by omega) (by omega) ?_)
        | (refine Ar.sh1 (by omega) ?_)
        | (refine Ar.u64 (by omega) (by omega) ?_)
        | (refine Sv.mk _ rfl ?_)
        | (refine Nz.mk (by omega) ?_)
        | (refine Nn.mk (by omega) ?_)
        | (refine Ix.nat (by omega) ?_)
        | (refine Ix.ofNat (by omega) ?_)
        | (refine Ix.mk 0 rfl (by omega) ?_)
        | (refine Ix.mk 1 rfl (by omega) ?_)
        | (refine Ix.int (by omega) (by omega) ?_)
        | (refine Bd.nat (by omega) ?_)
        | (refine Bd.mk 0 rfl (by omega) ?_)
        | (refine Bd.mk 1 rfl (by omega) ?_)
        | (refine Bd.int (by omega) (by omega) ?_)
        | (refine Len.mk (by omega) ?_)
        | (refine Len.mk (by simp only [List.length_cons, List.length_nil]; omega) ?_)
        | (refine Ltn.mk (by omega) ?_)
        | (refine Both.mk ?_ ?_)
        | (refine MkS.vec ?_)
        | (refine (hl _ _).mono ?_; rintro _ _ _ ⟨rfl, rfl, rfl⟩)
        | (refine (known31_ok _ _).mono ?_; rintro _ _ _ ⟨rfl, rfl, rfl⟩)
        | (refine (h1 _ _).mono ?_; rintro _ _ _ ⟨rfl, rfl, rfl⟩)
        | (refine (h2 _ _).mono ?_; rintro _ _ _ ⟨rfl, rfl, rfl⟩)
        | (refine (h3 _ _).mono ?_; rintro _ _ _ ⟨rfl, rfl, rfl⟩)
        | (refine (h4 _ _).mono ?_; rintro _ _ _ ⟨rfl, rfl, rfl⟩)
        | (refine (h5 _ _).mono ?_; rintro _ _ _ ⟨rfl, rfl, rfl⟩)
        | (refine (h6 _ _).mono ?_; rintro _ _ _ ⟨rfl, rfl, rfl⟩)
        | (refine (h7 _ _).mono ?_; rintro _ _ _ ⟨rfl, rfl, rfl⟩)
        | (refine (h8 _ _).mono ?_; rintro _ _ _ ⟨rfl, rfl, rfl⟩)
        | (refine And.intro rfl ?_)
        | (refine Br.any (fun _ => ?_) (fun _ => ?_)))
    all_goals (conv => whnf)
    all_goals first | exact VLe.rfl | (exfalso; clear hl h1 h2 h3 h4 h5 h6 h7 h8; simp_all)
end Go.Proofs.Ytjadlpflhmooaaa
