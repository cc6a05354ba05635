import Derived.Test.YtjadlpflhmooaaaGR5
namespace Go.Proofs.Ytjadlpflhmooaaa
open Go.Eng
set_option maxRecDepth 100000
set_option linter.unusedVariables false

/-! ## world -/

def within (a b : Int) : Int := if b < 1 then 0 else if a.tmod b < 0 then a.tmod b + b else a.tmod b
theorem within_ok (a b : Int) (hb : b ≤ 9223372036854775807) : Ret Try.prog 48 [.int .i64 a, .int .i64 b] (.int .i64 (within a b)) := by
  refine ret_frz rfl ?_
  refine fn_rule mixed Try.func48 rfl hc48 hr48 rfl ?_
  have h1 : 1 ≤ b → -b < a.tmod b := fun h => Int.neg_lt_of_neg_lt (by have := Int.lt_tmod_of_pos (-a) (show 0 < b by omega); rw [Int.neg_tmod] at this; have h2 := Int.tmod_lt_of_pos (-a) (show 0 < b by omega); rw [Int.neg_tmod] at h2; omega)
  rw [within]
  repeat' ((conv => whnf); first
      | (refine Br.tt ?_)
      | (refine Br.ff ?_)
      | (refine Br.dec (fun _ => ?_) (fun _ => ?_) <;> first | (exfalso; omega) | skip)
      | (refine Br.beq (fun _ => ?_) (fun _ => ?_) <;> first | (exfalso; omega) | skip)
      | (refine Br.bne (fun _ => ?_) (fun _ => ?_) <;> first | (exfalso; omega) | skip)
      | (refine Br.nbeq (fun _ => ?_) (fun _ => ?_) <;> first | (exfalso; omega) | skip)
      | (refine Br.nble (fun _ => ?_) (fun _ => ?_) <;> first | (exfalso; omega) | skip)
      | (refine Ar.i64 (by omega) (by omega) ?_)
      | (refine Ar.u32 (by omega) (by omega) ?_)
      | (refine Ar.sh1 (by omega) ?_)
      | (refine Ar.u64 (by omega) (by omega) ?_)
      | (refine Sv.mk _ rfl ?_)
      | (refine Nz.mk (by omega) ?_)
      | (refine Nn.mk (by omega) ?_)
      | (refine Ix.nat (by omega) ?_)
      | (refine Ix.ofNat (by omega) ?_)
      | (refine Ix.mk 0 rfl (by omega) ?_)
      | (refine Ix.mk 1 rfl (by omega) ?_)
      | (refine Ix.int (by omega) (by omega) ?_)
      | (refine Bd.nat (by omega) ?_)
      | (refine Bd.mk 0 rfl (by omega) ?_)
      | (refine Bd.mk 1 rfl (by omega) ?_)
      | (refine Bd.int (by omega) (by omega) ?_)
      | (refine Len.mk (by omega) ?_)
      | (refine Len.mk (by simp only [List.length_cons, List.length_nil]; omega) ?_)
      | (refine Ltn.mk (by omega) ?_)
      | (refine Both.mk ?_ ?_)
      | (refine MkS.vec ?_)
      | (refine Br.any (fun _ => ?_) (fun _ => ?_)))
  all_goals (conv => whnf)
  · rw [if_pos (by omega)]; exact VLe.rfl
  · rw [if_neg (by omega), if_pos (by omega)]; exact VLe.rfl
  · rw [if_neg (by omega), if_neg (by omega)]; exact VLe.rfl

theorem at_ok (l : List Int) (hl : l.length ≤ 9223372036854775807) (i : Nat) : Ret Try.prog 49 [.fz l.length 1 false (vI l), .int .i64 i] (.int .i64 (gI l i)) := by
  refine ret_frz rfl ?_
  refine fn_rule mixed Try.func49 rfl hc49 hr49 rfl ?_
  repeat' ((conv => whnf); first
      | (refine Br.tt ?_)
      | (refine Br.ff ?_)
      | (refine Br.dec (fun _ => ?_) (fun _ => ?_) <;> first | (exfalso; omega) | skip)
      | (refine Br.beq (fun _ => ?_) (fun _ => ?_) <;> first | (exfalso; omega) | skip)
      | (refine Br.bne (fun _ => ?_) (fun _ => ?_) <;> first | (exfalso; omega) | skip)
      | (refine Br.nbeq (fun _ => ?_) (fun _ => ?_) <;> first | (exfalso; omega) | skip)
      | (refine Br.nble (fun _ => ?_) (fun _ => ?_) <;> first | (exfalso; omega) | skip)
      | (refine Ar.i64 (by omega) (by omega) ?_)
      | (refine Ar.u32 (by omega) (by omega) ?_)
      | (refine Ar.sh1 (by omega) ?_)
      | (refine Ar.u64 (by omega) (by omega) ?_)
      | (refine Sv.mk _ rfl ?_)
      | (refine Nz.mk (by omega) ?_)
      | (refine Nn.mk (by omega) ?_)
      | (refine Ix.nat (by omega) ?_)
      | (refine Ix.ofNat (by omega) ?_)
      | (refine Ix.mk 0 rfl (by omega) ?_)
      | (refine Ix.mk 1 rfl (by omega) ?_)
      | (refine Ix.int (by omega) (by omega) ?_)
      | (refine Bd.nat (by omega) ?_)
      | (refine Bd.mk 0 rfl (by omega) ?_)
      | (refine Bd.mk 1 rfl (by omega) ?_)
      | (refine Bd.int (by omega) (by omega) ?_)
      | (refine Len.mk (by omega) ?_)
      | (refine Len.mk (by simp only [List.length_cons, List.length_nil]; omega) ?_)
      | (refine Ltn.mk (by omega) ?_)
      | (refine Both.mk ?_ ?_)
      | (refine MkS.vec ?_)
      | (refine Br.any (fun _ => ?_) (fun _ => ?_)))
  all_goals (conv => whnf)
  · exact VLe.rfl
  · have : gI l i = 0 := by simp only [gI, List.getD]; rw [List.getElem?_eq_none (by omega)]; rfl
    rw [this]; exact VLe.rfl

def net (n : Int) : V := .agg [.int .i64 n, .nilslice, .nilslice, .nilslice, .bool false, .bool false]
def g3 : G := ⟨[0, 1, 2], [[(2, 1), (1, 1)], [(0, 1), (2, 1)], [(1, 1), (0, 1)]]⟩

theorem at_nil (i : Nat) : Ret Try.prog 49 [.fz 0 1 false (vI []), .int .i64 i] (.int .i64 0) := at_ok [] (by decide) i
theorem w_2_3 : Ret Try.prog 48 [.int .i64 2, .int .i64 3] (.int .i64 2) := within_ok 2 3 (by decide)
theorem w_0_256 : Ret Try.prog 48 [.int .i64 0, .int .i64 256] (.int .i64 0) := within_ok 0 256 (by decide)
theorem w_0_15 : Ret Try.prog 48 [.int .i64 0, .int .i64 15] (.int .i64 0) := within_ok 0 15 (by decide)

set_option maxHeartbeats 4000000 in
theorem ring3 : Ret Try.prog 57 [net 3, .int .i64 5] g3.v := by
  refine ret_frz rfl ?_
  refine fn_rule mixed Try.func57 rfl hc57 hr57 rfl ?_
  repeat' ((conv => whnf); first
      | (refine MkS.cells ?_)
      | (refine Bd.mk 3 (by decide) (by omega) ?_)
      | (refine Sv.mk 0 (by decide) ?_)
      | (refine Sv.mk 1 (by decide) ?_)
      | (refine Sv.mk 2 (by decide) ?_)
      | (refine Br.tt ?_)
      | (refine Br.ff ?_)
      | (refine Br.dec (fun _ => ?_) (fun _ => ?_) <;> first | (exfalso; omega) | skip)
      | (refine Br.beq (fun _ => ?_) (fun _ => ?_) <;> first | (exfalso; omega) | skip)
      | (refine Br.bne (fun _ => ?_) (fun _ => ?_) <;> first | (exfalso; omega) | skip)
      | (refine Br.nbeq (fun _ => ?_) (fun _ => ?_) <;> first | (exfalso; omega) | skip)
      | (refine Br.nble (fun _ => ?_) (fun _ => ?_) <;> first | (exfalso; omega) | skip)
      | (refine Ar.i64 (by omega) (by omega) ?_)
      | (refine Ar.u32 (by omega) (by omega) ?_)
      | (refine Ar.sh1 (by omega) ?_)
      | (refine Ar.u64 (by omega) (by omega) ?_)
      | (refine Sv.mk _ rfl ?_)
      | (refine Nz.mk (by omega) ?_)
      | (refine Nn.mk (by omega) ?_)
      | (refine Ix.nat (by omega) ?_)
      | (refine Ix.ofNat (by omega) ?_)
      | (refine Ix.mk 0 rfl (by omega) ?_)
      | (refine Ix.mk 1 rfl (by omega) ?_)
      | (refine Ix.int (by omega) (by omega) ?_)
      | (refine Bd.nat (by omega) ?_)
      | (refine Bd.mk 0 rfl (by omega) ?_)
      | (refine Bd.mk 1 rfl (by omega) ?_)
      | (refine Bd.int (by omega) (by omega) ?_)
      | (refine Len.mk (by omega) ?_)
      | (refine Len.mk (by simp only [List.length_cons, List.length_nil]; omega) ?_)
      | (refine Ltn.mk (by omega) ?_)
      | (refine Both.mk ?_ ?_)
      | (refine MkS.vec ?_)
      | (refine And.intro rfl ?_)
      | (refine fn_rule mixed Try.func47 rfl hc47 hr47 rfl ?_)
      | (refine (w_2_3 _ _).mono ?_; rintro _ _ _ ⟨rfl, rfl, rfl⟩)
      | (refine (w_0_256 _ _).mono ?_; rintro _ _ _ ⟨rfl, rfl, rfl⟩)
      | (refine (w_0_15 _ _).mono ?_; rintro _ _ _ ⟨rfl, rfl, rfl⟩)
      | (refine loop_fuel mixed 20 ?_)
      | (refine call_frz [] (at_nil 0) ⟨VLe.nilfz rfl, VLe.int (by omega), True.intro⟩ ?_)
      | (refine call_frz [] (at_nil 1) ⟨VLe.nilfz rfl, VLe.int (by omega), True.intro⟩ ?_)
      | (refine call_frz [] (at_nil 2) ⟨VLe.nilfz rfl, VLe.int (by omega), True.intro⟩ ?_)
      | (refine Br.any (fun _ => ?_) (fun _ => ?_)))
  all_goals (conv => whnf)
  refine VLe.agg ⟨VLe.fz rfl (fun h => h) (fun i j hi hj => ?_), VLe.fz rfl (fun h => h) (fun i j hi hj => ?_), True.intro⟩
  · rcases i with _ | _ | _ | i
    all_goals first | (exfalso; omega) | (rcases j with _ | j; exact VLe.rfl; exfalso; omega)
  · rcases i with _ | _ | _ | i
    all_goals first | (exfalso; omega) | skip
    all_goals
      refine VLe.fz rfl (fun h => h) (fun i j hi hj => ?_)
      rcases i with _ | _ | i
      all_goals first | (exfalso; omega) | (rcases j with _ | _ | j; exact VLe.rfl; exact VLe.rfl; exfalso; omega)

theorem cf3_small (a b d : Int) : CSmall [[a], [b], [d]] := ⟨by simp, by simp⟩
theorem g3_small : g3.Small := ⟨by decide, by decide, by decide⟩
theorem l222 : g3.rlegit [[2], [2], [2]] = true := by decide +kernel
theorem l201 : g3.rlegit [[2], [0], [1]] = false := by decide +kernel
theorem p221 : g3.rpriv [[2], [2], [1]] = 4 := by decide +kernel
theorem p201 : g3.rpriv [[2], [0], [1]] = 6 := by decide +kernel

theorem cf3_le {a b d : Int} {k1 k2 k3 : Nat → Nat → V} (h1 : k1 0 0 = .int .i64 a) (h2 : k2 0 0 = .int .i64 b) (h3 : k3 0 0 = .int .i64 d) {f : Nat → Nat → V}
    (f0 : f 0 0 = .fz 1 1 false k1) (f1 : f 1 0 = .fz 1 1 false k2) (f2 : f 2 0 = .fz 1 1 false k3) : VLe (.fz 3 1 false f) (cV [[a], [b], [d]]) := by
  refine VLe.fz rfl (fun h => h) (fun i j hi hj => ?_)
  have e : j = 0 := by omega
  subst e
  rcases i with _ | _ | _ | i
  · rw [f0]; exact VLe.fz rfl (fun h => h) (one_le _ _ h1)
  · rw [f1]; exact VLe.fz rfl (fun h => h) (one_le _ _ h2)
  · rw [f2]; exact VLe.fz rfl (fun h => h) (one_le _ _ h3)
  · exfalso; omega

set_option maxHeartbeats 4000000 in
theorem known_ok : Ret Try.prog 18 [] (.bool true) := by
  have h1 := legit_ok g3 g3_small _ (cf3_small 2 2 2)
  have h2 := legit_ok g3 g3_small _ (cf3_small 2 0 1)
  have h3 := privileged_ok g3 g3_small _ (cf3_small 2 2 1)
  have h4 := privileged_ok g3 g3_small _ (cf3_small 2 0 1)
  rw [l222] at h1
  rw [l201] at h2
  rw [p221] at h3
  rw [p201] at h4
  refine ret_frz rfl ?_
  refine fn_rule mixed Try.func18 rfl hc18 hr18 rfl ?_
  repeat' ((conv => whnf); first
      | (refine Br.tt ?_)
      | (refine Br.ff ?_)
      | (refine Br.dec (fun _ => ?_) (fun _ => ?_) <;> first | (exfalso; omega) | skip)
      | (refine Br.beq (fun _ => ?_) (fun _ => ?_) <;> first | (exfalso; omega) | skip)
      | (refine Br.bne (fun _ => ?_) (fun _ => ?_) <;> first | (exfalso; omega) | skip)
      | (refine Br.nbeq (fun _ => ?_) (fun _ => ?_) <;> first | (exfalso; omega) | skip)
      | (refine Br.nble (fun _ => ?_) (fun _ => ?_) <;> first | (exfalso; omega) | skip)
      | (refine Ar.i64 (by omega) (by omega) ?_)
      | (refine Ar.u32 (by omega) (by omega) ?_)
      | (refine Ar.sh1 (by omega) ?_)
      | (refine Ar.u64 (by omega) (by omega) ?_)
      | (refine Sv.mk _ rfl ?_)
      | (refine Nz.mk (by omega) ?_)
      | (refine Nn.mk (by omega) ?_)
      | (refine Ix.nat (by omega) ?_)
      | (refine Ix.ofNat (by omega) ?_)
      | (refine Ix.mk 0 rfl (by omega) ?_)
      | (refine Ix.mk 1 rfl (by omega) ?_)
      | (refine Ix.int (by omega) (by omega) ?_)
      | (refine Bd.nat (by omega) ?_)
      | (refine Bd.mk 0 rfl (by omega) ?_)
      | (refine Bd.mk 1 rfl (by omega) ?_)
      | (refine Bd.int (by omega) (by omega) ?_)
      | (refine Len.mk (by omega) ?_)
      | (refine Len.mk (by simp only [List.length_cons, List.length_nil]; omega) ?_)
      | (refine Ltn.mk (by omega) ?_)
      | (refine Both.mk ?_ ?_)
      | (refine MkS.vec ?_)
      | (refine (ring3 _ _).mono ?_; rintro _ _ _ ⟨rfl, rfl, rfl⟩)
      | (refine call_frz [1, 2, 3, 4] h1 ⟨by decide, by decide, by decide, VLe.rfl, cf3_le rfl rfl rfl rfl rfl rfl, True.intro⟩ ?_)
      | (refine call_frz [5, 6, 7, 8] h3 ⟨by decide, by decide, by decide, VLe.rfl, cf3_le rfl rfl rfl rfl rfl rfl, True.intro⟩ ?_)
      | (refine call_frz [9, 10, 11, 12] h2 ⟨by decide, by decide, by decide, VLe.rfl, cf3_le rfl rfl rfl rfl rfl rfl, True.intro⟩ ?_)
      | (refine call_frz [13, 14, 15, 16] h4 ⟨by decide, by decide, by decide, VLe.rfl, cf3_le rfl rfl rfl rfl rfl rfl, True.intro⟩ ?_)
      | (refine Br.any (fun _ => ?_) (fun _ => ?_)))
  all_goals (conv => whnf)
  all_goals exact VLe.rfl
end Go.Proofs.Ytjadlpflhmooaaa
