import Derived.Test.YtjadlpflhmooaaaGR16
namespace Go.Proofs.Ytjadlpflhmooaaa
open Go.Eng
set_option maxRecDepth 100000
set_option linter.unusedVariables false

theorem cf2_small (a b d a' b' d' : Int) : CSmall [[a, a'], [b, b'], [d, d']] := ⟨by simp, by simp⟩
theorem cf32_le {a b d a' b' d' : Int} {k1 k2 k3 : Nat → Nat → V} (h1 : k1 0 0 = .int .i64 a) (h2 : k2 0 0 = .int .i64 b) (h3 : k3 0 0 = .int .i64 d) (h1' : k1 1 0 = .int .i64 a') (h2' : k2 1 0 = .int .i64 b') (h3' : k3 1 0 = .int .i64 d') {f : Nat → Nat → V}
    (f0 : f 0 0 = .fz 2 1 false k1) (f1 : f 1 0 = .fz 2 1 false k2) (f2 : f 2 0 = .fz 2 1 false k3) : VLe (.fz 3 1 false f) (cV [[a, a'], [b, b'], [d, d']]) := by
  refine VLe.fz rfl (fun h => h) (fun i j hi hj => ?_)
  have e : j = 0 := by omega
  subst e
  rcases i with _ | _ | _ | i
  · rw [f0]; exact VLe.fz rfl (fun h => h) (two_le _ _ _ h1 h1')
  · rw [f1]; exact VLe.fz rfl (fun h => h) (two_le _ _ _ h2 h2')
  · rw [f2]; exact VLe.fz rfl (fun h => h) (two_le _ _ _ h3 h3')
  · exfalso; omega
theorem three_le (a b d : Int) (f : Nat → Nat → V) (h0 : f 0 0 = .int .i64 a) (h1 : f 1 0 = .int .i64 b) (h2 : f 2 0 = .int .i64 d) : ∀ i j : Nat, i < 3 → j < 1 → VLe (f i j) (vI [a, b, d] i j) := by
  intro i j hi hj
  have e' : j = 0 := by omega
  subst e'
  rcases i with _ | _ | _ | i
  · rw [h0]; exact VLe.rfl
  · rw [h1]; exact VLe.rfl
  · rw [h2]; exact VLe.rfl
  · exfalso; omega

theorem k1 : t3.klegit [[0, 0], [1, -1], [0, 0]] = true := by decide +kernel
theorem k2 : t3.klegit [[0, 0], [1, 0], [0, 0]] = false := by decide +kernel
theorem k3 : t3.kheads [[0, 0], [1, -1], [0, 0]] = [1, 1, 1] := by decide +kernel

set_option maxHeartbeats 4000000 in
theorem known34_ok : Ret Try.prog 35 [] (.bool true) := by
  have h1 := klegit_ok t3 t3_small _ (cf2_small 0 1 0 0 (-1) 0)
  have h2 := klegit_ok t3 t3_small _ (cf2_small 0 1 0 0 0 0)
  have h3 := heads_ok t3 t3_small _ (cf2_small 0 1 0 0 (-1) 0)
  have h4 := same34_ok [1, 1, 1] [1, 1, 1] (by decide) (by decide)
  rw [k1] at h1
  rw [k2] at h2
  rw [k3] at h3
  rw [decide_eq_true rfl] at h4
  refine ret_frz2 rfl ?_
  refine fn_rule mixed Try.func35 rfl hc35 hr35 rfl ?_
  repeat' ((conv => whnf); first
      | (refine Br.tt ?_)
      | (refine Br.ff ?_)
      | (refine Br.dec (fun _ => ?_) (fun _ => ?_) <;> first | (exfalso; omega) | skip)
      | (refine Br.beq (fun _ => ?_) (fun _ => ?_) <;> first | (exfalso; omega) | skip)
      | (refine Br.bne (fun _ => ?_) (fun _ => ?_) <;> first | (exfalso; omega) | skip)
      | (refine Br.nbeq (fun _ => ?_) (fun _ => ?_) <;> first | (exfalso; omega) | skip)
      | (refine Br.nble (fun _ => ?_) (fun _ => ?_) <;> first | (exfalso; omega) | skip)
      | (refine Ar.i64 (by omega) (by omega) ?_)
      | (refine Ar.u32 (by omega) (by omega) ?_)
      | (refine Ar.sh1 (by omega) ?_)
      | (refine Ar.u64 (by omega) (by omega) ?_)
      | (refine Sv.mk _ rfl ?_)
      | (refine Nz.mk (by omega) ?_)
      | (refine Nn.mk (by omega) ?_)
      | (refine Ix.nat (by omega) ?_)
      | (refine Ix.ofNat (by omega) ?_)
      | (refine Ix.mk 0 rfl (by omega) ?_)
      | (refine Ix.mk 1 rfl (by omega) ?_)
      | (refine Ix.int (by omega) (by omega) ?_)
      | (refine Bd.nat (by omega) ?_)
      | (refine Bd.mk 0 rfl (by omega) ?_)
      | (refine Bd.mk 1 rfl (by omega) ?_)
      | (refine Bd.int (by omega) (by omega) ?_)
      | (refine Len.mk (by omega) ?_)
      | (refine Len.mk (by simp only [List.length_cons, List.length_nil]; omega) ?_)
      | (refine Ltn.mk (by omega) ?_)
      | (refine Both.mk ?_ ?_)
      | (refine MkS.vec ?_)
      | (refine call_frz [0] tree3 ⟨by decide, VLe.agg ⟨VLe.rfl, VLe.fz rfl (fun h => h) (two_le _ _ _ rfl rfl), VLe.rfl, VLe.rfl, VLe.rfl, VLe.rfl, True.intro⟩, VLe.rfl, True.intro⟩ ?_)
      | (refine call_lend h1 rfl ⟨by decide, by decide, by decide, VLe.rfl, cf32_le rfl rfl rfl rfl rfl rfl rfl rfl rfl, True.intro⟩ ?_)
      | (refine call_frz [2, 3, 4, 5] h3 ⟨by decide, by decide, by decide, VLe.rfl, cf32_le rfl rfl rfl rfl rfl rfl rfl rfl rfl, True.intro⟩ ?_)
      | (refine call_frz [6] h4 ⟨by decide, VLe.rfl, VLe.fz rfl (fun h => h) (three_le _ _ _ _ rfl rfl rfl), True.intro⟩ ?_)
      | (refine call_frz [7, 8, 9, 10] h2 ⟨by decide, by decide, by decide, VLe.rfl, cf32_le rfl rfl rfl rfl rfl rfl rfl rfl rfl, True.intro⟩ ?_)
      | (refine Br.any (fun _ => ?_) (fun _ => ?_)))
  all_goals (conv => whnf)
  all_goals exact VLe.rfl

theorem large34_ok (g : G) (hs : g.Small) (c : Cf) (hc : CSmall c) : Ret Try.prog 34 [g.v, cV c] (.bool (bigI g c)) := by
  have s1 := hs.ids
  have s2 := hs.ports
  have s3 := hc.len
  refine ret_frz rfl ?_
  refine fn_rule mixed Try.func34 rfl hc34 hr34 rfl ?_
  repeat' ((conv => whnf); first
      | (refine Br.tt ?_)
      | (refine Br.ff ?_)
      | (refine Br.dec (fun _ => ?_) (fun _ => ?_) <;> first | (exfalso; omega) | skip)
      | (refine Br.beq (fun _ => ?_) (fun _ => ?_) <;> first | (exfalso; omega) | skip)
      | (refine Br.bne (fun _ => ?_) (fun _ => ?_) <;> first | (exfalso; omega) | skip)
      | (refine Br.nbeq (fun _ => ?_) (fun _ => ?_) <;> first | (exfalso; omega) | skip)
      | (refine Br.nble (fun _ => ?_) (fun _ => ?_) <;> first | (exfalso; omega) | skip)
      | (refine Ar.i64 (by omega) (by omega) ?_)
      | (refine Ar.u32 (by omega) (by omega) ?_)
      | (refine Ar.sh1 (by omega) ?_)
      | (refine Ar.u64 (by omega) (by omega) ?_)
      | (refine Sv.mk _ rfl ?_)
      | (refine Nz.mk (by omega) ?_)
      | (refine Nn.mk (by omega) ?_)
      | (refine Ix.nat (by omega) ?_)
      | (refine Ix.ofNat (by omega) ?_)
      | (refine Ix.mk 0 rfl (by omega) ?_)
      | (refine Ix.mk 1 rfl (by omega) ?_)
      | (refine Ix.int (by omega) (by omega) ?_)
      | (refine Bd.nat (by omega) ?_)
      | (refine Bd.mk 0 rfl (by omega) ?_)
      | (refine Bd.mk 1 rfl (by omega) ?_)
      | (refine Bd.int (by omega) (by omega) ?_)
      | (refine Len.mk (by omega) ?_)
      | (refine Len.mk (by simp only [List.length_cons, List.length_nil]; omega) ?_)
      | (refine Ltn.mk (by omega) ?_)
      | (refine Both.mk ?_ ?_)
      | (refine MkS.vec ?_)
      | (refine Br.any (fun _ => ?_) (fun _ => ?_)))
  all_goals (conv => whnf)
  all_goals exact VLe.bool (by symm; rw [bigI]; first | (rw [decide_eq_true_eq]; omega) | (rw [decide_eq_false_iff_not]; omega))

theorem kheads_len (g : G) (c : Cf) : (g.kheads c).length ≤ 1000000 := by
  rw [G.kheads]
  split
  · rename_i h
    rw [Bool.and_eq_true] at h
    obtain ⟨f1, f2, f3, f4, f5, f6, f7⟩ := val_facts h.1
    obtain ⟨e1, e2⟩ := kconf_facts h.2
    simp; omega
  · simp

set_option maxHeartbeats 4000000 in
theorem law34 (g : G) (hs : g.Small) (c : Cf) (hc : CSmall c) : Ret Try.prog 6 [g.v, cV c] (.bool true) := by
  have hl := large34_ok g hs c hc
  have h1 := kfit_ok g hs
  have h2 := rkfit_ok g hs
  have h3 := klegit_ok g hs c hc
  have h4 := rklegit_ok g hs c hc
  have h5 := kclaim_ok g hs
  have h6 := rkclaim_ok g hs
  have h7 := heads_ok g hs c hc
  have h8 := rheads_ok g hs c hc
  have h9 := same34_ok (g.kheads c) (g.kheads c) (kheads_len g c) (kheads_len g c)
  rw [decide_eq_true rfl] at h9
  refine ret_frz rfl ?_
  refine fn_rule mixed Try.func6 rfl hc6 hr6 rfl ?_
  by_cases hf : g.valid = true
  · rw [G.kclaim, if_pos hf] at h5 h6
    repeat' ((conv => whnf); first
        | (refine Br.self ?_)
        | (refine Br.tt ?_)
        | (refine Br.ff ?_)
        | (refine Br.dec (fun _ => ?_) (fun _ => ?_) <;> first | (exfalso; omega) | skip)
        | (refine Br.beq (fun _ => ?_) (fun _ => ?_) <;> first | (exfalso; omega) | skip)
        | (refine Br.bne (fun _ => ?_) (fun _ => ?_) <;> first | (exfalso; omega) | skip)
        | (refine Br.nbeq (fun _ => ?_) (fun _ => ?_) <;> first | (exfalso; omega) | skip)
        | (refine Br.nble (fun _ => ?_) (fun _ => ?_) <;> first | (exfalso; omega) | skip)
        | (refine Ar.i64 (by omega) (by omega) ?_)
        | (refine Ar.u32 (by omega) (by omega) ?_)
        | (refine Ar.sh1 (by omega) ?_)
        | (refine Ar.u64 (by omega) (by omega) ?_)
        | (refine Sv.mk _ rfl ?_)
        | (refine Nz.mk (by omega) ?_)
        | (refine Nn.mk (by omega) ?_)
        | (refine Ix.nat (by omega) ?_)
        | (refine Ix.ofNat (by omega) ?_)
        | (refine Ix.mk 0 rfl (by omega) ?_)
        | (refine Ix.mk 1 rfl (by omega) ?_)
        | (refine Ix.int (by omega) (by omega) ?_)
        | (refine Bd.nat (by omega) ?_)
        | (refine Bd.mk 0 rfl (by omega) ?_)
        | (refine Bd.mk 1 rfl (by omega) ?_)
        | (refine Bd.int (by omega) (by omega) ?_)
        | (refine Len.mk (by omega) ?_)
        | (refine Len.mk (by simp only [List.length_cons, List.length_nil]; omega) ?_)
        | (refine Ltn.mk (by omega) ?_)
        | (refine Both.mk ?_ ?_)
        | (refine MkS.vec ?_)
        | (refine (hl _ _).mono ?_; rintro _ _ _ ⟨rfl, rfl, rfl⟩)
        | (refine (known34_ok _ _).mono ?_; rintro _ _ _ ⟨rfl, rfl, rfl⟩)
        | (refine (h1 _ _).mono ?_; rintro _ _ _ ⟨rfl, rfl, rfl⟩)
        | (refine (h2 _ _).mono ?_; rintro _ _ _ ⟨rfl, rfl, rfl⟩)
        | (refine (h3 _ _).mono ?_; rintro _ _ _ ⟨rfl, rfl, rfl⟩)
        | (refine (h4 _ _).mono ?_; rintro _ _ _ ⟨rfl, rfl, rfl⟩)
        | (refine (h5 _ _).mono ?_; rintro _ _ _ ⟨rfl, rfl, rfl⟩)
        | (refine (h6 _ _).mono ?_; rintro _ _ _ ⟨rfl, rfl, rfl⟩)
        | (refine (h7 _ _).mono ?_; rintro _ _ _ ⟨rfl, rfl, rfl⟩)
        | (refine (h8 _ _).mono ?_; rintro _ _ _ ⟨rfl, rfl, rfl⟩)
        | (refine (h9 _ _).mono ?_; rintro _ _ _ ⟨rfl, rfl, rfl⟩)
        | (refine And.intro rfl ?_)
        | (refine Br.any (fun _ => ?_) (fun _ => ?_)))
    all_goals (conv => whnf)
    all_goals first | exact VLe.rfl | (exfalso; clear hl h1 h2 h3 h4 h5 h6 h7 h8 h9; simp_all)
  · rw [G.kclaim, if_neg hf] at h5 h6
    repeat' ((conv => whnf); first
        | (refine Br.self ?_)
        | (refine Br.tt ?_)
        | (refine Br.ff ?_)
        | (refine Br.dec (fun _ => ?_) (fun _ => ?_) <;> first | (exfalso; omega) | skip)
        | (refine Br.beq (fun _ => ?_) (fun _ => ?_) <;> first | (exfalso; omega) | skip)
        | (refine Br.bne (fun _ => ?_) (fun _ => ?_) <;> first | (exfalso; omega) | skip)
        | (refine Br.nbeq (fun _ => ?_) (fun _ => ?_) <;> first | (exfalso; omega) | skip)
        | (refine Br.nble (fun _ => ?_) (fun _ => ?_) <;> first | (exfalso; omega) | skip)
        | (refine Ar.i64 (by omega) (by omega) ?_)
        | (refine Ar.u32 (by omega) (by omega) ?_)
        | (refine Ar.sh1 (by omega) ?_)
        | (refine Ar.u64 (by omega) (by omega) ?_)
        | (refine Sv.mk _ rfl ?_)
        | (refine Nz.mk (by omega) ?_)
        | (refine Nn.mk (by omega) ?_)
        | (refine Ix.nat (by omega) ?_)
        | (refine Ix.ofNat (by omega) ?_)
        | (refine Ix.mk 0 rfl (by omega) ?_)
        | (refine Ix.mk 1 rfl (by omega) ?_)
        | (refine Ix.int (by omega) (by omega) ?_)
        | (refine Bd.nat (by omega) ?_)
        | (refine Bd.mk 0 rfl (by omega) ?_)
        | (refine Bd.mk 1 rfl (by omega) ?_)
        | (refine Bd.int (by omega) (by omega) ?_)
        | (refine Len.mk (by omega) ?_)
        | (refine Len.mk (by simp only [List.length_cons, List.length_nil]; omega) ?_)
        | (refine Ltn.mk (by omega) ?_)
        | (refine Both.mk ?_ ?_)
        | (refine MkS.vec ?_)
        | (refine (hl _ _).mono ?_; rintro _ _ _ ⟨rfl, rfl, rfl⟩)
        | (refine (known34_ok _ _).mono ?_; rintro _ _ _ ⟨rfl, rfl, rfl⟩)
        | (refine (h1 _ _).mono ?_; rintro _ _ _ ⟨rfl, rfl, rfl⟩)
        | (refine (h2 _ _).mono ?_; rintro _ _ _ ⟨rfl, rfl, rfl⟩)
        | (refine (h3 _ _).mono ?_; rintro _ _ _ ⟨rfl, rfl, rfl⟩)
        | (refine (h4 _ _).mono ?_; rintro _ _ _ ⟨rfl, rfl, rfl⟩)
        | (refine (h5 _ _).mono ?_; rintro _ _ _ ⟨rfl, rfl, rfl⟩)
        | (refine (h6 _ _).mono ?_; rintro _ _ _ ⟨rfl, rfl, rfl⟩)
        | (refine (h7 _ _).mono ?_; rintro _ _ _ ⟨rfl, rfl, rfl⟩)
        | (refine (h8 _ _).mono ?_; rintro _ _ _ ⟨rfl, rfl, rfl⟩)
        | (refine (h9 _ _).mono ?_; rintro _ _ _ ⟨rfl, rfl, rfl⟩)
        | (refine And.intro rfl ?_)
        | (refine Br.any (fun _ => ?_) (fun _ => ?_)))
    all_goals (conv => whnf)
    all_goals first | exact VLe.rfl | (exfalso; clear hl h1 h2 h3 h4 h5 h6 h7 h8 h9; simp_all)
end Go.Proofs.Ytjadlpflhmooaaa
