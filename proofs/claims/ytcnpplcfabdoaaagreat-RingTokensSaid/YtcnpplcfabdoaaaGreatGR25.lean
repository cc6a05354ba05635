import Derived.Test.YtcnpplcfabdoaaaGreatGR24B
namespace Go.Proofs.YtcnpplcfabdoaaaGreat
open Go.Eng
set_option maxRecDepth 100000
set_option linter.unusedVariables false

theorem mul_bound {a b A B : Int} (h0 : 0 ≤ a) (h1 : a ≤ A) (h2 : 0 ≤ b) (h3 : b ≤ B) : 0 ≤ a * b ∧ a * b ≤ A * B :=
  ⟨Int.mul_nonneg h0 h2, Int.mul_le_mul h1 h3 h2 (by omega)⟩

set_option maxHeartbeats 16000000 in
theorem config_ok (g : G) (hg : g.valid = true) (vs : List Vr) (hv : VOk vs) (hlo : ∀ x, 0 ≤ (gV vs x).lo ∧ (gV vs x).lo ≤ 1000) (raw : List Int) (hraw : raw.length ≤ 9223372036854775807) :
    Ret Tryz.prog 38 [g.v, .fz vs.length 6 false (vV vs), .fz raw.length 1 false (vI raw)] (cV (cfg g vs raw)) := by
  obtain ⟨f1, f2, f3, f4, f5, f6, f7⟩ := val_facts hg
  have htop0 := maxL_ge g.ids 0
  have htop1 := maxL_le g.ids 0 255 (by omega) (fun a ha => (f4 a ha).2)
  have hvl := hv.len
  refine ret_frz rfl ?_
  refine fn_rule mixed Tryz.func38 rfl hc38 hr38 rfl ?_
  repeat' ((conv => whnf); first | fail)
  all_goals (conv => whnf)
  refine loop_r mixed [1, 2, 3, 7] (fun i : Nat => [(8, .int .i64 (maxL (g.ids.take i) 0)), (9, .int .i64 i)]) (fun m i => m = g.ports.length - i ∧ i ≤ g.ports.length) g.ports.length 0 ⟨rfl, Nat.zero_le _⟩ ?_ ?_
  · refine weak_by (fun _ _ => [(0, some 0)]) ?_ ?_ rfl
    · repeat' (first | exact True.intro | (refine ⟨⟨_, rfl, ?_⟩, ?_⟩) | exact VRen.kf rfl | exact VRen.loc rfl)
    · repeat' (first | exact True.intro | (refine ⟨⟨_, rfl, ?_⟩, ?_⟩) | exact VRen.kf rfl | (refine And.intro ?_ ?_))
  rintro m i ⟨hm, hi⟩
  repeat' ((conv => whnf); first | (refine Br.dec ?_ ?_ <;> intro _ <;> try omega) | (refine Ar.i64 (by omega) (by omega) ?_) | (refine Sv.mk _ rfl ?_) | (refine Ix.nat (by omega) ?_))
  all_goals (conv => whnf)
  all_goals try
    (refine ⟨g.ports.length - (i + 1), i + 1, by omega, ⟨rfl, by omega⟩, ?_⟩
     simp only [gI_take g.ids i (by omega), maxL_snoc]
     refine weak_by (fun _ _ => [(0, some 0)]) ?_ ?_ rfl
     · repeat' (first | exact VRen.int (by split <;> omega) | exact True.intro | (refine ⟨⟨_, rfl, ?_⟩, ?_⟩) | exact VRen.kf rfl | exact VRen.loc rfl)
     · repeat' (first | exact True.intro | (refine ⟨⟨_, rfl, ?_⟩, ?_⟩) | exact VRen.kf rfl | (refine And.intro ?_ ?_)))
  have hti : g.ids.take i = g.ids := List.take_of_length_le (by omega)
  simp only [hti]
  clear hti hm hi
  generalize htop : maxL g.ids 0 = top at *
  refine loop_u mixed [1, 2, 3, 7, 8] [1] [2, 3, 4, 5, 6, 7, 8, 9, 10, 11, 12, 13, 14, 15, 16, 17, 18, 19, 20, 21, 22, 23, 24, 25, 26, 27, 28, 29] [1, 0] (fun v : Nat => [(10, .vec 1 1 0 v), (11, .int .i64 v)]) (fun own v => (1, .vec v 1 (vC (cfgC g vs raw v))) :: own) (fun m v => m = g.ports.length - v ∧ v ≤ g.ports.length) g.ports.length 0 ⟨rfl, Nat.zero_le _⟩ rfl (fun _ => rfl) ?_ ?_
  · refine weak_by (fun _ _ => [(0, some 0), (1, none)]) ?_ ?_ rfl
    · repeat' (first | exact True.intro | (refine ⟨⟨_, rfl, ?_⟩, ?_⟩) | exact VRen.kf rfl | exact VRen.loc rfl | exact VRen.nil rfl rfl)
    · repeat' (first | exact True.intro | (refine ⟨⟨_, rfl, ?_⟩, ?_⟩) | exact VRen.kf rfl | (refine ⟨⟨_, _, rfl⟩, ?_⟩) | (refine And.intro ?_ ?_))
  rintro m v ⟨hm, hvn⟩
  have hcl := cfgC_len g vs raw v
  repeat' ((conv => whnf); first | (refine Br.dec ?_ ?_ <;> intro _ <;> try omega) | (refine Len.mk (by omega) ?_))
  all_goals (conv => whnf)
  · refine loop_u mixed [1, 2, 3, 7, 8, 10, 11] [2] [3, 4, 5, 6, 7, 8, 9, 10, 11, 12, 13, 14, 15, 16, 17, 18, 19, 20, 21, 22, 23, 24, 25, 26, 27, 28, 29] [2, 1, 0] (fun i : Nat => [(12, .vec 2 1 0 i), (13, .int .i64 i)]) (fun own i => (2, .vec i 1 (vI (cfgR g vs raw v i))) :: own) (fun m i => m = vs.length - i ∧ i ≤ vs.length) vs.length 0 ⟨rfl, Nat.zero_le _⟩ rfl (fun _ => rfl) ?_ ?_
    · refine weak_by (fun _ _ => [(0, some 0), (1, some 1), (2, none)]) ?_ ?_ rfl
      · repeat' (first | exact True.intro | (refine ⟨⟨_, rfl, ?_⟩, ?_⟩) | exact VRen.kf rfl | exact VRen.loc rfl | exact VRen.vec rfl rfl rfl | exact VRen.nil rfl rfl)
      · repeat' (first | exact True.intro | (refine ⟨⟨_, rfl, ?_⟩, ?_⟩) | exact VRen.kf rfl | (refine ⟨Nat.le_refl _, rfl, fun i j hi hj => ?_⟩) | exact VLe.rfl | (refine ⟨⟨_, _, rfl⟩, ?_⟩) | (refine And.intro ?_ ?_))
    rintro m i ⟨hm2, hi⟩
    have hrl := cfgR_len g vs raw v i
    by_cases hil : i < vs.length
    · obtain ⟨b1, b2, b3, b4, b5, b6⟩ := hv.b i
      obtain ⟨l1, l2⟩ := hlo i
      have m1 := mul_bound b3 b4 (show (0 : Int) ≤ g.ports.length by omega) (show (g.ports.length : Int) ≤ 24 by omega)
      have m2 := mul_bound b5 b6 (show (0 : Int) ≤ top by omega) (show top ≤ 255 by omega)
      have m3 := mul_bound (show (0 : Int) ≤ v by omega) (show (v : Int) ≤ 24 by omega) (show (0 : Int) ≤ vs.length by omega) (show (vs.length : Int) ≤ 1000 by omega)
      have hrow := okR_len (show v < g.ports.length by omega) (f6 v (by omega))
      have hat := at_ok raw hraw (v * vs.length + i)
      have e1 : ((v * vs.length + i : Nat) : Int) = (v : Int) * vs.length + i := by rw [Int.natCast_add, Int.natCast_mul]
      rw [e1] at hat
      have hE : cfgE g vs raw v i = (bV g vs v i).1 + within (gI raw (v * vs.length + i)) ((bV g vs v i).2 - (bV g vs v i).1 + 1) := rfl
      generalize gI raw (v * vs.length + i) = q at *
      have hsn := cfgR_succ g vs raw v i
      generalize cfgE g vs raw v i = E at *
      generalize hp1 : (gV vs i).pn * (g.ports.length : Int) = P1 at *
      generalize hp2 : (gV vs i).pid * top = P2 at *
      generalize hp3 : (v : Int) * (vs.length : Int) = P3 at *
      by_cases k2 : (gV vs i).kind = 2
      · have hb : bV g vs v i = (0, 1) := by rw [bV, if_pos k2]
        rw [hb] at hE
        have hw := within_ok q (1 - 0 + 1) (by omega)
        have hwr := within_range q (b := 1 - 0 + 1) (by omega)
        simp only at hE
        generalize within q (1 - 0 + 1) = W at *
        repeat' ((conv => whnf); first | (refine Ar.mk P1 (by rw [hp1]; exact (wrap_i64 (by omega) (by omega)).symm) ?_) | (refine Ar.mk P2 (by rw [hp2]; exact (wrap_i64 (by omega) (by omega)).symm) ?_) | (refine Ar.mk P3 (by rw [hp3]; exact (wrap_i64 (by omega) (by omega)).symm) ?_) | (refine Br.dec ?_ ?_ <;> intro _ <;> try omega) | (refine Br.nbeq ?_ ?_ <;> intro _ <;> try omega) | (refine Ar.i64 (by omega) (by omega) ?_) | (refine Ix.nat (by omega) ?_) | (refine Len.mk (by omega) ?_) | (refine (hat _ _).mono ?_; rintro _ _ _ ⟨rfl, rfl, rfl⟩) | (refine (hw _ _).mono ?_; rintro _ _ _ ⟨rfl, rfl, rfl⟩) | (refine And.intro rfl ?_))
        all_goals (conv => whnf)
        all_goals
          refine ⟨vs.length - (i + 1), i + 1, by omega, ⟨rfl, by omega⟩, ?_⟩
          simp only [hsn]
          refine weak_by (fun env own => [(0, some 0), (1, some 1), (2, ekey env 12)]) ?_ ?_ rfl
          · repeat' (first | exact True.intro | (refine ⟨⟨_, rfl, ?_⟩, ?_⟩) | exact VRen.kf rfl | exact VRen.loc rfl | exact VRen.vec rfl rfl rfl)
          · repeat' (first | (refine ⟨Nat.le_refl _, rfl, fun i j hi hj => ?_⟩) | (rw [hE]; exact vle_appI _ _ _ hrl _ _ hi hj) | exact True.intro | (refine ⟨⟨_, rfl, ?_⟩, ?_⟩) | exact VRen.kf rfl | exact VLe.rfl | (refine And.intro ?_ ?_))
      · by_cases k3 : (gV vs i).kind = 3
        · have hb : bV g vs v i = (-1, ((gR g.ports v).length : Int) - 1) := by rw [bV, if_neg k2, if_pos k3]
          rw [hb] at hE
          have hw := within_ok q (((gR g.ports v).length : Int) - 1 - (-1) + 1) (by omega)
          have hwr := within_range q (b := ((gR g.ports v).length : Int) - 1 - (-1) + 1) (by omega)
          simp only at hE
          generalize within q (((gR g.ports v).length : Int) - 1 - (-1) + 1) = W at *
          repeat' ((conv => whnf); first | (refine Ar.mk P1 (by rw [hp1]; exact (wrap_i64 (by omega) (by omega)).symm) ?_) | (refine Ar.mk P2 (by rw [hp2]; exact (wrap_i64 (by omega) (by omega)).symm) ?_) | (refine Ar.mk P3 (by rw [hp3]; exact (wrap_i64 (by omega) (by omega)).symm) ?_) | (refine Br.dec ?_ ?_ <;> intro _ <;> try omega) | (refine Br.nbeq ?_ ?_ <;> intro _ <;> try omega) | (refine Ar.i64 (by omega) (by omega) ?_) | (refine Ix.nat (by omega) ?_) | (refine Len.mk (by omega) ?_) | (refine (hat _ _).mono ?_; rintro _ _ _ ⟨rfl, rfl, rfl⟩) | (refine (hw _ _).mono ?_; rintro _ _ _ ⟨rfl, rfl, rfl⟩) | (refine And.intro rfl ?_))
          all_goals (conv => whnf)
          all_goals
            refine ⟨vs.length - (i + 1), i + 1, by omega, ⟨rfl, by omega⟩, ?_⟩
            simp only [hsn]
            refine weak_by (fun env own => [(0, some 0), (1, some 1), (2, ekey env 12)]) ?_ ?_ rfl
            · repeat' (first | exact True.intro | (refine ⟨⟨_, rfl, ?_⟩, ?_⟩) | exact VRen.kf rfl | exact VRen.loc rfl | exact VRen.vec rfl rfl rfl)
            · repeat' (first | (refine ⟨Nat.le_refl _, rfl, fun i j hi hj => ?_⟩) | (rw [hE]; exact vle_appI _ _ _ hrl _ _ hi hj) | exact True.intro | (refine ⟨⟨_, rfl, ?_⟩, ?_⟩) | exact VRen.kf rfl | exact VLe.rfl | (refine And.intro ?_ ?_))
        · have hb : bV g vs v i = ((gV vs i).lo, (gV vs i).hi + P1 + P2) := by rw [bV, if_neg k2, if_neg k3, hp1, htop, hp2]
          rw [hb] at hE
          have hw := within_ok q ((gV vs i).hi + P1 + P2 - (gV vs i).lo + 1) (by omega)
          have hwr : -1 ≤ within q ((gV vs i).hi + P1 + P2 - (gV vs i).lo + 1) ∧ within q ((gV vs i).hi + P1 + P2 - (gV vs i).lo + 1) ≤ 1000000 := by
            by_cases h : 1 ≤ (gV vs i).hi + P1 + P2 - (gV vs i).lo + 1
            · have := within_range q h; omega
            · rw [within, if_pos (by omega)]; omega
          simp only at hE
          generalize within q ((gV vs i).hi + P1 + P2 - (gV vs i).lo + 1) = W at *
          repeat' ((conv => whnf); first | (refine Ar.mk P1 (by rw [hp1]; exact (wrap_i64 (by omega) (by omega)).symm) ?_) | (refine Ar.mk P2 (by rw [hp2]; exact (wrap_i64 (by omega) (by omega)).symm) ?_) | (refine Ar.mk P3 (by rw [hp3]; exact (wrap_i64 (by omega) (by omega)).symm) ?_) | (refine Br.dec ?_ ?_ <;> intro _ <;> try omega) | (refine Br.nbeq ?_ ?_ <;> intro _ <;> try omega) | (refine Ar.i64 (by omega) (by omega) ?_) | (refine Ix.nat (by omega) ?_) | (refine Len.mk (by omega) ?_) | (refine (hat _ _).mono ?_; rintro _ _ _ ⟨rfl, rfl, rfl⟩) | (refine (hw _ _).mono ?_; rintro _ _ _ ⟨rfl, rfl, rfl⟩) | (refine And.intro rfl ?_))
          all_goals (conv => whnf)
          all_goals
            refine ⟨vs.length - (i + 1), i + 1, by omega, ⟨rfl, by omega⟩, ?_⟩
            simp only [hsn]
            refine weak_by (fun env own => [(0, some 0), (1, some 1), (2, ekey env 12)]) ?_ ?_ rfl
            · repeat' (first | exact True.intro | (refine ⟨⟨_, rfl, ?_⟩, ?_⟩) | exact VRen.kf rfl | exact VRen.loc rfl | exact VRen.vec rfl rfl rfl)
            · repeat' (first | (refine ⟨Nat.le_refl _, rfl, fun i j hi hj => ?_⟩) | (rw [hE]; exact vle_appI _ _ _ hrl _ _ hi hj) | exact True.intro | (refine ⟨⟨_, rfl, ?_⟩, ?_⟩) | exact VRen.kf rfl | exact VLe.rfl | (refine And.intro ?_ ?_))
    · have ei : i = vs.length := by omega
      subst ei
      have hsc := cfgC_succ g vs raw v
      repeat' ((conv => whnf); first | (refine Br.dec ?_ ?_ <;> intro _ <;> try omega) | (refine Br.nbeq ?_ ?_ <;> intro _ <;> try omega) | (refine Ar.i64 (by omega) (by omega) ?_) | (refine Len.mk (by omega) ?_))
      all_goals (conv => whnf)
      all_goals
        refine ⟨g.ports.length - (v + 1), v + 1, by omega, ⟨rfl, by omega⟩, ?_⟩
        simp only [hsc]
        refine weak_by (fun env own => [(0, some 0), (1, ekey env 10)]) ?_ ?_ rfl
        · repeat' (first | exact True.intro | (refine ⟨⟨_, rfl, ?_⟩, ?_⟩) | exact VRen.kf rfl | exact VRen.loc rfl | exact VRen.vec rfl rfl rfl)
        · repeat' (first | (refine ⟨Nat.le_refl _, rfl, fun i j hi hj => ?_⟩) | exact vle_appC _ _ _ _ hcl hrl _ rfl _ _ hi hj | exact True.intro | (refine ⟨⟨_, rfl, ?_⟩, ?_⟩) | exact VRen.kf rfl | (refine And.intro ?_ ?_))
  · have e : v = g.ports.length := by omega
    subst e
    refine VLe.fz hcl.symm (fun h => h) (fun i j hi hj => VLe.of_eq ?_)
    simp [shiftF, cfg]

end Go.Proofs.YtcnpplcfabdoaaaGreat
