/-
  DatalinkOnce: for every input the call returns true, and every argument reads as it did. No condition.
-/
import Derived.Test.YtadefbamjaajfaaDL8
import Derived.Test.YtadefbamjaajfaaDL9
namespace Go.Proofs.Ytadefbamjaajfaa
open Go.Eng Go.ChangeShapes Go.WideShapes Go.ChangeAt Go.RowKit
set_option maxRecDepth 100000
set_option linter.unusedVariables false

theorem link_neg (r : Raw) : ∀ f ∈ r.link.fr, f.2 < 0 := by
  intro f hf
  simp only [Raw.link, Raw.frs, List.mem_map] at hf
  obtain ⟨i, _, rfl⟩ := hf
  have c3 := Int.emod_nonneg (gI r.data i) (show (50 : Int) ≠ 0 by omega)
  simp only [Raw.frame]
  split <;> omega

theorem link_item (r : Raw) : r.link.item ≤ 1000 := by
  have b6 := Int.emod_lt_of_pos r.item (show (0 : Int) < 1000 by omega)
  simp only [Raw.link]; omega

def cnt (F : Int) (ds : List Int) (i : Nat) : Nat := ((ds.take i).filter (ge F)).length

theorem cnt_skip {F : Int} {ds : List Int} {i : Nat} (hi : i < ds.length) (h : ¬ gI ds i ≥ F) : cnt F ds (i + 1) = cnt F ds i := by
  unfold cnt
  rw [gI_take ds i hi, filter_lt_snoc _ (by omega)]
theorem cnt_next {F t : Int} {ds : List Int} {i : Nat} (hf : ds.filter (ge F) = upto F t) (hi : i < ds.length) (h : gI ds i ≥ F) : gI ds i = F + cnt F ds i ∧ cnt F ds (i + 1) = cnt F ds i + 1 := by
  unfold cnt
  have e := gI_take ds i hi
  rw [e, filter_ge_snoc _ h]
  refine ⟨?_, by simp⟩
  have h1 : ds = ds.take (i + 1) ++ ds.drop (i + 1) := (List.take_append_drop _ _).symm
  rw [h1, e, List.filter_append, filter_ge_snoc _ h] at hf
  have h2 := congrArg (fun q => q[((ds.take i).filter (ge F)).length]?) hf
  simp only [List.append_assoc, List.getElem?_append_right (Nat.le_refl _), Nat.sub_self] at h2
  simp only [List.cons_append, List.getElem?_cons_zero, upto, List.getElem?_map] at h2
  symm at h2
  rw [Option.map_eq_some_iff] at h2
  obtain ⟨k, hk, hk'⟩ := h2
  have := List.getElem?_eq_some_iff.1 hk
  obtain ⟨_, h3⟩ := this
  simp at h3
  omega
theorem cnt_all {F t : Int} {ds : List Int} {i : Nat} (hf : ds.filter (ge F) = upto F t) (hi : ds.length ≤ i) (ht : F ≤ t) : F + (cnt F ds i : Int) = t := by
  unfold cnt
  rw [List.take_of_length_le hi, hf]
  simp [upto]
  omega
theorem cnt_le (F : Int) (ds : List Int) (i : Nat) : cnt F ds i ≤ ds.length := by
  unfold cnt
  have h1 := List.length_filter_le (ge F) (ds.take i)
  simp at h1
  omega

theorem law4 (r : Raw) (l : List (Int × Int)) : Ret Try.prog 4 [r.v, .fz l.length 2 false (vF l)] (.bool true) := by
  have h0 := known_ok
  have h1 := link_ok r
  have h4 := events_ok l 250 (by decide)
  have hv := link_valid r
  have hng := link_neg r
  have hit := link_item r
  have hel := evs_len l 250
  revert h1 h4 hv hng hit hel
  generalize r.link = x
  generalize evs l 250 = e
  intro h1 h4 hv hng hit hel
  have hb := valid_bounds hv
  obtain ⟨t, t1, t2, t3, t4⟩ := once_plain hv hng hit e (by omega)
  have h5 := run_ok x e
  have hrun : x.run e = x.runs e := by rw [DL.run, if_pos ⟨hv, by omega⟩]
  rw [hrun] at h5
  have hrv := runs_valid hv e e.length
  rw [List.take_of_length_le (Nat.le_refl _)] at hrv
  obtain ⟨hrv, hrl⟩ := hrv
  have hrb := valid_bounds hrv
  revert h5 t1 t3 t4 hrl hrb
  generalize x.runs e = q
  obtain ⟨y, ds⟩ := q
  intro t1 t3 t4 h5 hrl hrb
  simp only at h5 t1 t3 t4 hrl hrb
  refine ret_frz rfl ?_
  refine fn_rule mixed Try.func4 rfl hc4 hr4 rfl ?_
  repeat' ((conv => whnf); first
      | (refine Br.tt ?_)
      | (refine Br.ff ?_)
      | (refine Br.dec (fun _ => ?_) (fun _ => ?_) <;> first | (exfalso; omega) | skip)
      | (refine Br.beq (fun _ => ?_) (fun _ => ?_) <;> first | (exfalso; omega) | skip)
      | (refine Br.bne (fun _ => ?_) (fun _ => ?_) <;> first | (exfalso; omega) | skip)
      | (refine Br.nbeq (fun _ => ?_) (fun _ => ?_) <;> first | (exfalso; omega) | skip)
      | (refine Br.nble (fun _ => ?_) (fun _ => ?_) <;> first | (exfalso; omega) | skip)
      | (refine Ar.i64 (by omega) (by omega) ?_)
      | (refine Ar.u32 (by omega) (by omega) ?_)
      | (refine Sv.mk _ rfl ?_)
      | (refine Nz.mk (by omega) ?_)
      | (refine Nn.mk (by omega) ?_)
      | (refine Ix.nat (by omega) ?_)
      | (refine Ix.ofNat (by omega) ?_)
      | (refine Ix.mk 0 rfl (by omega) ?_)
      | (refine Ix.mk 1 rfl (by omega) ?_)
      | (refine Ix.int (by omega) (by omega) ?_)
      | (refine Bd.nat (by omega) ?_)
      | (refine Bd.mk 0 rfl (by omega) ?_)
      | (refine Bd.mk 1 rfl (by omega) ?_)
      | (refine Bd.int (by omega) (by omega) ?_)
      | (refine Len.mk (by omega) ?_)
      | (refine Len.mk (by simp only [List.length_cons, List.length_nil]; omega) ?_)
      | (refine Ltn.mk (by omega) ?_)
      | (refine Both.mk ?_ ?_)
      | (refine (h0 _ _).mono ?_; rintro _ _ _ ⟨rfl, rfl, rfl⟩)
      | (refine (h1 _ _).mono ?_; rintro _ _ _ ⟨rfl, rfl, rfl⟩)
      | (refine (h4 _ _).mono ?_; rintro _ _ _ ⟨rfl, rfl, rfl⟩)
      | (refine (h5 _ _).mono ?_; rintro _ _ _ ⟨rfl, rfl, rfl⟩)
      | (refine And.intro rfl ?_)
      | (refine Br.any (fun _ => ?_) (fun _ => ?_)))
  all_goals (conv => whnf)
  refine loop_r mixed [6, 7, 8] (fun i : Nat => [(10, .int .i64 i), (9, .int .i64 (x.item + x.mod - 1 + cnt (x.item + x.mod - 1) ds i))]) (fun n i => n = ds.length - i ∧ i ≤ ds.length) ds.length 0 ⟨rfl, Nat.zero_le _⟩ ?_ ?_
  · refine weak_by (fun _ _ => [(2, some 2), (1, some 1), (0, some 0)]) ?_ ?_ rfl
    · repeat' (first | exact VRen.int (by rw [cnt]; simp) | exact True.intro | (refine ⟨⟨_, rfl, ?_⟩, ?_⟩) | exact VRen.kf rfl | exact VRen.int rfl | exact VRen.int (by omega) | exact VRen.loc rfl | exact VRen.vec rfl rfl rfl | exact VRen.vec rfl (by omega) (by omega) | exact VRen.nil rfl rfl | exact VRen.nil rfl (by omega) | exact VRen.fz rfl (fun h => h) (fun _ _ _ _ => VLe.rfl) | (refine ⟨Nat.le_refl _, rfl, fun i j hi hj => ?_⟩) | (refine ⟨by omega, rfl, fun i j hi hj => ?_⟩) | exact VLe.rfl | (refine ⟨⟨_, _, rfl⟩, ?_⟩) | (refine And.intro ?_ ?_))
    · repeat' (first | exact VRen.int (by rw [cnt]; simp) | exact True.intro | (refine ⟨⟨_, rfl, ?_⟩, ?_⟩) | exact VRen.kf rfl | exact VRen.int rfl | exact VRen.int (by omega) | exact VRen.loc rfl | exact VRen.vec rfl rfl rfl | exact VRen.vec rfl (by omega) (by omega) | exact VRen.nil rfl rfl | exact VRen.nil rfl (by omega) | exact VRen.fz rfl (fun h => h) (fun _ _ _ _ => VLe.rfl) | (refine ⟨Nat.le_refl _, rfl, fun i j hi hj => ?_⟩) | (refine ⟨by omega, rfl, fun i j hi hj => ?_⟩) | exact VLe.rfl | (refine ⟨⟨_, _, rfl⟩, ?_⟩) | (refine And.intro ?_ ?_))
  rintro n i ⟨hn, hi⟩
  have hcl := cnt_le (x.item + x.mod - 1) ds i
  have hcn := cnt_next (i := i) t1
  have hcs := cnt_skip (F := x.item + x.mod - 1) (ds := ds) (i := i)
  have hca := cnt_all (i := i) t1
  repeat' ((conv => whnf); first
      | (refine Br.tt ?_)
      | (refine Br.ff ?_)
      | (refine Br.dec (fun _ => ?_) (fun _ => ?_) <;> first | (exfalso; omega) | skip)
      | (refine Br.beq (fun _ => ?_) (fun _ => ?_) <;> first | (exfalso; omega) | skip)
      | (refine Br.bne (fun _ => ?_) (fun _ => ?_) <;> first | (exfalso; omega) | skip)
      | (refine Br.nbeq (fun _ => ?_) (fun _ => ?_) <;> first | (exfalso; omega) | skip)
      | (refine Br.nble (fun _ => ?_) (fun _ => ?_) <;> first | (exfalso; omega) | skip)
      | (refine Ar.i64 (by omega) (by omega) ?_)
      | (refine Ar.u32 (by omega) (by omega) ?_)
      | (refine Sv.mk _ rfl ?_)
      | (refine Nz.mk (by omega) ?_)
      | (refine Nn.mk (by omega) ?_)
      | (refine Ix.nat (by omega) ?_)
      | (refine Ix.ofNat (by omega) ?_)
      | (refine Ix.mk 0 rfl (by omega) ?_)
      | (refine Ix.mk 1 rfl (by omega) ?_)
      | (refine Ix.int (by omega) (by omega) ?_)
      | (refine Bd.nat (by omega) ?_)
      | (refine Bd.mk 0 rfl (by omega) ?_)
      | (refine Bd.mk 1 rfl (by omega) ?_)
      | (refine Bd.int (by omega) (by omega) ?_)
      | (refine Len.mk (by omega) ?_)
      | (refine Len.mk (by simp only [List.length_cons, List.length_nil]; omega) ?_)
      | (refine Ltn.mk (by omega) ?_)
      | (refine Both.mk ?_ ?_)
      | (refine (h0 _ _).mono ?_; rintro _ _ _ ⟨rfl, rfl, rfl⟩)
      | (refine Br.any (fun _ => ?_) (fun _ => ?_)))
  all_goals (conv => whnf)
  · refine ⟨ds.length - (i + 1), i + 1, by omega, ⟨rfl, by omega⟩, ?_⟩
    refine weak_by (fun _ _ => [(2, some 2), (1, some 1), (0, some 0)]) ?_ ?_ rfl
    · repeat' (first | exact True.intro | (refine ⟨⟨_, rfl, ?_⟩, ?_⟩) | exact VRen.kf rfl | exact VRen.int rfl | exact VRen.int (by omega) | exact VRen.loc rfl | exact VRen.vec rfl rfl rfl | exact VRen.vec rfl (by omega) (by omega) | exact VRen.nil rfl rfl | exact VRen.nil rfl (by omega) | exact VRen.fz rfl (fun h => h) (fun _ _ _ _ => VLe.rfl) | (refine ⟨Nat.le_refl _, rfl, fun i j hi hj => ?_⟩) | (refine ⟨by omega, rfl, fun i j hi hj => ?_⟩) | exact VLe.rfl | (refine ⟨⟨_, _, rfl⟩, ?_⟩) | (refine And.intro ?_ ?_))
    · repeat' (first | exact True.intro | (refine ⟨⟨_, rfl, ?_⟩, ?_⟩) | exact VRen.kf rfl | exact VRen.int rfl | exact VRen.int (by omega) | exact VRen.loc rfl | exact VRen.vec rfl rfl rfl | exact VRen.vec rfl (by omega) (by omega) | exact VRen.nil rfl rfl | exact VRen.nil rfl (by omega) | exact VRen.fz rfl (fun h => h) (fun _ _ _ _ => VLe.rfl) | (refine ⟨Nat.le_refl _, rfl, fun i j hi hj => ?_⟩) | (refine ⟨by omega, rfl, fun i j hi hj => ?_⟩) | exact VLe.rfl | (refine ⟨⟨_, _, rfl⟩, ?_⟩) | (refine And.intro ?_ ?_))
  · refine ⟨ds.length - (i + 1), i + 1, by omega, ⟨rfl, by omega⟩, ?_⟩
    refine weak_by (fun _ _ => [(2, some 2), (1, some 1), (0, some 0)]) ?_ ?_ rfl
    · repeat' (first | exact True.intro | (refine ⟨⟨_, rfl, ?_⟩, ?_⟩) | exact VRen.kf rfl | exact VRen.int rfl | exact VRen.int (by omega) | exact VRen.loc rfl | exact VRen.vec rfl rfl rfl | exact VRen.vec rfl (by omega) (by omega) | exact VRen.nil rfl rfl | exact VRen.nil rfl (by omega) | exact VRen.fz rfl (fun h => h) (fun _ _ _ _ => VLe.rfl) | (refine ⟨Nat.le_refl _, rfl, fun i j hi hj => ?_⟩) | (refine ⟨by omega, rfl, fun i j hi hj => ?_⟩) | exact VLe.rfl | (refine ⟨⟨_, _, rfl⟩, ?_⟩) | (refine And.intro ?_ ?_))
    · repeat' (first | exact True.intro | (refine ⟨⟨_, rfl, ?_⟩, ?_⟩) | exact VRen.kf rfl | exact VRen.int rfl | exact VRen.int (by omega) | exact VRen.loc rfl | exact VRen.vec rfl rfl rfl | exact VRen.vec rfl (by omega) (by omega) | exact VRen.nil rfl rfl | exact VRen.nil rfl (by omega) | exact VRen.fz rfl (fun h => h) (fun _ _ _ _ => VLe.rfl) | (refine ⟨Nat.le_refl _, rfl, fun i j hi hj => ?_⟩) | (refine ⟨by omega, rfl, fun i j hi hj => ?_⟩) | exact VLe.rfl | (refine ⟨⟨_, _, rfl⟩, ?_⟩) | (refine And.intro ?_ ?_))
  all_goals exact VLe.rfl

theorem once_lifted (os : Os) (started : os.Started) (H : Type) (enc : TypeId × Value → H) :
    ReturnsInHanded {} Try.checked os 4 .any (Rows.datalinkOnceSpec.pre6 enc Try.prog Try.f4 Rows.datalinkOnceRow.domain false) (Rows.datalinkOnceSpec.post enc Try.prog Try.f4 false true false false) := by
  refine returnsInHanded_of_change (C := Try.checked) own started (by kernel_rfl) Try.func4
    (ChangeSpec.witness6 (enc := enc) (C := Try.checked) false ⟨#[], #[.agg #[.int .i64 0, .int .i64 0, .int .i64 0, .int .i64 0, .int .i64 0, .slice none 0 0, .slice none 0 0, .slice none 0 0], .slice none 0 0], []⟩ 8 (by kernel_rfl) (by kernel_rfl) (by kernel_rfl) (by kernel_rfl)) ?_
  intro W base args ds gs before hval0 hW hcnd _
  have hval : ∀ (j : Nat) t v, Try.f4.params[j]? = some t → args[j]? = some v → Value.okWide Try.prog W .any base t v := hval0
  have hW' := hW
  obtain ⟨p, q, hA0, hV, rfl, hfz, hnd⟩ := hW
  have hA : DataW.TrodAll enc Try.prog W 0 (fun _ => true) true Try.f4.params.toList args.toList ds p := hA0
  rw [Try.params4] at hA hval
  obtain ⟨v0, vs0, d0, ds0, p0, q0, hargs, rfl, rfl, h0, r0⟩ := trodAll_cons hA
  obtain ⟨v1, vs1, d1, ds1, p1, q1, hargs1, rfl, rfl, h1, r1⟩ := trodAll_cons r0
  obtain ⟨rfl, rfl, rfl⟩ := trodAll_nil r1
  subst hargs1
  obtain rfl : args = #[v0, v1] := by cases args; simp_all
  obtain ⟨rfl, rfl⟩ := trodVars_none hV
  obtain ⟨r, hr⟩ := den_raw (agg_of_ok (hval 0 24 v0 rfl rfl)) h0
  obtain ⟨l, hl⟩ := den_evs (slice_of_ok (hval 1 25 v1 rfl rfl)) h1
  refine (ret_calls (args := #[v0, v1]) (W := W) (law4 r l) rfl ?_).mono ?_
  · intro i v u hv hu
    match i, hv, hu with
    | 0, hv, hu => simp at hv hu; subst hv hu; exact hr
    | 1, hv, hu => simp at hv hu; subst hv hu; exact hl
    | i + 2, hv, hu => simp at hv
  · rintro e W' ⟨rfl, hb⟩
    refine ⟨_, rfl, post_law (tb := 4) laid rfl hW' ?_ (by kernel_rfl) Try.underlying4 rfl rfl rfl hb⟩
    rw [Try.params4]
    intro t ht
    simp at ht
    rcases ht with rfl | rfl
    · exact ⟨read24, size24⟩
    · exact ⟨read25, size25⟩

theorem datalinkOnce_holds : Rows.DatalinkOnceSaid :=
  OpenClaim.holds_of_wide 4 Try.f4 rfl rfl rfl rfl rfl rfl rfl ⟨rfl, rfl, rfl, rfl, rfl⟩ rfl rfl rfl rfl rfl (by kernel_rfl) Try.func4 (by kernel_rfl)
    (of_decide_eq_true (by kernel_rfl)) (by unfold Func.isWrapper; first | (rw [if_pos (by decide +kernel)]; kernel_rfl) | (rw [if_neg (by decide +kernel)]; exact ⟨rfl, rfl⟩))
    (fun os started H enc _ => once_lifted os started H enc)
end Go.Proofs.Ytadefbamjaajfaa
