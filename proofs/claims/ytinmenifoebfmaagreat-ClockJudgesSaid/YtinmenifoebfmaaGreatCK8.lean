import Derived.Test.YtinmenifoebfmaaGreatEvA
import Derived.Test.YtinmenifoebfmaaGreatTKN
import Derived.Test.YtinmenifoebfmaaGreatDS1
namespace Go.Proofs.YtinmenifoebfmaaGreat
open Go.Eng
set_option maxRecDepth 100000
set_option linter.unusedVariables false

theorem known36_ok : Ret Tryz.prog 25 [] (.bool true) := by
  have := ev_ret mixed tn_ok ev_known
  simpa only [C.vs, C.v] using this
def bigI (g : G) (c : Cf) : Bool := decide (g.ports.length > 60 ∨ g.ids.length > 60 ∨ c.length > 60)
theorem large36_ok (g : G) (hs : g.Small) (c : Cf) (hc : CSmall c) : Ret Tryz.prog 27 [g.v, cV c] (.bool (bigI g c)) := by
  have s1 := hs.ids
  have s2 := hs.ports
  have s3 := hc.len
  refine ret_frz rfl ?_
  refine fn_rule mixed Tryz.func27 rfl hc27 hr27 rfl ?_
  repeat' ((conv => whnf); first | (refine Br.dec ?_ ?_ <;> intro _ <;> try omega))
  all_goals (conv => whnf)
  all_goals exact VLe.bool (by symm; rw [bigI]; first | (rw [decide_eq_true_eq]; omega) | (rw [decide_eq_false_iff_not]; omega))

theorem same36_ok (a b : List Int) (ha : a.length ≤ 1000000) (hb : b.length ≤ 1000000) : Ret Tryz.prog 34 [.fz a.length 1 false (vI a), .fz b.length 1 false (vI b)] (.bool (decide (a = b))) := by
  refine ret_frz rfl ?_
  refine fn_rule mixed Tryz.func34 rfl hc34 hr34 rfl ?_
  repeat' ((conv => whnf); first | (refine Br.bne ?_ ?_ <;> intro _ <;> try omega))
  all_goals (conv => whnf)
  · exact VLe.bool (by rw [decide_eq_false (fun h => by subst h; omega)])
  refine loop_r mixed [0, 1] (fun i : Nat => [(5, .int .i64 i)]) (fun m i => m = a.length - i ∧ i ≤ a.length ∧ ∀ j, j < i → gI a j = gI b j) a.length 0 ⟨rfl, Nat.zero_le _, fun j hj => by omega⟩ ?_ ?_
  · refine weak_by (fun _ _ => []) ?_ ?_ rfl
    · repeat' (first | exact True.intro | (refine ⟨⟨_, rfl, ?_⟩, ?_⟩) | exact VRen.kf rfl)
    · repeat' (first | exact True.intro)
  rintro m i ⟨hm, hi, hall⟩
  repeat' ((conv => whnf); first | (refine Br.dec ?_ ?_ <;> intro _ <;> try omega) | (refine Br.bne ?_ ?_ <;> intro _ <;> try omega) | (refine Ar.i64 (by omega) (by omega) ?_) | (refine Ix.nat (by omega) ?_))
  all_goals (conv => whnf)
  · rename_i hne
    exact VLe.bool (by rw [decide_eq_false (fun h => by subst h; exact hne rfl)])
  · refine ⟨a.length - (i + 1), i + 1, by omega, ⟨rfl, by omega, fun j hj => ?_⟩, ?_⟩
    · by_cases e : j = i
      · subst e; assumption
      · exact hall j (by omega)
    · refine weak_by (fun _ _ => []) ?_ ?_ rfl
      · repeat' (first | exact True.intro | (refine ⟨⟨_, rfl, ?_⟩, ?_⟩) | exact VRen.kf rfl)
      · repeat' (first | exact True.intro)
  · have e : a = b := List.ext_getElem (by omega) (fun j h1 h2 => by
      have := hall j (by omega)
      simpa [gI, List.getD, List.getElem?_eq_getElem h1, List.getElem?_eq_getElem h2] using this)
    exact VLe.bool (by rw [decide_eq_true e])

/-! ## phases -/

def phs (c : Cf) : List Int := c.map fun r => gI r 2
theorem phs_len (c : Cf) : (phs c).length = c.length := by simp [phs]
theorem phs_get (c : Cf) {v : Nat} (h : v < c.length) : gI (phs c) v = gI (gC c v) 2 := by
  simp [phs, gI, gC, List.getD, h]
def G.phL (g : G) (c : Cf) : List Int := if g.conn && g.cconf c then phs c else []
def phF (c : Cf) (v : Nat) : Nat → Nat → V := fun i _ => .int .i64 (if i < v then gI (phs c) i else 0)
theorem phF_set (c : Cf) (v i t : Nat) (x : Int) (hx : x = gI (phs c) v) (ht : t < 1) : VLe (fset (phF c v) v 0 [.int .i64 x] i t) (phF c (v + 1) i t) := by
  obtain rfl : t = 0 := by omega
  apply VLe.of_eq
  by_cases e : i = v
  · subst e; simp [fset, phF, hx]
  · have : (i < v + 1) = (i < v) := by simp; omega
    simp [fset, phF, e, this]
set_option maxHeartbeats 4000000 in
theorem phases_ok (g : G) (hs : g.Small) (c : Cf) (hc : CSmall c) : Ret Tryz.prog 35 [g.v, cV c] (.fz (g.phL c).length 1 false (vI (g.phL c))) := by
  have hcf := cconfiguration_ok g hs c hc
  have hcl := hc.len
  refine ret_frz rfl ?_
  refine fn_rule mixed Tryz.func35 rfl hc35 hr35 rfl ?_
  by_cases h : (g.conn && g.cconf c) = true
  · rw [h] at hcf
    rw [G.phL, if_pos h, phs_len]
    rw [Bool.and_eq_true] at h
    obtain ⟨e1, e2⟩ := cconf_facts h.2
    obtain ⟨f1, f2, f3, f4, f5, f6, f7⟩ := val_facts (conn_facts h.1).1
    repeat' ((conv => whnf); first | (refine Br.tt ?_) | (refine Bd.nat (by omega) ?_) | (refine Len.mk (by omega) ?_) | (refine MkS.vec ?_) | (refine (hcf _ _).mono ?_; rintro _ _ _ ⟨rfl, rfl, rfl⟩))
    all_goals (conv => whnf)
    refine loop_u mixed [5, 15, 16] [] [2, 3, 4, 5, 6, 7, 8, 9, 10, 11, 12, 13, 14, 15, 16, 17, 18, 19, 20, 21, 22, 23, 24, 25, 26, 27, 28, 29] [1, 0] (fun v : Nat => [(17, .int .i64 v)]) (fun own v => updO own 1 (.vec c.length 1 (phF c v))) (fun m v => m = c.length - v ∧ v ≤ c.length) c.length 0 ⟨rfl, Nat.zero_le _⟩ rfl (fun _ => rfl) ?_ ?_
    · refine weak_by (fun _ _ => [(0, some 0), (1, some 1)]) ?_ ?_ rfl
      · repeat' (first | exact True.intro | (refine ⟨⟨_, rfl, ?_⟩, ?_⟩) | exact VRen.kf rfl | exact VRen.vec rfl rfl rfl)
      · repeat' (first | (refine ⟨Nat.le_refl _, rfl, fun i j hi hj => VLe.of_eq ?_⟩; obtain rfl : j = 0 := (by omega); rfl) | exact True.intro | (refine ⟨⟨_, rfl, ?_⟩, ?_⟩) | exact VRen.kf rfl | (refine And.intro ?_ ?_))
    rintro m v ⟨hm, hv⟩
    by_cases hvl : v < c.length
    · have hr := e2 v hvl
      repeat' ((conv => whnf); first | (refine Ix.mk 2 rfl (by omega) ?_) | (refine Br.dec ?_ ?_ <;> intro _ <;> try omega) | (refine Ar.i64 (by omega) (by omega) ?_) | (refine Ix.nat (by omega) ?_) | (refine Ltn.mk (by omega) ?_))
      all_goals (conv => whnf)
      refine ⟨c.length - (v + 1), v + 1, by omega, ⟨rfl, by omega⟩, ?_⟩
      refine weak_by (fun _ _ => [(0, some 0), (1, some 1)]) ?_ ?_ rfl
      · repeat' (first | exact True.intro | (refine ⟨⟨_, rfl, ?_⟩, ?_⟩) | exact VRen.kf rfl | exact VRen.vec rfl rfl rfl)
      · repeat' (first | (refine ⟨Nat.le_refl _, rfl, fun i j hi hj => ?_⟩; simp only [Nat.zero_add]; exact phF_set c v i j _ (phs_get c hvl).symm hj) | exact True.intro | (refine ⟨⟨_, rfl, ?_⟩, ?_⟩) | exact VRen.kf rfl | (refine And.intro ?_ ?_))
    · have ev : v = c.length := by omega
      subst ev
      repeat' ((conv => whnf); first | (refine Br.dec ?_ ?_ <;> intro _ <;> try omega) | (refine Len.mk (by omega) ?_))
      all_goals (conv => whnf)
      refine VLe.fz rfl (fun h => h) (fun i j hi hj => VLe.of_eq ?_)
      obtain rfl : j = 0 := by omega
      rw [shiftF_eq, Nat.zero_add, phF, if_pos hi]; rfl
  · rw [G.phL, if_neg h]
    simp only [Bool.not_eq_true] at h
    rw [h] at hcf
    repeat' ((conv => whnf); first | (refine Br.ff ?_) | (refine (hcf _ _).mono ?_; rintro _ _ _ ⟨rfl, rfl, rfl⟩))
    all_goals (conv => whnf)
    exact VLe.nilfz rfl
theorem vle_appPh (c : Cf) (n i j : Nat) (hi : i < n + 1) (hj : j < 1) (F : Nat → Nat → V) (x : Int) (hF : F 0 0 = .int .i64 x) (hx : x = gI (phs c) n) : VLe (fapp (shiftF 0 (vI (phs c))) n (shiftF 0 F) i j) (vI (phs c) i j) := by
  obtain rfl : j = 0 := by omega
  apply VLe.of_eq
  by_cases h : i < n
  · rw [fapp_lt h, shiftF_eq, Nat.zero_add]
  · rw [fapp_ge h]
    have : i = n := by omega
    subst this
    simp [shiftF, hF, vI, hx]
set_option maxHeartbeats 4000000 in
theorem rphases_ok (g : G) (hs : g.Small) (c : Cf) (hc : CSmall c) : Ret Tryz.prog 36 [g.v, cV c] (.fz (g.phL c).length 1 false (vI (g.phL c))) := by
  have hf := rcfit_ok g hs
  have hvs := cvars_ok
  have hcl := hc.len
  refine ret_frz rfl ?_
  refine fn_rule mixed Tryz.func36 rfl hc36 hr36 rfl ?_
  cases hgc : g.conn with
  | false =>
    rw [hgc] at hf
    rw [G.phL, hgc, Bool.false_and, if_neg (by simp)]
    repeat' ((conv => whnf); first | (refine Br.ff ?_) | (refine (hf _ _).mono ?_; rintro _ _ _ ⟨rfl, rfl, rfl⟩))
    all_goals (conv => whnf)
    exact VLe.nilfz rfl
  | true =>
    rw [hgc] at hf
    obtain ⟨h1, _⟩ := conn_facts hgc
    obtain ⟨f1, f2, f3, f4, f5, f6, f7⟩ := val_facts h1
    have hcf := rcconf_ok g hs c hc h1
    rw [G.phL, hgc, Bool.true_and]
    cases hcc : g.cconf c with
    | false =>
      rw [hcc] at hcf
      rw [if_neg (by simp)]
      repeat' ((conv => whnf); first | (refine Br.tt ?_) | (refine Br.ff ?_) | (refine (hf _ _).mono ?_; rintro _ _ _ ⟨rfl, rfl, rfl⟩) | (refine (hvs _ _).mono ?_; rintro _ _ _ ⟨rfl, rfl, rfl⟩) | (refine (hcf _ _).mono ?_; rintro _ _ _ ⟨rfl, rfl, rfl⟩) | (refine And.intro rfl ?_))
      all_goals (conv => whnf)
      exact VLe.nilfz rfl
    | true =>
      rw [hcc] at hcf
      rw [if_pos rfl, phs_len]
      obtain ⟨e1, e2⟩ := cconf_facts hcc
      repeat' ((conv => whnf); first | (refine Br.tt ?_) | (refine (hf _ _).mono ?_; rintro _ _ _ ⟨rfl, rfl, rfl⟩) | (refine (hvs _ _).mono ?_; rintro _ _ _ ⟨rfl, rfl, rfl⟩) | (refine (hcf _ _).mono ?_; rintro _ _ _ ⟨rfl, rfl, rfl⟩) | (refine And.intro rfl ?_))
      all_goals (conv => whnf)
      refine loop_u mixed [1] [1] [2, 3, 4, 5, 6, 7, 8, 9, 10, 11, 12, 13, 14, 15, 16, 17, 18, 19, 20, 21, 22, 23, 24, 25, 26, 27, 28, 29] [1, 0] (fun i : Nat => [(5, .vec 1 1 0 i), (6, .int .i64 i)]) (fun own i => (1, .vec i 1 (vI (phs c))) :: own) (fun m i => m = c.length - i ∧ i ≤ c.length) c.length 0 ⟨rfl, Nat.zero_le _⟩ rfl (fun _ => rfl) ?_ ?_
      · refine weak_by (fun _ _ => [(0, some 0), (1, none)]) ?_ ?_ rfl
        · repeat' (first | exact True.intro | (refine ⟨⟨_, rfl, ?_⟩, ?_⟩) | exact VRen.kf rfl | exact VRen.nil rfl rfl)
        · repeat' (first | exact True.intro | (refine ⟨⟨_, rfl, ?_⟩, ?_⟩) | exact VRen.kf rfl | (refine ⟨⟨_, _, rfl⟩, ?_⟩) | (refine And.intro ?_ ?_))
      rintro m i ⟨hm, hi⟩
      by_cases hil : i < c.length
      · have hr := e2 i hil
        repeat' ((conv => whnf); first | (refine Ix.mk 2 rfl (by omega) ?_) | (refine Br.dec ?_ ?_ <;> intro _ <;> try omega) | (refine Br.nbeq ?_ ?_ <;> intro _ <;> try omega) | (refine Ar.i64 (by omega) (by omega) ?_) | (refine Ix.nat (by omega) ?_) | (refine Len.mk (by omega) ?_))
        all_goals (conv => whnf)
        refine ⟨c.length - (i + 1), i + 1, by omega, ⟨rfl, by omega⟩, ?_⟩
        refine weak_by (fun env _ => [(0, some 0), (1, ekey env 5)]) ?_ ?_ rfl
        · repeat' (first | exact True.intro | (refine ⟨⟨_, rfl, ?_⟩, ?_⟩) | exact VRen.kf rfl | exact VRen.vec rfl rfl rfl)
        · repeat' (first | (refine ⟨Nat.le_refl _, rfl, fun a b ha hb => vle_appPh c i a b ha hb _ _ (by rfl) (phs_get c hil).symm⟩) | exact True.intro | (refine ⟨⟨_, rfl, ?_⟩, ?_⟩) | exact VRen.kf rfl | (refine And.intro ?_ ?_))
      · have ei : i = c.length := by omega
        subst ei
        repeat' ((conv => whnf); first | (refine Br.dec ?_ ?_ <;> intro _ <;> try omega) | (refine Len.mk (by omega) ?_))
        all_goals (conv => whnf)
        exact VLe.fz rfl (fun h => h) (fun a b ha hb => VLe.of_eq (by rw [shiftF_eq, Nat.zero_add]))
set_option maxHeartbeats 4000000 in
theorem law36 (g : G) (hs : g.Small) (c : Cf) (hc : CSmall c) : Ret Tryz.prog 7 [g.v, cV c] (.bool true) := by
  have hl := large36_ok g hs c hc
  have h1 := cfit_ok g hs
  have h2 := rcfit_ok g hs
  have h3 := clegit_ok g hs c hc
  have h4 := rclegit_ok g hs c hc
  have h7 := phases_ok g hs c hc
  have h8 := rphases_ok g hs c hc
  have hpl : (g.phL c).length ≤ 1000000 := by
    rw [G.phL]
    split
    · rename_i h
      rw [Bool.and_eq_true] at h
      obtain ⟨e1, e2⟩ := cconf_facts h.2
      obtain ⟨f1, f2, f3, f4, f5, f6, f7⟩ := val_facts (conn_facts h.1).1
      rw [phs_len]; omega
    · simp
  have h9 := same36_ok (g.phL c) (g.phL c) hpl hpl
  rw [decide_eq_true rfl] at h9
  refine ret_frz rfl ?_
  refine fn_rule mixed Tryz.func7 rfl hc7 hr7 rfl ?_
  cases hf : g.conn with
  | true =>
    have h5 := cclaim_ok g hs hf
    have h6 := rcclaim_ok g hs hf
    repeat' ((conv => whnf); first | (refine Br.self ?_) | (refine Br.tt ?_) | (refine Br.ff ?_) | (refine Br.dec ?_ ?_ <;> intro _ <;> try omega) | (refine (hl _ _).mono ?_; rintro _ _ _ ⟨rfl, rfl, rfl⟩) | (refine (known36_ok _ _).mono ?_; rintro _ _ _ ⟨rfl, rfl, rfl⟩) | (refine (h1 _ _).mono ?_; rintro _ _ _ ⟨rfl, rfl, rfl⟩) | (refine (h2 _ _).mono ?_; rintro _ _ _ ⟨rfl, rfl, rfl⟩) | (refine (h3 _ _).mono ?_; rintro _ _ _ ⟨rfl, rfl, rfl⟩) | (refine (h4 _ _).mono ?_; rintro _ _ _ ⟨rfl, rfl, rfl⟩) | (refine (h5 _ _).mono ?_; rintro _ _ _ ⟨rfl, rfl, rfl⟩) | (refine (h6 _ _).mono ?_; rintro _ _ _ ⟨rfl, rfl, rfl⟩) | (refine (h7 _ _).mono ?_; rintro _ _ _ ⟨rfl, rfl, rfl⟩) | (refine (h8 _ _).mono ?_; rintro _ _ _ ⟨rfl, rfl, rfl⟩) | (refine (h9 _ _).mono ?_; rintro _ _ _ ⟨rfl, rfl, rfl⟩) | (refine And.intro rfl ?_) | (refine Br.any (fun _ => ?_) (fun _ => ?_)))
    all_goals (conv => whnf)
    all_goals first | exact VLe.rfl | (exfalso; clear hl h1 h2 h3 h4 h5 h6 h7 h8 h9; simp_all)
  | false =>
    have h5 := cclaim_no g hs hf
    have h6 := rcclaim_no g hs hf
    repeat' ((conv => whnf); first | (refine Br.self ?_) | (refine Br.tt ?_) | (refine Br.ff ?_) | (refine Br.dec ?_ ?_ <;> intro _ <;> try omega) | (refine (hl _ _).mono ?_; rintro _ _ _ ⟨rfl, rfl, rfl⟩) | (refine (known36_ok _ _).mono ?_; rintro _ _ _ ⟨rfl, rfl, rfl⟩) | (refine (h1 _ _).mono ?_; rintro _ _ _ ⟨rfl, rfl, rfl⟩) | (refine (h2 _ _).mono ?_; rintro _ _ _ ⟨rfl, rfl, rfl⟩) | (refine (h3 _ _).mono ?_; rintro _ _ _ ⟨rfl, rfl, rfl⟩) | (refine (h4 _ _).mono ?_; rintro _ _ _ ⟨rfl, rfl, rfl⟩) | (refine (h5 _ _).mono ?_; rintro _ _ _ ⟨rfl, rfl, rfl⟩) | (refine (h6 _ _).mono ?_; rintro _ _ _ ⟨rfl, rfl, rfl⟩) | (refine (h7 _ _).mono ?_; rintro _ _ _ ⟨rfl, rfl, rfl⟩) | (refine (h8 _ _).mono ?_; rintro _ _ _ ⟨rfl, rfl, rfl⟩) | (refine (h9 _ _).mono ?_; rintro _ _ _ ⟨rfl, rfl, rfl⟩) | (refine And.intro rfl ?_) | (refine Br.any (fun _ => ?_) (fun _ => ?_)))
    all_goals (conv => whnf)
    all_goals first | exact VLe.rfl | (exfalso; clear hl h1 h2 h3 h4 h5 h6 h7 h8 h9; simp_all)
end Go.Proofs.YtinmenifoebfmaaGreat

namespace Go.Proofs.YtinmenifoebfmaaGreat
open Go.Eng Go.ChangeShapes Go.WideShapes Go.ChangeAt Go.RowKit
set_option maxRecDepth 100000
set_option linter.unusedVariables false

theorem clock_lifted (os : Os) (started : os.Started) (H : Type) (enc : TypeId × Value → H) :
    ReturnsInHanded {} Tryz.checked os 7 .any (Rows.clockJudgesSpec.pre6 enc Tryz.prog Tryz.f7 Rows.clockJudgesRow.domain false) (Rows.clockJudgesSpec.post enc Tryz.prog Tryz.f7 false true false false) := by
  refine returnsInHanded_of_change (C := Tryz.checked) own started (by kernel_rfl) Tryz.func7
    (ChangeSpec.witness6 (enc := enc) (C := Tryz.checked) false ⟨#[], #[.agg #[.slice none 0 0, .slice none 0 0], .slice none 0 0], []⟩ 8 (by kernel_rfl) (by kernel_rfl) (by kernel_rfl) (by kernel_rfl)) ?_
  intro W base args ds gs before hval0 hW hcnd _
  have hval : ∀ (j : Nat) t v, Tryz.f7.params[j]? = some t → args[j]? = some v → Value.okWide Tryz.prog W .any base t v := hval0
  have hW' := hW
  obtain ⟨p, q, hA0, hV, rfl, hfz, hnd⟩ := hW
  have hA : DataW.TrodAll enc Tryz.prog W 0 (fun _ => true) true Tryz.f7.params.toList args.toList ds p := hA0
  rw [Tryz.params7] at hA hval
  obtain ⟨v0, vs0, d0, ds0, p0, q0, hargs, rfl, rfl, h0, r0⟩ := trodAll_cons hA
  obtain ⟨v1, vs1, d1, ds1, p1, q1, hargs1, rfl, rfl, h1, r1⟩ := trodAll_cons r0
  obtain ⟨rfl, rfl, rfl⟩ := trodAll_nil r1
  subst hargs1
  obtain rfl : args = #[v0, v1] := by cases args; simp_all
  obtain ⟨rfl, rfl⟩ := trodVars_none hV
  obtain ⟨g, hs, hr⟩ := den_graph (agg_of_ok (hval 0 39 v0 rfl rfl)) h0
  obtain ⟨c, hc, hl⟩ := den_cf (slice_of_ok (hval 1 40 v1 rfl rfl)) h1
  refine (ret_calls (args := #[v0, v1]) (W := W) (law36 g hs c hc) rfl ?_).mono ?_
  · intro i v u hv hu
    match i, hv, hu with
    | 0, hv, hu => simp at hv hu; subst hv hu; exact hr
    | 1, hv, hu => simp at hv hu; subst hv hu; exact hl
    | i + 2, hv, hu => simp at hv
  · rintro e W' ⟨rfl, hb⟩
    refine ⟨_, rfl, post_law (tb := 4) laid rfl hW' ?_ (by kernel_rfl) Tryz.underlying4 rfl rfl rfl hb⟩
    rw [Tryz.params7]
    intro t ht
    simp at ht
    rcases ht with rfl | rfl
    · exact ⟨read39, size39⟩
    · exact ⟨read40, size40⟩

theorem clockJudges_holds : Rows.ClockJudgesSaid :=
  OpenClaim.holds_of_wide 7 Tryz.f7 rfl rfl rfl rfl rfl rfl rfl ⟨rfl, rfl, rfl, rfl, rfl⟩ rfl rfl rfl rfl rfl (by kernel_rfl) Tryz.func7 (by kernel_rfl)
    (of_decide_eq_true (by kernel_rfl)) (by unfold Func.isWrapper; first | (rw [if_pos (by decide +kernel)]; kernel_rfl) | (rw [if_neg (by decide +kernel)]; exact ⟨rfl, rfl⟩))
    (fun os started H enc _ => clock_lifted os started H enc)
end Go.Proofs.YtinmenifoebfmaaGreat

