import Derived.Test.YtadefbamjaajfaaDL7
import Derived.Test.YtadefbamjaajfaaEngT
namespace Go.Proofs.Ytadefbamjaajfaa
open Go.Eng
set_option maxRecDepth 100000
set_option linter.unusedVariables false

/-- the labels so far; none: not in order; else whether an old one was seen -/
def al (c p : Int) : List Int → Bool → Option Bool
  | [], o => some o
  | l :: r, o => if l = c then (if o = true then none else al c p r o) else if l = p then al c p r true else none

theorem al_append (c p : Int) : ∀ (a b : List Int) (o : Bool), al c p (a ++ b) o = (al c p a o).bind (al c p b)
  | [], b, o => rfl
  | l :: r, b, o => by
    simp only [List.cons_append, al]
    split
    · split
      · rfl
      · exact al_append c p r b o
    · split
      · exact al_append c p r b true
      · rfl

def DL.labs (x : DL) : List Int := (x.fr.map (·.1)).reverse ++ ([x.last] ++ x.ak.reverse)
def DL.prev (x : DL) : Int := (x.label + x.mod - 1).tmod x.mod
def DL.aligned (x : DL) : Bool := x.valid && (al x.label x.prev x.labs false).isSome

theorem rev_take {α : Type} (l : List α) (d : α) (i : Nat) (h : i < l.length) : l.reverse.take (i + 1) = l.reverse.take i ++ [l.getD (l.length - 1 - i) d] := by
  rw [List.take_succ_eq_append_getElem (by simpa using h), List.getElem_reverse]
  congr 2
  rw [List.getD, List.getElem?_eq_getElem (by omega)]
  rfl

theorem al_part {c p : Int} {l : List Int} {o : Bool} (i : Nat) (h : al c p (l.take i) o = none) : al c p l o = none := by
  rw [← List.take_append_drop i l, al_append, h]; rfl

/-- a label more -/
theorem al_snoc {c p y : Int} {l : List Int} {o o' : Bool} (h : al c p l o = some o') : al c p (l ++ [y]) o = if y = c then (if o' = true then none else some o') else if y = p then some true else none := by
  rw [al_append, h]
  simp only [Option.bind, al]

def fL (x : DL) : List Int := (x.fr.map (·.1)).reverse
theorem fL_len (x : DL) : (fL x).length = x.fr.length := by simp [fL]
theorem fL_take (x : DL) (i : Nat) (h : i < x.fr.length) : (fL x).take (i + 1) = (fL x).take i ++ [(gF x.fr ((x.fr.length : Int) - 1 - (i : Int)).toNat).1] := by
  rw [show ((x.fr.length : Int) - 1 - (i : Int)).toNat = x.fr.length - 1 - i by omega]
  rw [fL, rev_take (d := (0 : Int)) _ _ (by simpa using h)]
  congr 2
  simp [gF, List.getD, List.getElem?_map]
  rw [List.getElem?_eq_getElem (by omega)]
  simp
theorem aL_take (x : DL) (i : Nat) (h : i < x.ak.length) : (x.ak.reverse).take (i + 1) = x.ak.reverse.take i ++ [gI x.ak ((x.ak.length : Int) - 1 - (i : Int)).toNat] := by
  rw [show ((x.ak.length : Int) - 1 - (i : Int)).toNat = x.ak.length - 1 - i by omega]
  exact rev_take _ 0 i h

theorem labels_eq (x : DL) : x.labs = fL x ++ [x.last] ++ x.ak.reverse := by simp [DL.labs, fL]

theorem al_fr {x : DL} {i : Nat} {o : Bool} (h : i < x.fr.length) (ho : al x.label x.prev ((fL x).take i) false = some o) :
    al x.label x.prev ((fL x).take (i + 1)) false = if (gF x.fr ((x.fr.length : Int) - 1 - (i : Int)).toNat).1 = x.label then (if o = true then none else some o) else if (gF x.fr ((x.fr.length : Int) - 1 - (i : Int)).toNat).1 = x.prev then some true else none := by
  rw [fL_take x i h, al_snoc ho]
theorem al_last {x : DL} {i : Nat} {o : Bool} (h : x.fr.length ≤ i) (ho : al x.label x.prev ((fL x).take i) false = some o) :
    al x.label x.prev (fL x ++ [x.last]) false = if x.last = x.label then (if o = true then none else some o) else if x.last = x.prev then some true else none := by
  rw [List.take_of_length_le (by rw [fL_len]; exact h)] at ho
  rw [al_snoc ho]
theorem al_ak {x : DL} {i : Nat} {o : Bool} (h : i < x.ak.length) (ho : al x.label x.prev (fL x ++ [x.last] ++ x.ak.reverse.take i) false = some o) :
    al x.label x.prev (fL x ++ [x.last] ++ x.ak.reverse.take (i + 1)) false = if gI x.ak ((x.ak.length : Int) - 1 - (i : Int)).toNat = x.label then (if o = true then none else some o) else if gI x.ak ((x.ak.length : Int) - 1 - (i : Int)).toNat = x.prev then some true else none := by
  rw [aL_take x i h, ← List.append_assoc, al_snoc ho]
theorem bad_of {x : DL} {p s : List Int} (h : x.labs = p ++ s) (hn : al x.label x.prev p false = none) : VLe (V.bool false) (V.bool (al x.label x.prev x.labs false).isSome) := by
  rw [h, al_append, hn]; exact .rfl
theorem bad_fr {x : DL} {i : Nat} (hn : al x.label x.prev ((fL x).take (i + 1)) false = none) : VLe (V.bool false) (V.bool (al x.label x.prev x.labs false).isSome) :=
  bad_of (p := (fL x).take (i + 1)) (s := (fL x).drop (i + 1) ++ ([x.last] ++ x.ak.reverse)) (by rw [← List.append_assoc, List.take_append_drop]; rfl) hn
theorem bad_last {x : DL} (hn : al x.label x.prev (fL x ++ [x.last]) false = none) : VLe (V.bool false) (V.bool (al x.label x.prev x.labs false).isSome) :=
  bad_of (p := fL x ++ [x.last]) (s := x.ak.reverse) (by rw [labels_eq]) hn
theorem bad_ak {x : DL} {i : Nat} (hn : al x.label x.prev (fL x ++ [x.last] ++ x.ak.reverse.take (i + 1)) false = none) : VLe (V.bool false) (V.bool (al x.label x.prev x.labs false).isSome) :=
  bad_of (p := fL x ++ [x.last] ++ x.ak.reverse.take (i + 1)) (s := x.ak.reverse.drop (i + 1)) (by rw [List.append_assoc, List.take_append_drop, labels_eq]) hn
theorem good_ak {x : DL} {i : Nat} {o : Bool} (h : x.ak.length ≤ i) (hn : al x.label x.prev (fL x ++ [x.last] ++ x.ak.reverse.take i) false = some o) : VLe (V.bool true) (V.bool (al x.label x.prev x.labs false).isSome) := by
  rw [List.take_of_length_le (by simpa using h), ← labels_eq] at hn
  rw [hn]; exact .rfl

set_option maxHeartbeats 4000000 in
theorem aligned_ok (x : DL) : Ret Try.prog 21 [x.v] (.bool x.aligned) := by
  refine ret_frz rfl ?_
  refine fn_rule mixed Try.func21 rfl hc21 hr21 rfl ?_
  by_cases hv : x.valid = true
  · have hb := valid_bounds hv
    rw [DL.aligned, hv, Bool.true_and]
    repeat' ((conv => whnf); first
        | (refine Br.tt ?_)
        | (refine Br.ff ?_)
        | (refine Br.dec (fun _ => ?_) (fun _ => ?_) <;> first | (exfalso; omega) | skip)
        | (refine Br.beq (fun _ => ?_) (fun _ => ?_) <;> first | (exfalso; omega) | skip)
        | (refine Br.bne (fun _ => ?_) (fun _ => ?_) <;> first | (exfalso; omega) | skip)
        | (refine Br.nbeq (fun _ => ?_) (fun _ => ?_) <;> first | (exfalso; omega) | skip)
        | (refine Br.nble (fun _ => ?_) (fun _ => ?_) <;> first | (exfalso; omega) | skip)
        | (refine Ar.i64 (by omega) (by omega) ?_)
        | (refine Ar.u32 (by omega) (by omega) ?_)
        | (refine Sv.mk _ rfl ?_)
        | (refine Nz.mk (by omega) ?_)
        | (refine Nn.mk (by omega) ?_)
        | (refine Ix.nat (by omega) ?_)
        | (refine Ix.ofNat (by omega) ?_)
        | (refine Ix.mk 0 rfl (by omega) ?_)
        | (refine Ix.mk 1 rfl (by omega) ?_)
        | (refine Ix.int (by omega) (by omega) ?_)
        | (refine Bd.nat (by omega) ?_)
        | (refine Bd.mk 0 rfl (by omega) ?_)
        | (refine Bd.mk 1 rfl (by omega) ?_)
        | (refine Bd.int (by omega) (by omega) ?_)
        | (refine Len.mk (by omega) ?_)
        | (refine Len.mk (by simp only [List.length_cons, List.length_nil]; omega) ?_)
        | (refine Ltn.mk (by omega) ?_)
        | (refine Both.mk ?_ ?_)
        | (refine call_new rfl ((valid_ok x).mono ?_); rintro _ _ _ rfl; rw [hv])
        | (refine fn_rule mixed Try.func27 rfl hc27 hr27 rfl ?_)
        | (refine range_rule ?_)
        | (refine Chk.mk (by kernel_rfl) ?_)
        | (refine fn_rule mixed Try.func34 rfl hc34 hr34 rfl ?_)
        | (refine fn_rule mixed Try.func35 rfl hc35 hr35 rfl ?_)
        | (refine fn_rule mixed Try.func39 rfl hc39 hr39 rfl ?_)
        | (refine Br.any (fun _ => ?_) (fun _ => ?_)))
    all_goals (conv => whnf)
    refine loop_u mixed [0, 1] [] [8, 9, 10, 11, 12, 13, 14, 15, 16, 17, 18, 19, 20, 21, 22, 23, 24, 25, 26, 27, 28, 29] [7, 6, 5, 4, 3, 2, 1, 0] (fun p : Nat × Bool => [(3, .int .i64 ((x.fr.length : Int) - 1 - (p.1 : Int)))])
      (fun own p => updO own 2 (.cells [.bool p.2])) (fun n p => n = x.fr.length - p.1 ∧ p.1 ≤ x.fr.length ∧ al x.label x.prev ((fL x).take p.1) false = some p.2) x.fr.length (0, false) ⟨rfl, Nat.zero_le _, rfl⟩ rfl (fun _ => rfl) ?_ ?_
    · refine weak_by (fun _ _ => [(0, some 0), (1, some 1), (2, some 2), (3, some 3), (4, some 4), (5, some 5), (6, some 6), (7, some 7)]) ?_ ?_ rfl
      · repeat' (first | exact VRen.yld rfl | (refine VRen.fn ?_) | (refine ⟨rfl, rfl, rfl, rfl, rfl, ?_⟩) | exact True.intro | (refine ⟨⟨_, rfl, ?_⟩, ?_⟩) | exact VRen.kf rfl | exact VRen.int rfl | exact VRen.int (by omega) | exact VRen.loc rfl | exact VRen.vec rfl rfl rfl | exact VRen.vec rfl (by omega) (by omega) | exact VRen.nil rfl rfl | exact VRen.nil rfl (by omega) | exact VRen.fz rfl (fun h => h) (fun _ _ _ _ => VLe.rfl) | (refine ⟨Nat.le_refl _, rfl, fun i j hi hj => ?_⟩) | (refine ⟨by omega, rfl, fun i j hi hj => ?_⟩) | exact VLe.rfl | (refine ⟨⟨_, _, rfl⟩, ?_⟩) | (refine And.intro ?_ ?_))
      · repeat' (first | exact VRen.yld rfl | (refine VRen.fn ?_) | (refine ⟨rfl, rfl, rfl, rfl, rfl, ?_⟩) | exact True.intro | (refine ⟨⟨_, rfl, ?_⟩, ?_⟩) | exact VRen.kf rfl | exact VRen.int rfl | exact VRen.int (by omega) | exact VRen.loc rfl | exact VRen.vec rfl rfl rfl | exact VRen.vec rfl (by omega) (by omega) | exact VRen.nil rfl rfl | exact VRen.nil rfl (by omega) | exact VRen.fz rfl (fun h => h) (fun _ _ _ _ => VLe.rfl) | (refine ⟨Nat.le_refl _, rfl, fun i j hi hj => ?_⟩) | (refine ⟨by omega, rfl, fun i j hi hj => ?_⟩) | exact VLe.rfl | (refine ⟨⟨_, _, rfl⟩, ?_⟩) | (refine And.intro ?_ ?_))
    rintro n ⟨i, o⟩ ⟨hn, hi, ho⟩
    simp only at hn hi ho
    repeat' ((conv => whnf); first
        | (refine Br.tt ?_)
        | (refine Br.ff ?_)
        | (refine Br.dec (fun _ => ?_) (fun _ => ?_) <;> first | (exfalso; omega) | skip)
        | (refine Br.beq (fun _ => ?_) (fun _ => ?_) <;> first | (exfalso; omega) | skip)
        | (refine Br.bne (fun _ => ?_) (fun _ => ?_) <;> first | (exfalso; omega) | skip)
        | (refine Br.nbeq (fun _ => ?_) (fun _ => ?_) <;> first | (exfalso; omega) | skip)
        | (refine Br.nble (fun _ => ?_) (fun _ => ?_) <;> first | (exfalso; omega) | skip)
        | (refine Ar.i64 (by omega) (by omega) ?_)
        | (refine Ar.u32 (by omega) (by omega) ?_)
        | (refine Sv.mk _ rfl ?_)
        | (refine Nz.mk (by omega) ?_)
        | (refine Nn.mk (by omega) ?_)
        | (refine Ix.nat (by omega) ?_)
        | (refine Ix.ofNat (by omega) ?_)
        | (refine Ix.mk 0 rfl (by omega) ?_)
        | (refine Ix.mk 1 rfl (by omega) ?_)
        | (refine Ix.int (by omega) (by omega) ?_)
        | (refine Bd.nat (by omega) ?_)
        | (refine Bd.mk 0 rfl (by omega) ?_)
        | (refine Bd.mk 1 rfl (by omega) ?_)
        | (refine Bd.int (by omega) (by omega) ?_)
        | (refine Len.mk (by omega) ?_)
        | (refine Len.mk (by simp only [List.length_cons, List.length_nil]; omega) ?_)
        | (refine Ltn.mk (by omega) ?_)
        | (refine Both.mk ?_ ?_)
        | (refine call_new rfl ((valid_ok x).mono ?_); rintro _ _ _ rfl; rw [hv])
        | (refine fn_rule mixed Try.func27 rfl hc27 hr27 rfl ?_)
        | (refine range_rule ?_)
        | (refine Chk.mk (by kernel_rfl) ?_)
        | (refine fn_rule mixed Try.func34 rfl hc34 hr34 rfl ?_)
        | (refine fn_rule mixed Try.func35 rfl hc35 hr35 rfl ?_)
        | (refine fn_rule mixed Try.func39 rfl hc39 hr39 rfl ?_)
        | (refine yield_rule mixed rfl rfl ?_)
        | (refine fn_rule mixed Try.func36 rfl hc36 hr36 rfl ?_)
        | (refine fn_rule mixed Try.func40 rfl hc40 hr40 rfl ?_)
        | (refine Br.any (fun _ => ?_) (fun _ => ?_)))
    all_goals (conv => whnf)
    · exact bad_fr (i := i) (by rw [al_fr (by omega) ho, if_pos ‹_›, if_pos ‹_›])
    · refine ⟨x.fr.length - (i + 1), (i + 1, o), by omega, ⟨rfl, by simp only; omega, ?_⟩, ?_⟩
      · rw [al_fr (by omega) ho, if_pos ‹_›, if_neg (by simpa using ‹_ = false›)]
      · refine weak_by (fun _ _ => [(0, some 0), (1, some 1), (2, some 2), (3, some 3), (4, some 4), (5, some 5), (6, some 6), (7, some 7)]) ?_ ?_ rfl
        · repeat' (first | exact VRen.yld rfl | (refine VRen.fn ?_) | (refine ⟨rfl, rfl, rfl, rfl, rfl, ?_⟩) | exact True.intro | (refine ⟨⟨_, rfl, ?_⟩, ?_⟩) | exact VRen.kf rfl | exact VRen.int rfl | exact VRen.int (by omega) | exact VRen.loc rfl | exact VRen.vec rfl rfl rfl | exact VRen.vec rfl (by omega) (by omega) | exact VRen.nil rfl rfl | exact VRen.nil rfl (by omega) | exact VRen.fz rfl (fun h => h) (fun _ _ _ _ => VLe.rfl) | (refine ⟨Nat.le_refl _, rfl, fun i j hi hj => ?_⟩) | (refine ⟨by omega, rfl, fun i j hi hj => ?_⟩) | exact VLe.rfl | (refine ⟨⟨_, _, rfl⟩, ?_⟩) | (refine And.intro ?_ ?_))
        · repeat' (first | exact VRen.yld rfl | (refine VRen.fn ?_) | (refine ⟨rfl, rfl, rfl, rfl, rfl, ?_⟩) | exact True.intro | (refine ⟨⟨_, rfl, ?_⟩, ?_⟩) | exact VRen.kf rfl | exact VRen.int rfl | exact VRen.int (by omega) | exact VRen.loc rfl | exact VRen.vec rfl rfl rfl | exact VRen.vec rfl (by omega) (by omega) | exact VRen.nil rfl rfl | exact VRen.nil rfl (by omega) | exact VRen.fz rfl (fun h => h) (fun _ _ _ _ => VLe.rfl) | (refine ⟨Nat.le_refl _, rfl, fun i j hi hj => ?_⟩) | (refine ⟨by omega, rfl, fun i j hi hj => ?_⟩) | exact VLe.rfl | (refine ⟨⟨_, _, rfl⟩, ?_⟩) | (refine And.intro ?_ ?_))
    · exact bad_fr (i := i) (by rw [al_fr (by omega) ho, if_neg ‹_›, if_neg ‹_›])
    · refine ⟨x.fr.length - (i + 1), (i + 1, true), by omega, ⟨rfl, by simp only; omega, ?_⟩, ?_⟩
      · rw [al_fr (by omega) ho, if_neg ‹_›, if_pos ‹_›]
      · refine weak_by (fun _ _ => [(0, some 0), (1, some 1), (2, some 2), (3, some 3), (4, some 4), (5, some 5), (6, some 6), (7, some 7)]) ?_ ?_ rfl
        · repeat' (first | exact VRen.yld rfl | (refine VRen.fn ?_) | (refine ⟨rfl, rfl, rfl, rfl, rfl, ?_⟩) | exact True.intro | (refine ⟨⟨_, rfl, ?_⟩, ?_⟩) | exact VRen.kf rfl | exact VRen.int rfl | exact VRen.int (by omega) | exact VRen.loc rfl | exact VRen.vec rfl rfl rfl | exact VRen.vec rfl (by omega) (by omega) | exact VRen.nil rfl rfl | exact VRen.nil rfl (by omega) | exact VRen.fz rfl (fun h => h) (fun _ _ _ _ => VLe.rfl) | (refine ⟨Nat.le_refl _, rfl, fun i j hi hj => ?_⟩) | (refine ⟨by omega, rfl, fun i j hi hj => ?_⟩) | exact VLe.rfl | (refine ⟨⟨_, _, rfl⟩, ?_⟩) | (refine And.intro ?_ ?_))
        · repeat' (first | exact VRen.yld rfl | (refine VRen.fn ?_) | (refine ⟨rfl, rfl, rfl, rfl, rfl, ?_⟩) | exact True.intro | (refine ⟨⟨_, rfl, ?_⟩, ?_⟩) | exact VRen.kf rfl | exact VRen.int rfl | exact VRen.int (by omega) | exact VRen.loc rfl | exact VRen.vec rfl rfl rfl | exact VRen.vec rfl (by omega) (by omega) | exact VRen.nil rfl rfl | exact VRen.nil rfl (by omega) | exact VRen.fz rfl (fun h => h) (fun _ _ _ _ => VLe.rfl) | (refine ⟨Nat.le_refl _, rfl, fun i j hi hj => ?_⟩) | (refine ⟨by omega, rfl, fun i j hi hj => ?_⟩) | exact VLe.rfl | (refine ⟨⟨_, _, rfl⟩, ?_⟩) | (refine And.intro ?_ ?_))
    · exact bad_last (by rw [al_last (i := i) (by simp only at *; omega) ho, if_pos ‹_›, if_pos ‹_›])
    · have h2 : al x.label x.prev (fL x ++ [x.last]) false = some o := by rw [al_last (i := i) (by simp only at *; omega) ho, if_pos ‹_›, if_neg (by simpa using ‹_ = false›)]
      clear ho hn hi
      refine loop_u mixed [0, 1] [] [10, 11, 12, 13, 14, 15, 16, 17, 18, 19, 20, 21, 22, 23, 24, 25, 26, 27, 28, 29] [9, 8, 6, 5, 4, 3, 2, 1, 0] (fun p : Nat × Bool => [(3, .int .i64 ((x.ak.length : Int) - 1 - (p.1 : Int)))])
        (fun own p => updO own 2 (.cells [.bool p.2])) (fun n p => n = x.ak.length - p.1 ∧ p.1 ≤ x.ak.length ∧ al x.label x.prev (fL x ++ [x.last] ++ x.ak.reverse.take p.1) false = some p.2) x.ak.length (0, o) ⟨rfl, Nat.zero_le _, by simpa using h2⟩ rfl (fun _ => rfl) ?_ ?_
      · refine weak_by (fun _ _ => [(0, some 0), (1, some 1), (2, some 2), (3, some 3), (4, some 4), (5, some 5), (6, some 6), (8, some 8), (9, some 9)]) ?_ ?_ rfl
        · repeat' (first | exact VRen.yld rfl | (refine VRen.fn ?_) | (refine ⟨rfl, rfl, rfl, rfl, rfl, ?_⟩) | exact True.intro | (refine ⟨⟨_, rfl, ?_⟩, ?_⟩) | exact VRen.kf rfl | exact VRen.int rfl | exact VRen.int (by omega) | exact VRen.loc rfl | exact VRen.vec rfl rfl rfl | exact VRen.vec rfl (by omega) (by omega) | exact VRen.nil rfl rfl | exact VRen.nil rfl (by omega) | exact VRen.fz rfl (fun h => h) (fun _ _ _ _ => VLe.rfl) | (refine ⟨Nat.le_refl _, rfl, fun i j hi hj => ?_⟩) | (refine ⟨by omega, rfl, fun i j hi hj => ?_⟩) | exact VLe.rfl | (refine ⟨⟨_, _, rfl⟩, ?_⟩) | (refine And.intro ?_ ?_))
        · repeat' (first | exact VRen.yld rfl | (refine VRen.fn ?_) | (refine ⟨rfl, rfl, rfl, rfl, rfl, ?_⟩) | exact True.intro | (refine ⟨⟨_, rfl, ?_⟩, ?_⟩) | exact VRen.kf rfl | exact VRen.int rfl | exact VRen.int (by omega) | exact VRen.loc rfl | exact VRen.vec rfl rfl rfl | exact VRen.vec rfl (by omega) (by omega) | exact VRen.nil rfl rfl | exact VRen.nil rfl (by omega) | exact VRen.fz rfl (fun h => h) (fun _ _ _ _ => VLe.rfl) | (refine ⟨Nat.le_refl _, rfl, fun i j hi hj => ?_⟩) | (refine ⟨by omega, rfl, fun i j hi hj => ?_⟩) | exact VLe.rfl | (refine ⟨⟨_, _, rfl⟩, ?_⟩) | (refine And.intro ?_ ?_))
      rintro n ⟨i, o⟩ ⟨hn, hi, ho⟩
      simp only at hn hi ho
      repeat' ((conv => whnf); first
          | (refine Br.tt ?_)
          | (refine Br.ff ?_)
          | (refine Br.dec (fun _ => ?_) (fun _ => ?_) <;> first | (exfalso; omega) | skip)
          | (refine Br.beq (fun _ => ?_) (fun _ => ?_) <;> first | (exfalso; omega) | skip)
          | (refine Br.bne (fun _ => ?_) (fun _ => ?_) <;> first | (exfalso; omega) | skip)
          | (refine Br.nbeq (fun _ => ?_) (fun _ => ?_) <;> first | (exfalso; omega) | skip)
          | (refine Br.nble (fun _ => ?_) (fun _ => ?_) <;> first | (exfalso; omega) | skip)
          | (refine Ar.i64 (by omega) (by omega) ?_)
          | (refine Ar.u32 (by omega) (by omega) ?_)
          | (refine Sv.mk _ rfl ?_)
          | (refine Nz.mk (by omega) ?_)
          | (refine Nn.mk (by omega) ?_)
          | (refine Ix.nat (by omega) ?_)
          | (refine Ix.ofNat (by omega) ?_)
          | (refine Ix.mk 0 rfl (by omega) ?_)
          | (refine Ix.mk 1 rfl (by omega) ?_)
          | (refine Ix.int (by omega) (by omega) ?_)
          | (refine Bd.nat (by omega) ?_)
          | (refine Bd.mk 0 rfl (by omega) ?_)
          | (refine Bd.mk 1 rfl (by omega) ?_)
          | (refine Bd.int (by omega) (by omega) ?_)
          | (refine Len.mk (by omega) ?_)
          | (refine Len.mk (by simp only [List.length_cons, List.length_nil]; omega) ?_)
          | (refine Ltn.mk (by omega) ?_)
          | (refine Both.mk ?_ ?_)
          | (refine call_new rfl ((valid_ok x).mono ?_); rintro _ _ _ rfl; rw [hv])
          | (refine fn_rule mixed Try.func27 rfl hc27 hr27 rfl ?_)
          | (refine range_rule ?_)
          | (refine Chk.mk (by kernel_rfl) ?_)
          | (refine fn_rule mixed Try.func34 rfl hc34 hr34 rfl ?_)
          | (refine fn_rule mixed Try.func35 rfl hc35 hr35 rfl ?_)
          | (refine fn_rule mixed Try.func39 rfl hc39 hr39 rfl ?_)
          | (refine yield_rule mixed rfl rfl ?_)
          | (refine fn_rule mixed Try.func36 rfl hc36 hr36 rfl ?_)
          | (refine fn_rule mixed Try.func40 rfl hc40 hr40 rfl ?_)
          | (refine Br.any (fun _ => ?_) (fun _ => ?_)))
      all_goals (conv => whnf)
      · exact bad_ak (i := i) (by rw [al_ak (by omega) ho, if_pos ‹_›, if_pos ‹_›])
      · refine ⟨x.ak.length - (i + 1), (i + 1, o), by omega, ⟨rfl, by simp only; omega, ?_⟩, ?_⟩
        · rw [al_ak (by omega) ho, if_pos ‹_›, if_neg (by simpa using ‹_ = false›)]
        · refine weak_by (fun _ _ => [(0, some 0), (1, some 1), (2, some 2), (3, some 3), (4, some 4), (5, some 5), (6, some 6), (8, some 8), (9, some 9)]) ?_ ?_ rfl
          · repeat' (first | exact VRen.yld rfl | (refine VRen.fn ?_) | (refine ⟨rfl, rfl, rfl, rfl, rfl, ?_⟩) | exact True.intro | (refine ⟨⟨_, rfl, ?_⟩, ?_⟩) | exact VRen.kf rfl | exact VRen.int rfl | exact VRen.int (by omega) | exact VRen.loc rfl | exact VRen.vec rfl rfl rfl | exact VRen.vec rfl (by omega) (by omega) | exact VRen.nil rfl rfl | exact VRen.nil rfl (by omega) | exact VRen.fz rfl (fun h => h) (fun _ _ _ _ => VLe.rfl) | (refine ⟨Nat.le_refl _, rfl, fun i j hi hj => ?_⟩) | (refine ⟨by omega, rfl, fun i j hi hj => ?_⟩) | exact VLe.rfl | (refine ⟨⟨_, _, rfl⟩, ?_⟩) | (refine And.intro ?_ ?_))
          · repeat' (first | exact VRen.yld rfl | (refine VRen.fn ?_) | (refine ⟨rfl, rfl, rfl, rfl, rfl, ?_⟩) | exact True.intro | (refine ⟨⟨_, rfl, ?_⟩, ?_⟩) | exact VRen.kf rfl | exact VRen.int rfl | exact VRen.int (by omega) | exact VRen.loc rfl | exact VRen.vec rfl rfl rfl | exact VRen.vec rfl (by omega) (by omega) | exact VRen.nil rfl rfl | exact VRen.nil rfl (by omega) | exact VRen.fz rfl (fun h => h) (fun _ _ _ _ => VLe.rfl) | (refine ⟨Nat.le_refl _, rfl, fun i j hi hj => ?_⟩) | (refine ⟨by omega, rfl, fun i j hi hj => ?_⟩) | exact VLe.rfl | (refine ⟨⟨_, _, rfl⟩, ?_⟩) | (refine And.intro ?_ ?_))
      · exact bad_ak (i := i) (by rw [al_ak (by omega) ho, if_neg ‹_›, if_neg ‹_›])
      · refine ⟨x.ak.length - (i + 1), (i + 1, true), by omega, ⟨rfl, by simp only; omega, ?_⟩, ?_⟩
        · rw [al_ak (by omega) ho, if_neg ‹_›, if_pos ‹_›]
        · refine weak_by (fun _ _ => [(0, some 0), (1, some 1), (2, some 2), (3, some 3), (4, some 4), (5, some 5), (6, some 6), (8, some 8), (9, some 9)]) ?_ ?_ rfl
          · repeat' (first | exact VRen.yld rfl | (refine VRen.fn ?_) | (refine ⟨rfl, rfl, rfl, rfl, rfl, ?_⟩) | exact True.intro | (refine ⟨⟨_, rfl, ?_⟩, ?_⟩) | exact VRen.kf rfl | exact VRen.int rfl | exact VRen.int (by omega) | exact VRen.loc rfl | exact VRen.vec rfl rfl rfl | exact VRen.vec rfl (by omega) (by omega) | exact VRen.nil rfl rfl | exact VRen.nil rfl (by omega) | exact VRen.fz rfl (fun h => h) (fun _ _ _ _ => VLe.rfl) | (refine ⟨Nat.le_refl _, rfl, fun i j hi hj => ?_⟩) | (refine ⟨by omega, rfl, fun i j hi hj => ?_⟩) | exact VLe.rfl | (refine ⟨⟨_, _, rfl⟩, ?_⟩) | (refine And.intro ?_ ?_))
          · repeat' (first | exact VRen.yld rfl | (refine VRen.fn ?_) | (refine ⟨rfl, rfl, rfl, rfl, rfl, ?_⟩) | exact True.intro | (refine ⟨⟨_, rfl, ?_⟩, ?_⟩) | exact VRen.kf rfl | exact VRen.int rfl | exact VRen.int (by omega) | exact VRen.loc rfl | exact VRen.vec rfl rfl rfl | exact VRen.vec rfl (by omega) (by omega) | exact VRen.nil rfl rfl | exact VRen.nil rfl (by omega) | exact VRen.fz rfl (fun h => h) (fun _ _ _ _ => VLe.rfl) | (refine ⟨Nat.le_refl _, rfl, fun i j hi hj => ?_⟩) | (refine ⟨by omega, rfl, fun i j hi hj => ?_⟩) | exact VLe.rfl | (refine ⟨⟨_, _, rfl⟩, ?_⟩) | (refine And.intro ?_ ?_))
      · exact good_ak (i := i) (by simp only at *; omega) ho
    · exact bad_last (by rw [al_last (i := i) (by simp only at *; omega) ho, if_neg ‹_›, if_neg ‹_›])
    · have h2 : al x.label x.prev (fL x ++ [x.last]) false = some true := by rw [al_last (i := i) (by simp only at *; omega) ho, if_neg ‹_›, if_pos ‹_›]
      clear ho hn hi
      refine loop_u mixed [0, 1] [] [10, 11, 12, 13, 14, 15, 16, 17, 18, 19, 20, 21, 22, 23, 24, 25, 26, 27, 28, 29] [9, 8, 6, 5, 4, 3, 2, 1, 0] (fun p : Nat × Bool => [(3, .int .i64 ((x.ak.length : Int) - 1 - (p.1 : Int)))])
        (fun own p => updO own 2 (.cells [.bool p.2])) (fun n p => n = x.ak.length - p.1 ∧ p.1 ≤ x.ak.length ∧ al x.label x.prev (fL x ++ [x.last] ++ x.ak.reverse.take p.1) false = some p.2) x.ak.length (0, true) ⟨rfl, Nat.zero_le _, by simpa using h2⟩ rfl (fun _ => rfl) ?_ ?_
      · refine weak_by (fun _ _ => [(0, some 0), (1, some 1), (2, some 2), (3, some 3), (4, some 4), (5, some 5), (6, some 6), (8, some 8), (9, some 9)]) ?_ ?_ rfl
        · repeat' (first | exact VRen.yld rfl | (refine VRen.fn ?_) | (refine ⟨rfl, rfl, rfl, rfl, rfl, ?_⟩) | exact True.intro | (refine ⟨⟨_, rfl, ?_⟩, ?_⟩) | exact VRen.kf rfl | exact VRen.int rfl | exact VRen.int (by omega) | exact VRen.loc rfl | exact VRen.vec rfl rfl rfl | exact VRen.vec rfl (by omega) (by omega) | exact VRen.nil rfl rfl | exact VRen.nil rfl (by omega) | exact VRen.fz rfl (fun h => h) (fun _ _ _ _ => VLe.rfl) | (refine ⟨Nat.le_refl _, rfl, fun i j hi hj => ?_⟩) | (refine ⟨by omega, rfl, fun i j hi hj => ?_⟩) | exact VLe.rfl | (refine ⟨⟨_, _, rfl⟩, ?_⟩) | (refine And.intro ?_ ?_))
        · repeat' (first | exact VRen.yld rfl | (refine VRen.fn ?_) | (refine ⟨rfl, rfl, rfl, rfl, rfl, ?_⟩) | exact True.intro | (refine ⟨⟨_, rfl, ?_⟩, ?_⟩) | exact VRen.kf rfl | exact VRen.int rfl | exact VRen.int (by omega) | exact VRen.loc rfl | exact VRen.vec rfl rfl rfl | exact VRen.vec rfl (by omega) (by omega) | exact VRen.nil rfl rfl | exact VRen.nil rfl (by omega) | exact VRen.fz rfl (fun h => h) (fun _ _ _ _ => VLe.rfl) | (refine ⟨Nat.le_refl _, rfl, fun i j hi hj => ?_⟩) | (refine ⟨by omega, rfl, fun i j hi hj => ?_⟩) | exact VLe.rfl | (refine ⟨⟨_, _, rfl⟩, ?_⟩) | (refine And.intro ?_ ?_))
      rintro n ⟨i, o⟩ ⟨hn, hi, ho⟩
      simp only at hn hi ho
      repeat' ((conv => whnf); first
          | (refine Br.tt ?_)
          | (refine Br.ff ?_)
          | (refine Br.dec (fun _ => ?_) (fun _ => ?_) <;> first | (exfalso; omega) | skip)
          | (refine Br.beq (fun _ => ?_) (fun _ => ?_) <;> first | (exfalso; omega) | skip)
          | (refine Br.bne (fun _ => ?_) (fun _ => ?_) <;> first | (exfalso; omega) | skip)
          | (refine Br.nbeq (fun _ => ?_) (fun _ => ?_) <;> first | (exfalso; omega) | skip)
          | (refine Br.nble (fun _ => ?_) (fun _ => ?_) <;> first | (exfalso; omega) | skip)
          | (refine Ar.i64 (by omega) (by omega) ?_)
          | (refine Ar.u32 (by omega) (by omega) ?_)
          | (refine Sv.mk _ rfl ?_)
          | (refine Nz.mk (by omega) ?_)
          | (refine Nn.mk (by omega) ?_)
          | (refine Ix.nat (by omega) ?_)
          | (refine Ix.ofNat (by omega) ?_)
          | (refine Ix.mk 0 rfl (by omega) ?_)
          | (refine Ix.mk 1 rfl (by omega) ?_)
          | (refine Ix.int (by omega) (by omega) ?_)
          | (refine Bd.nat (by omega) ?_)
          | (refine Bd.mk 0 rfl (by omega) ?_)
          | (refine Bd.mk 1 rfl (by omega) ?_)
          | (refine Bd.int (by omega) (by omega) ?_)
          | (refine Len.mk (by omega) ?_)
          | (refine Len.mk (by simp only [List.length_cons, List.length_nil]; omega) ?_)
          | (refine Ltn.mk (by omega) ?_)
          | (refine Both.mk ?_ ?_)
          | (refine call_new rfl ((valid_ok x).mono ?_); rintro _ _ _ rfl; rw [hv])
          | (refine fn_rule mixed Try.func27 rfl hc27 hr27 rfl ?_)
          | (refine range_rule ?_)
          | (refine Chk.mk (by kernel_rfl) ?_)
          | (refine fn_rule mixed Try.func34 rfl hc34 hr34 rfl ?_)
          | (refine fn_rule mixed Try.func35 rfl hc35 hr35 rfl ?_)
          | (refine fn_rule mixed Try.func39 rfl hc39 hr39 rfl ?_)
          | (refine yield_rule mixed rfl rfl ?_)
          | (refine fn_rule mixed Try.func36 rfl hc36 hr36 rfl ?_)
          | (refine fn_rule mixed Try.func40 rfl hc40 hr40 rfl ?_)
          | (refine Br.any (fun _ => ?_) (fun _ => ?_)))
      all_goals (conv => whnf)
      · exact bad_ak (i := i) (by rw [al_ak (by omega) ho, if_pos ‹_›, if_pos ‹_›])
      · refine ⟨x.ak.length - (i + 1), (i + 1, o), by omega, ⟨rfl, by simp only; omega, ?_⟩, ?_⟩
        · rw [al_ak (by omega) ho, if_pos ‹_›, if_neg (by simpa using ‹_ = false›)]
        · refine weak_by (fun _ _ => [(0, some 0), (1, some 1), (2, some 2), (3, some 3), (4, some 4), (5, some 5), (6, some 6), (8, some 8), (9, some 9)]) ?_ ?_ rfl
          · repeat' (first | exact VRen.yld rfl | (refine VRen.fn ?_) | (refine ⟨rfl, rfl, rfl, rfl, rfl, ?_⟩) | exact True.intro | (refine ⟨⟨_, rfl, ?_⟩, ?_⟩) | exact VRen.kf rfl | exact VRen.int rfl | exact VRen.int (by omega) | exact VRen.loc rfl | exact VRen.vec rfl rfl rfl | exact VRen.vec rfl (by omega) (by omega) | exact VRen.nil rfl rfl | exact VRen.nil rfl (by omega) | exact VRen.fz rfl (fun h => h) (fun _ _ _ _ => VLe.rfl) | (refine ⟨Nat.le_refl _, rfl, fun i j hi hj => ?_⟩) | (refine ⟨by omega, rfl, fun i j hi hj => ?_⟩) | exact VLe.rfl | (refine ⟨⟨_, _, rfl⟩, ?_⟩) | (refine And.intro ?_ ?_))
          · repeat' (first | exact VRen.yld rfl | (refine VRen.fn ?_) | (refine ⟨rfl, rfl, rfl, rfl, rfl, ?_⟩) | exact True.intro | (refine ⟨⟨_, rfl, ?_⟩, ?_⟩) | exact VRen.kf rfl | exact VRen.int rfl | exact VRen.int (by omega) | exact VRen.loc rfl | exact VRen.vec rfl rfl rfl | exact VRen.vec rfl (by omega) (by omega) | exact VRen.nil rfl rfl | exact VRen.nil rfl (by omega) | exact VRen.fz rfl (fun h => h) (fun _ _ _ _ => VLe.rfl) | (refine ⟨Nat.le_refl _, rfl, fun i j hi hj => ?_⟩) | (refine ⟨by omega, rfl, fun i j hi hj => ?_⟩) | exact VLe.rfl | (refine ⟨⟨_, _, rfl⟩, ?_⟩) | (refine And.intro ?_ ?_))
      · exact bad_ak (i := i) (by rw [al_ak (by omega) ho, if_neg ‹_›, if_neg ‹_›])
      · refine ⟨x.ak.length - (i + 1), (i + 1, true), by omega, ⟨rfl, by simp only; omega, ?_⟩, ?_⟩
        · rw [al_ak (by omega) ho, if_neg ‹_›, if_pos ‹_›]
        · refine weak_by (fun _ _ => [(0, some 0), (1, some 1), (2, some 2), (3, some 3), (4, some 4), (5, some 5), (6, some 6), (8, some 8), (9, some 9)]) ?_ ?_ rfl
          · repeat' (first | exact VRen.yld rfl | (refine VRen.fn ?_) | (refine ⟨rfl, rfl, rfl, rfl, rfl, ?_⟩) | exact True.intro | (refine ⟨⟨_, rfl, ?_⟩, ?_⟩) | exact VRen.kf rfl | exact VRen.int rfl | exact VRen.int (by omega) | exact VRen.loc rfl | exact VRen.vec rfl rfl rfl | exact VRen.vec rfl (by omega) (by omega) | exact VRen.nil rfl rfl | exact VRen.nil rfl (by omega) | exact VRen.fz rfl (fun h => h) (fun _ _ _ _ => VLe.rfl) | (refine ⟨Nat.le_refl _, rfl, fun i j hi hj => ?_⟩) | (refine ⟨by omega, rfl, fun i j hi hj => ?_⟩) | exact VLe.rfl | (refine ⟨⟨_, _, rfl⟩, ?_⟩) | (refine And.intro ?_ ?_))
          · repeat' (first | exact VRen.yld rfl | (refine VRen.fn ?_) | (refine ⟨rfl, rfl, rfl, rfl, rfl, ?_⟩) | exact True.intro | (refine ⟨⟨_, rfl, ?_⟩, ?_⟩) | exact VRen.kf rfl | exact VRen.int rfl | exact VRen.int (by omega) | exact VRen.loc rfl | exact VRen.vec rfl rfl rfl | exact VRen.vec rfl (by omega) (by omega) | exact VRen.nil rfl rfl | exact VRen.nil rfl (by omega) | exact VRen.fz rfl (fun h => h) (fun _ _ _ _ => VLe.rfl) | (refine ⟨Nat.le_refl _, rfl, fun i j hi hj => ?_⟩) | (refine ⟨by omega, rfl, fun i j hi hj => ?_⟩) | exact VLe.rfl | (refine ⟨⟨_, _, rfl⟩, ?_⟩) | (refine And.intro ?_ ?_))
      · exact good_ak (i := i) (by simp only at *; omega) ho
  · simp only [Bool.not_eq_true] at hv
    rw [DL.aligned, hv, Bool.false_and]
    repeat' ((conv => whnf); first
        | (refine Br.tt ?_)
        | (refine Br.ff ?_)
        | (refine Br.dec (fun _ => ?_) (fun _ => ?_) <;> first | (exfalso; omega) | skip)
        | (refine Br.beq (fun _ => ?_) (fun _ => ?_) <;> first | (exfalso; omega) | skip)
        | (refine Br.bne (fun _ => ?_) (fun _ => ?_) <;> first | (exfalso; omega) | skip)
        | (refine Br.nbeq (fun _ => ?_) (fun _ => ?_) <;> first | (exfalso; omega) | skip)
        | (refine Br.nble (fun _ => ?_) (fun _ => ?_) <;> first | (exfalso; omega) | skip)
        | (refine Ar.i64 (by omega) (by omega) ?_)
        | (refine Ar.u32 (by omega) (by omega) ?_)
        | (refine Sv.mk _ rfl ?_)
        | (refine Nz.mk (by omega) ?_)
        | (refine Nn.mk (by omega) ?_)
        | (refine Ix.nat (by omega) ?_)
        | (refine Ix.ofNat (by omega) ?_)
        | (refine Ix.mk 0 rfl (by omega) ?_)
        | (refine Ix.mk 1 rfl (by omega) ?_)
        | (refine Ix.int (by omega) (by omega) ?_)
        | (refine Bd.nat (by omega) ?_)
        | (refine Bd.mk 0 rfl (by omega) ?_)
        | (refine Bd.mk 1 rfl (by omega) ?_)
        | (refine Bd.int (by omega) (by omega) ?_)
        | (refine Len.mk (by omega) ?_)
        | (refine Len.mk (by simp only [List.length_cons, List.length_nil]; omega) ?_)
        | (refine Ltn.mk (by omega) ?_)
        | (refine Both.mk ?_ ?_)
        | (refine call_new rfl ((valid_ok x).mono ?_); rintro _ _ _ rfl; rw [hv])
        | (refine Br.any (fun _ => ?_) (fun _ => ?_)))
    all_goals (conv => whnf)
    exact VLe.rfl
end Go.Proofs.Ytadefbamjaajfaa
