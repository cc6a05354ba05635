import Derived.Test.YtadefbamjaajfaaDL1
namespace Go.Proofs.Ytadefbamjaajfaa
open Go.Eng
set_option maxRecDepth 100000
set_option linter.unusedVariables false

def putL {α : Type} (l : List α) (x : α) (cap : Int) : List α := if (l.length : Int) = cap then l else l ++ [x]
def loseL {α : Type} (l : List α) (i : Int) : List α := if i < 0 then l else if i ≥ l.length then l else l.eraseIdx i.toNat

def capI (x : Int) : Int := if 1073741824 < x then 1073741824 else x

def DL.step (y : DL) (kind at_ : Int) : DL × Int × Bool :=
  if kind = 1 then ({ y with fr := putL y.fr (y.label, y.item) y.cap }, 0, false)
  else if kind = 2 then
    if (y.fr.length : Int) = 0 then (y, 0, false)
    else if (gF y.fr 0).1 = y.last then ({ y with fr := loseL y.fr 0, ak := putL y.ak (gF y.fr 0).1 y.cap }, 0, false)
    else ({ y with fr := loseL y.fr 0, ak := putL y.ak (gF y.fr 0).1 y.cap, last := (gF y.fr 0).1 }, (gF y.fr 0).2, true)
  else if kind = 3 then
    if (y.ak.length : Int) = 0 then (y, 0, false)
    else if gI y.ak 0 = y.label then ({ y with ak := loseL y.ak 0, label := (y.label + 1).tmod y.mod, item := capI (y.item + 1) }, 0, false)
    else ({ y with ak := loseL y.ak 0 }, 0, false)
  else if kind = 4 then ({ y with fr := loseL y.fr at_ }, 0, false)
  else if kind = 5 then ({ y with ak := loseL y.ak at_ }, 0, false)
  else (y, 0, false)

def dlOwn (y : DL) (k f a : Nat) : Own := [(k, .cells [.int .i64 y.cap, .int .i64 y.mod, .int .i64 y.label, .int .i64 y.item, .int .i64 y.last, .vec f 2 0 y.fr.length, .vec a 1 0 y.ak.length]), (f, .vec y.fr.length 2 (vF y.fr)), (a, .vec y.ak.length 1 (vI y.ak))]

def KS3 : List Nat := [3, 4, 5, 6, 7, 8, 9, 10, 11, 12, 13, 14, 15, 16, 17, 18, 19, 20, 21, 22, 23, 24, 25, 26, 27, 28, 29]

theorem getD_append {α : Type} (l : List α) (x d : α) (i : Nat) : (l ++ [x]).getD i d = if i < l.length then l.getD i d else if i = l.length then x else d := by
  by_cases h : i < l.length
  · simp only [List.getD, List.getElem?_append_left h, if_pos h]
  · rw [if_neg h]
    by_cases h2 : i = l.length
    · subst h2; simp
    · simp [h2, List.getElem?_eq_none (by simp; omega : (l ++ [x]).length ≤ i)]

theorem getD_erase {α : Type} (l : List α) (e i : Nat) (d : α) : (l.eraseIdx e).getD i d = if i < e then l.getD i d else l.getD (i + 1) d := by
  simp only [List.getD, List.getElem?_eraseIdx]
  split <;> rfl

theorem vle_appF (l : List (Int × Int)) (a b : Int) (i j : Nat) (hi : i < (l ++ [(a, b)]).length) (hj : j < 2) :
    VLe (fapp (shiftF 0 (vF l)) l.length (shiftF 0 (tab [[.int .i64 a, .int .i64 b]])) i j) (vF (l ++ [(a, b)]) i j) := by
  apply VLe.of_eq
  rw [List.length_append] at hi
  simp only [List.length_cons, List.length_nil] at hi
  by_cases h : i < l.length
  · rw [fapp_lt h]
    simp only [shiftF, vF, gF, getD_append, if_pos h]
  · rw [fapp_ge h]
    have : i = l.length := by omega
    subst this
    obtain rfl | rfl : j = 0 ∨ j = 1 := by omega
    · simp [shiftF, vF, gF, tab]
    · simp [shiftF, vF, gF, tab]

theorem vle_appI (l : List Int) (a : Int) (i j : Nat) (hi : i < (l ++ [a]).length) (hj : j < 1) :
    VLe (fapp (shiftF 0 (vI l)) l.length (shiftF 0 (tab [[.int .i64 a]])) i j) (vI (l ++ [a]) i j) := by
  apply VLe.of_eq
  rw [List.length_append] at hi
  simp only [List.length_cons, List.length_nil] at hi
  by_cases h : i < l.length
  · rw [fapp_lt h]
    simp only [shiftF, vI, gI, getD_append, if_pos h]
  · rw [fapp_ge h]
    have : i = l.length := by omega
    subst this
    obtain rfl : j = 0 := by omega
    simp [shiftF, vI, gI, tab]

theorem vle_erF (l : List (Int × Int)) (e p m q p2 m2 i j : Nat) (g : Nat → Nat → V) (hi : i < (l.eraseIdx e).length) (he : e < l.length) (h1 : p = e) (h2 : q = e + 1) (h3 : m = l.length - (e + 1)) (h4 : l.length - 1 ≤ p2) :
    VLe (fput (fput (vF l) p m (shiftF q (vF l))) p2 m2 g i j) (vF (l.eraseIdx e) i j) := by
  apply VLe.of_eq
  rw [List.length_eraseIdx_of_lt he] at hi
  subst h1 h2 h3
  simp only [fput]
  rw [if_neg (by omega)]
  by_cases h : p ≤ i
  · rw [if_pos (by omega)]
    rw [shiftF_eq]
    simp only [vF, gF, getD_erase, if_neg (show ¬ i < p by omega), show p + 1 + (i - p) = i + 1 by omega]
  · rw [if_neg (by omega)]
    simp only [vF, gF, getD_erase, if_pos (show i < p by omega)]

theorem vle_erI (l : List Int) (e p m q p2 m2 i j : Nat) (g : Nat → Nat → V) (hi : i < (l.eraseIdx e).length) (he : e < l.length) (h1 : p = e) (h2 : q = e + 1) (h3 : m = l.length - (e + 1)) (h4 : l.length - 1 ≤ p2) :
    VLe (fput (fput (vI l) p m (shiftF q (vI l))) p2 m2 g i j) (vI (l.eraseIdx e) i j) := by
  apply VLe.of_eq
  rw [List.length_eraseIdx_of_lt he] at hi
  subst h1 h2 h3
  simp only [fput]
  rw [if_neg (by omega)]
  by_cases h : p ≤ i
  · rw [if_pos (by omega)]
    rw [shiftF_eq]
    simp only [vI, gI, getD_erase, if_neg (show ¬ i < p by omega), show p + 1 + (i - p) = i + 1 by omega]
  · rw [if_neg (by omega)]
    simp only [vI, gI, getD_erase, if_pos (show i < p by omega)]

theorem perform_ok (y : DL) (kind at_ : Int) (hb : y.cap ≤ 8 ∧ 0 ≤ y.label ∧ y.label ≤ 64 ∧ 0 ≤ y.item ∧ y.item ≤ 1073741824 ∧ 2 ≤ y.mod ∧ y.mod ≤ 64 ∧ y.fr.length ≤ 8 ∧ y.ak.length ≤ 8) :
    CallF Try.prog 24 [.loc 0 0, .agg [.int .i64 kind, .int .i64 at_]] (dlOwn y 0 1 2) KS3 (fun v o k => v = .tup [.int .i64 (y.step kind at_).2.1, .bool (y.step kind at_).2.2] ∧ o = dlOwn (y.step kind at_).1 0 3 4) := by
  obtain ⟨r, hr⟩ : ∃ r, y.step kind at_ = r := ⟨_, rfl⟩
  rw [hr]
  refine call_post (fn_rule mixed Try.func24 rfl hc24 hr24 rfl ?_)
  repeat' ((conv => whnf); first
      | (refine Br.tt ?_)
      | (refine Br.ff ?_)
      | (refine Br.dec (fun _ => ?_) (fun _ => ?_) <;> first | (exfalso; omega) | skip)
      | (refine Br.beq (fun _ => ?_) (fun _ => ?_) <;> first | (exfalso; omega) | skip)
      | (refine Br.bne (fun _ => ?_) (fun _ => ?_) <;> first | (exfalso; omega) | skip)
      | (refine Br.nbeq (fun _ => ?_) (fun _ => ?_) <;> first | (exfalso; omega) | skip)
      | (refine Br.nble (fun _ => ?_) (fun _ => ?_) <;> first | (exfalso; omega) | skip)
      | (refine Ar.i64 (by omega) (by omega) ?_)
      | (refine Ar.u32 (by omega) (by omega) ?_)
      | (refine Sv.mk _ rfl ?_)
      | (refine Nz.mk (by omega) ?_)
      | (refine Nn.mk (by omega) ?_)
      | (refine Ix.nat (by omega) ?_)
      | (refine Ix.ofNat (by omega) ?_)
      | (refine Ix.mk 0 rfl (by omega) ?_)
      | (refine Ix.mk 1 rfl (by omega) ?_)
      | (refine Ix.int (by omega) (by omega) ?_)
      | (refine Bd.nat (by omega) ?_)
      | (refine Bd.mk 0 rfl (by omega) ?_)
      | (refine Bd.mk 1 rfl (by omega) ?_)
      | (refine Bd.int (by omega) (by omega) ?_)
      | (refine Len.mk (by omega) ?_)
      | (refine Len.mk (by simp only [List.length_cons, List.length_nil]; omega) ?_)
      | (refine Ltn.mk (by omega) ?_)
      | (refine Both.mk ?_ ?_)
      | (refine fn_rule mixed Try.func30 rfl hc30 hr30 rfl ?_)
      | (refine fn_rule mixed Try.func31 rfl hc31 hr31 rfl ?_)
      | (refine fn_rule mixed Try.func32 rfl hc32 hr32 rfl ?_)
      | (refine fn_rule mixed Try.func33 rfl hc33 hr33 rfl ?_)
      | (refine fn_rule mixed Try.func37 rfl hc37 hr37 rfl ?_)
      | (refine fn_rule mixed Try.func38 rfl hc38 hr38 rfl ?_)
      | (refine Br.any (fun _ => ?_) (fun _ => ?_)))
  all_goals (conv => whnf)
  all_goals
    simp only [DL.step, putL, loseL] at hr
    repeat (first | rw [if_pos (by omega)] at hr | rw [if_neg (by omega)] at hr)
    subst hr
    refine postR_by (fun o => [(0, some 0), (3, some (ckey o 0 5)), (4, some (ckey o 0 6))]) _ _ ⟨rfl, rfl⟩ (VRen.kf rfl) ?_ rfl
    repeat' (first | exact True.intro | (refine ⟨⟨_, rfl, ?_⟩, ?_⟩) | exact VRen.int rfl | exact VRen.vec rfl rfl rfl | exact VRen.vec rfl rfl (by rw [List.length_append]; rfl) | exact VRen.vec rfl rfl (by rw [List.length_eraseIdx_of_lt (by omega)]; omega) | exact VRen.kf rfl | (refine ⟨by rw [List.length_append]; exact Nat.le_refl _, rfl, fun i j hi hj => ?_⟩) | (refine ⟨Nat.le_refl _, rfl, fun i j hi hj => ?_⟩) | (refine ⟨by rw [List.length_eraseIdx_of_lt (by omega)]; omega, rfl, fun i j hi hj => ?_⟩) | exact VLe.rfl | exact vle_appF _ _ _ _ _ hi hj | exact vle_appI _ _ _ _ hi hj | exact vle_erF _ _ _ _ _ _ _ _ _ _ hi (by omega) (by omega) (by omega) (by omega) (by omega) | exact vle_erI _ _ _ _ _ _ _ _ _ _ hi (by omega) (by omega) (by omega) (by omega) (by omega) | (refine And.intro ?_ ?_))
end Go.Proofs.Ytadefbamjaajfaa
