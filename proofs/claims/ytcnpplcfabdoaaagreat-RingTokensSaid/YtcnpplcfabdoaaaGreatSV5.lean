import Derived.Test.YtcnpplcfabdoaaaGreatGR10
import Derived.Test.YtcnpplcfabdoaaaGreatEngV
import Derived.Test.YtcnpplcfabdoaaaGreatEngZ
namespace Go.Proofs.YtcnpplcfabdoaaaGreat
open Go.Eng
set_option maxRecDepth 100000
set_option linter.unusedVariables false

/-! ## the arithmetic of expressions -/

def inR (a : Int) : Prop := -1073741824 ≤ a ∧ a ≤ 1073741824
def truI (b : Bool) : Int := match b with | true => 1 | false => 0
def sat (a : Int) : Int := if (if 1073741824 < a then 1073741824 else a) > -1073741824 then (if 1073741824 < a then 1073741824 else a) else -1073741824
theorem sat_in (a : Int) : inR (sat a) := by unfold sat inR; split <;> split at * <;> omega
theorem tru_in (b : Bool) : inR (truI b) := by cases b <;> simp [truI, inR]

theorem sat_ok (a : Int) : Ret Tryz.prog 251 [.int .i64 a] (.int .i64 (sat a)) := by
  refine ret_frz rfl ?_
  refine fn_rule mixed Tryz.func251 rfl hc251 hr251 rfl ?_
  repeat' ((conv => whnf); first | (refine Sv.mk _ rfl ?_))
  all_goals (conv => whnf)
  exact VLe.int rfl
theorem tru_ok (b : Bool) : Ret Tryz.prog 249 [.bool b] (.int .i64 (truI b)) := by
  refine ret_frz rfl ?_
  refine fn_rule mixed Tryz.func249 rfl hc249 hr249 rfl ?_
  cases b
  all_goals
    repeat' ((conv => whnf); first | fail)
    all_goals (conv => whnf)
    exact VLe.rfl

def unI (op a : Int) : Int := if op = 18 then -a else truI (decide (a = 0))
theorem un_in {op a : Int} (h : inR a) : inR (unI op a) := by
  unfold unI; split
  · unfold inR at *; omega
  · exact tru_in _
theorem unary_ok (op a : Int) (h : inR a) : Ret Tryz.prog 241 [.int .i64 op, .int .i64 a] (.int .i64 (unI op a)) := by
  have ht := tru_ok true
  have hf := tru_ok false
  unfold inR at h
  refine ret_frz rfl ?_
  refine fn_rule mixed Tryz.func241 rfl hc241 hr241 rfl ?_
  rw [unI]
  repeat' ((conv => whnf); first | (refine Br.dec ?_ ?_ <;> intro _ <;> try omega) | (refine Ar.i64 (by omega) (by omega) ?_) | (refine (ht _ _).mono ?_; rintro _ _ _ ⟨rfl, rfl, rfl⟩) | (refine (hf _ _).mono ?_; rintro _ _ _ ⟨rfl, rfl, rfl⟩))
  all_goals (conv => whnf)
  · rename_i h1; rw [if_pos h1]; exact VLe.int (by omega)
  · rename_i h1 h2; rw [if_neg h1, decide_eq_true h2]; exact VLe.rfl
  · rename_i h1 h2; rw [if_neg h1, decide_eq_false h2]; exact VLe.rfl

def quoI (a b : Int) : Int := if b = 0 then 0 else if a.tmod b ≠ 0 ∧ ¬ ((a < 0) ↔ (b < 0)) then a.tdiv b - 1 else a.tdiv b
theorem tdiv_bound {a : Int} (b : Int) {m : Int} (h : -m ≤ a ∧ a ≤ m) : -m ≤ a.tdiv b ∧ a.tdiv b ≤ m := by
  have h1 : (a.tdiv b).natAbs ≤ a.natAbs := by rw [Int.natAbs_tdiv]; exact Nat.div_le_self _ _
  omega
theorem quoI_bound {a : Int} (b : Int) (h : inR a) : -1073741825 ≤ quoI a b ∧ quoI a b ≤ 1073741825 := by
  have := tdiv_bound b h
  unfold quoI
  split
  · omega
  · split <;> omega

theorem quo_ok (a b : Int) (ha : inR a) : Ret Tryz.prog 252 [.int .i64 a, .int .i64 b] (.int .i64 (quoI a b)) := by
  have hb := tdiv_bound b ha
  unfold inR at ha
  refine ret_frz rfl ?_
  refine fn_rule mixed Tryz.func252 rfl hc252 hr252 rfl ?_
  rw [quoI]
  by_cases h0 : b = 0
  · rw [if_pos h0]
    repeat' ((conv => whnf); first | (refine Br.dec ?_ ?_ <;> intro _ <;> try omega))
    all_goals (conv => whnf)
    exact VLe.rfl
  · rw [if_neg h0]
    generalize hq : a.tdiv b = q at *
    generalize hr : a.tmod b = r at *
    by_cases k1 : a < 0
    all_goals by_cases k2 : b < 0
    all_goals by_cases k3 : r = 0
    all_goals
      repeat' ((conv => whnf); first | (refine Ar.mk q (by rw [hq]; exact (wrap_i64 (by omega) (by omega)).symm) ?_) | (refine Sv.mk r (by rw [hr]) ?_) | (refine Br.tt ?_) | (refine Br.ff ?_) | (refine Br.dec ?_ ?_ <;> intro _ <;> try omega) | (refine Br.bne ?_ ?_ <;> intro _ <;> try omega) | (refine Ar.i64 (by omega) (by omega) ?_) | (refine Nz.mk (by omega) ?_))
      all_goals (conv => whnf)
      all_goals exact VLe.int (by simp [k1, k2, k3])

theorem mul_in {a b A B : Int} (ha : -A ≤ a ∧ a ≤ A) (hb : -B ≤ b ∧ b ≤ B) (hA : 0 ≤ A) (hB : 0 ≤ B) : -(A * B) ≤ a * b ∧ a * b ≤ A * B := by
  have h1 : (a * b).natAbs ≤ A.natAbs * B.natAbs := by rw [Int.natAbs_mul]; exact Nat.mul_le_mul (by omega) (by omega)
  have h2 : ((A.natAbs * B.natAbs : Nat) : Int) = A * B := by rw [Int.natCast_mul]; congr 1 <;> omega
  omega

def cmpI (op a b : Int) : Bool :=
  if op = 35 then decide (a = b) else if op = 36 then decide (a ≠ b) else if op = 37 then decide (a < b) else if op = 38 then decide (a ≤ b) else if op = 39 then decide (b < a) else decide (b ≤ a)
theorem cmp_ok (op a b : Int) (h : 35 ≤ op ∧ op ≤ 40) : Ret Tryz.prog 253 [.int .i64 op, .int .i64 a, .int .i64 b] (.bool (cmpI op a b)) := by
  refine ret_frz rfl ?_
  refine fn_rule mixed Tryz.func253 rfl hc253 hr253 rfl ?_
  rcases (show op = 35 ∨ op = 36 ∨ op = 37 ∨ op = 38 ∨ op = 39 ∨ op = 40 by omega) with rfl | rfl | rfl | rfl | rfl | rfl
  all_goals
    repeat' ((conv => whnf); first | (refine Br.tt ?_) | (refine Br.ff ?_) | (refine Br.dec ?_ ?_ <;> intro _ <;> try omega) | (refine Br.bne ?_ ?_ <;> intro _ <;> try omega))
    all_goals (conv => whnf)
    all_goals exact VLe.bool (by simp [cmpI]; omega)

def binI (op a b : Int) : Int :=
  if op = 30 then sat (a * b) else if op = 31 then sat (quoI a b) else if op = 32 then (if b = 0 then 0 else sat (a - b * quoI a b)) else if op = 33 then sat (a + b) else if op = 34 then sat (a - b)
  else if op = 41 then truI (decide (a ≠ 0 ∧ b ≠ 0)) else if op = 42 then truI (decide (a ≠ 0 ∨ b ≠ 0)) else truI (cmpI op a b)
theorem bin_in (op a b : Int) : inR (binI op a b) := by
  unfold binI
  repeat' split
  all_goals first | exact sat_in _ | exact tru_in _ | (unfold inR; omega)

set_option maxHeartbeats 4000000 in
theorem binary_ok (op a b : Int) (ha : inR a) (hb : inR b) (h : 30 ≤ op ∧ op ≤ 42) : Ret Tryz.prog 243 [.int .i64 op, .int .i64 a, .int .i64 b] (.int .i64 (binI op a b)) := by
  have hs := sat_ok
  have htt := tru_ok true
  have htf := tru_ok false
  have hq := quo_ok a b ha
  have hqb := quoI_bound b ha
  have hm := mul_in ha hb (by omega) (by omega)
  have hm2 := mul_in hb hqb (by omega) (by omega)
  have hcmp := cmp_ok op a b
  have ha' := ha
  have hb' := hb
  unfold inR at ha hb
  refine ret_frz rfl ?_
  refine fn_rule mixed Tryz.func243 rfl hc243 hr243 rfl ?_
  rcases (show op = 30 ∨ op = 31 ∨ op = 32 ∨ op = 33 ∨ op = 34 ∨ (35 ≤ op ∧ op ≤ 40) ∨ op = 41 ∨ op = 42 by omega) with rfl | rfl | rfl | rfl | rfl | h1 | rfl | rfl
  · have e : binI 30 a b = sat (a * b) := rfl
    rw [e]
    generalize hP : a * b = P at *
    repeat' ((conv => whnf); first | (refine Ar.mk P (by rw [hP]; exact (wrap_i64 (by omega) (by omega)).symm) ?_) | (refine Br.tt ?_) | (refine (hs P _ _).mono ?_; rintro _ _ _ ⟨rfl, rfl, rfl⟩))
    all_goals (conv => whnf)
    exact VLe.rfl
  · have e : binI 31 a b = sat (quoI a b) := rfl
    rw [e]
    repeat' ((conv => whnf); first | (refine Br.tt ?_) | (refine Br.ff ?_) | (refine (hq _ _).mono ?_; rintro _ _ _ ⟨rfl, rfl, rfl⟩) | (refine (hs _ _ _).mono ?_; rintro _ _ _ ⟨rfl, rfl, rfl⟩))
    all_goals (conv => whnf)
    exact VLe.rfl
  · have e : binI 32 a b = (if b = 0 then 0 else sat (a - b * quoI a b)) := rfl
    rw [e]
    by_cases k : b = 0
    · rw [if_pos k]
      repeat' ((conv => whnf); first | (refine Br.tt ?_) | (refine Br.ff ?_) | (refine Br.dec ?_ ?_ <;> intro _ <;> try omega))
      all_goals (conv => whnf)
      exact VLe.rfl
    · rw [if_neg k]
      generalize hQ : quoI a b = Q at *
      generalize hP : b * Q = P at *
      repeat' ((conv => whnf); first | (refine Ar.mk P (by rw [hP]; exact (wrap_i64 (by omega) (by omega)).symm) ?_) | (refine Br.tt ?_) | (refine Br.ff ?_) | (refine Br.dec ?_ ?_ <;> intro _ <;> try omega) | (refine Ar.i64 (by omega) (by omega) ?_) | (refine (hq _ _).mono ?_; rintro _ _ _ ⟨rfl, rfl, rfl⟩) | (refine (hs _ _ _).mono ?_; rintro _ _ _ ⟨rfl, rfl, rfl⟩))
      all_goals (conv => whnf)
      exact VLe.rfl
  · have e : binI 33 a b = sat (a + b) := rfl
    rw [e]
    repeat' ((conv => whnf); first | (refine Br.tt ?_) | (refine Br.ff ?_) | (refine Ar.i64 (by omega) (by omega) ?_) | (refine (hs _ _ _).mono ?_; rintro _ _ _ ⟨rfl, rfl, rfl⟩))
    all_goals (conv => whnf)
    exact VLe.rfl
  · have e : binI 34 a b = sat (a - b) := rfl
    rw [e]
    repeat' ((conv => whnf); first | (refine Br.tt ?_) | (refine Br.ff ?_) | (refine Ar.i64 (by omega) (by omega) ?_) | (refine (hs _ _ _).mono ?_; rintro _ _ _ ⟨rfl, rfl, rfl⟩))
    all_goals (conv => whnf)
    exact VLe.rfl
  · have e : binI op a b = truI (cmpI op a b) := by
      unfold binI
      rw [if_neg (by omega), if_neg (by omega), if_neg (by omega), if_neg (by omega), if_neg (by omega), if_neg (by omega), if_neg (by omega)]
    rw [e]
    have hcmp := hcmp h1
    repeat' ((conv => whnf); first | (refine Br.dec ?_ ?_ <;> intro _ <;> try omega) | (refine (hcmp _ _).mono ?_; rintro _ _ _ ⟨rfl, rfl, rfl⟩) | (refine (htt _ _).mono ?_; rintro _ _ _ ⟨rfl, rfl, rfl⟩) | (refine (htf _ _).mono ?_; rintro _ _ _ ⟨rfl, rfl, rfl⟩) | (refine Br.any (fun _ => ?_) (fun _ => ?_)))
    all_goals (conv => whnf)
    all_goals (rename_i hh; rw [hh]; exact VLe.rfl)
  · have e : binI 41 a b = truI (decide (a ≠ 0 ∧ b ≠ 0)) := rfl
    rw [e]
    by_cases k1 : a = 0
    all_goals by_cases k2 : b = 0
    all_goals
      repeat' ((conv => whnf); first | (refine Br.tt ?_) | (refine Br.ff ?_) | (refine Br.bne ?_ ?_ <;> intro _ <;> try omega) | (refine (htt _ _).mono ?_; rintro _ _ _ ⟨rfl, rfl, rfl⟩) | (refine (htf _ _).mono ?_; rintro _ _ _ ⟨rfl, rfl, rfl⟩))
      all_goals (conv => whnf)
      exact VLe.int (by simp [k1, k2, truI])
  · have e : binI 42 a b = truI (decide (a ≠ 0 ∨ b ≠ 0)) := rfl
    rw [e]
    by_cases k1 : a = 0
    all_goals by_cases k2 : b = 0
    all_goals
      repeat' ((conv => whnf); first | (refine Br.tt ?_) | (refine Br.ff ?_) | (refine Br.bne ?_ ?_ <;> intro _ <;> try omega) | (refine (htt _ _).mono ?_; rintro _ _ _ ⟨rfl, rfl, rfl⟩) | (refine (htf _ _).mono ?_; rintro _ _ _ ⟨rfl, rfl, rfl⟩))
      all_goals (conv => whnf)
      exact VLe.int (by simp [k1, k2, truI])

/-! ## aggregates -/

def cntI (l : List Int) : Nat := l.countP fun a => decide (a ≠ 0)
theorem cntI_snoc (l : List Int) (a : Int) : cntI (l ++ [a]) = if a ≠ 0 then cntI l + 1 else cntI l := by
  simp only [cntI, List.countP_append, List.countP_singleton]
  by_cases h : a = 0 <;> simp [h]
theorem cntI_le (l : List Int) : cntI l ≤ l.length := List.countP_le_length
theorem count_ok (l : List Int) (hl : l.length ≤ 1000) : Ret Tryz.prog 257 [.fz l.length 1 false (vI l)] (.int .i64 (cntI l)) := by
  refine ret_frz rfl ?_
  refine fn_rule mixed Tryz.func257 rfl hc257 hr257 rfl ?_
  repeat' ((conv => whnf); first | fail)
  all_goals (conv => whnf)
  refine loop_r mixed [6, 7] (fun i : Nat => [(3, .int .i64 (cntI (l.take i))), (8, .int .i64 i)]) (fun m i => m = l.length - i ∧ i ≤ l.length) l.length 0 ⟨rfl, Nat.zero_le _⟩ ?_ ?_
  · refine weak_by (fun _ _ => []) ?_ ?_ rfl
    · repeat' (first | exact True.intro | (refine ⟨⟨_, rfl, ?_⟩, ?_⟩) | exact VRen.kf rfl)
    · repeat' (first | exact True.intro)
  rintro m i ⟨hm, hi⟩
  have hc := cntI_le (l.take i)
  have hlt : (l.take i).length ≤ 1000 := by rw [List.length_take]; omega
  repeat' ((conv => whnf); first | (refine Br.dec ?_ ?_ <;> intro _ <;> try omega) | (refine Br.bne ?_ ?_ <;> intro _ <;> try omega) | (refine Ar.i64 (by omega) (by omega) ?_) | (refine Ix.nat (by omega) ?_))
  all_goals (conv => whnf)
  · have e : cntI (l.take (i + 1)) = cntI (l.take i) + 1 := by rw [gI_take l i (by omega), cntI_snoc, if_pos (by assumption)]
    refine ⟨l.length - (i + 1), i + 1, by omega, ⟨rfl, by omega⟩, ?_⟩
    refine weak_by (fun _ _ => []) ?_ ?_ rfl
    · repeat' (first | exact VRen.int (by rw [e]; omega) | exact True.intro | (refine ⟨⟨_, rfl, ?_⟩, ?_⟩) | exact VRen.kf rfl)
    · repeat' (first | exact True.intro)
  · have e : cntI (l.take (i + 1)) = cntI (l.take i) := by rw [gI_take l i (by omega), cntI_snoc, if_neg (by simp_all)]
    refine ⟨l.length - (i + 1), i + 1, by omega, ⟨rfl, by omega⟩, ?_⟩
    refine weak_by (fun _ _ => []) ?_ ?_ rfl
    · repeat' (first | exact VRen.int (by rw [e]) | exact True.intro | (refine ⟨⟨_, rfl, ?_⟩, ?_⟩) | exact VRen.kf rfl)
    · repeat' (first | exact True.intro)
  · rw [List.take_of_length_le (by omega)]
    exact VLe.rfl

/-- the first place that is not 0, or -1 -/
def idxI : Nat → List Int → Int
  | _, [] => -1
  | k, a :: r => if a ≠ 0 then k else idxI (k + 1) r
theorem idxI_split : ∀ (l : List Int) (k i : Nat), i ≤ l.length → (∀ a ∈ l.take i, a = 0) → idxI k l = idxI (k + i) (l.drop i)
  | _, k, 0, _, _ => by simp
  | [], k, i + 1, h, _ => by simp at h
  | a :: r, k, i + 1, h, h2 => by
    have ha : a = 0 := h2 a (by simp)
    simp only [idxI, ha, ne_eq, not_true_eq_false, if_false, List.drop_succ_cons]
    rw [idxI_split r (k + 1) i (by simpa using h) (fun x hx => h2 x (by simp [hx]))]
    congr 1
    omega
theorem idxI_range : ∀ (l : List Int) (k : Nat), -1 ≤ idxI k l ∧ idxI k l < (k + l.length : Nat) ∨ idxI k l = -1
  | [], k => .inr rfl
  | a :: r, k => by
    simp only [idxI]
    split
    · left; simp; omega
    · rcases idxI_range r (k + 1) with h | h
      · left; simp at *; omega
      · right; exact h
theorem gI_drop (l : List Int) (i : Nat) (h : i < l.length) : l.drop i = gI l i :: l.drop (i + 1) := by
  rw [List.drop_eq_getElem_cons h]
  simp only [gI, List.getD, List.getElem?_eq_getElem h, Option.getD_some]
theorem fold1_ok (a : Int) : Ret Tryz.prog 259 [.int .i64 a] (.bool (decide (a ≠ 0))) := by
  refine ret_frz rfl ?_
  refine fn_rule mixed Tryz.func259 rfl hc259 hr259 rfl ?_
  repeat' ((conv => whnf); first | (refine Br.bne ?_ ?_ <;> intro _ <;> try omega))
  all_goals (conv => whnf)
  · rename_i h; exact VLe.bool (by simp [h])
  · rename_i h; exact VLe.bool (decide_eq_false (by simpa using h)).symm
theorem index_ok (l : List Int) (hl : l.length ≤ 1000) : Ret Tryz.prog 258 [.fz l.length 1 false (vI l), .fn (.func 259) false []] (.int .i64 (idxI 0 l)) := by
  refine ret_frz rfl ?_
  refine fn_rule mixed Tryz.func258 rfl hc258 hr258 rfl ?_
  repeat' ((conv => whnf); first | fail)
  all_goals (conv => whnf)
  refine loop_r mixed [0, 1, 7] (fun i : Nat => [(8, .int .i64 i)]) (fun m i => m = l.length - i ∧ i ≤ l.length ∧ ∀ a ∈ l.take i, a = 0) l.length 0 ⟨rfl, Nat.zero_le _, by simp⟩ ?_ ?_
  · refine weak_by (fun _ _ => []) ?_ ?_ rfl
    · repeat' (first | exact True.intro | (refine VRen.fn ?_) | (refine ⟨⟨_, rfl, ?_⟩, ?_⟩) | exact VRen.kf rfl)
    · repeat' (first | exact True.intro)
  rintro m i ⟨hm, hi, hall⟩
  have hf := fold1_ok (gI l i)
  by_cases hz : gI l i = 0
  · rw [decide_eq_false (by simp [hz])] at hf
    repeat' ((conv => whnf); first | (refine Br.ff ?_) | (refine Br.dec ?_ ?_ <;> intro _ <;> try omega) | (refine Ar.i64 (by omega) (by omega) ?_) | (refine Ix.nat (by omega) ?_) | (refine Chk.mk (by kernel_rfl) ?_) | (refine (hf _ _).mono ?_; rintro _ _ _ ⟨rfl, rfl, rfl⟩))
    all_goals (conv => whnf)
    · refine ⟨l.length - (i + 1), i + 1, by omega, ⟨rfl, by omega, ?_⟩, ?_⟩
      · rw [gI_take l i (by omega)]
        intro a ha
        rcases List.mem_append.1 ha with h | h
        · exact hall a h
        · simp at h; rw [h]; exact hz
      · refine weak_by (fun _ _ => []) ?_ ?_ rfl
        · repeat' (first | exact True.intro | (refine VRen.fn ?_) | (refine ⟨⟨_, rfl, ?_⟩, ?_⟩) | exact VRen.kf rfl)
        · repeat' (first | exact True.intro)
    · refine VLe.int ?_
      rw [idxI_split l 0 i hi hall, List.drop_of_length_le (by omega)]
      rfl
  · rw [decide_eq_true (by exact hz)] at hf
    repeat' ((conv => whnf); first | (refine Br.tt ?_) | (refine Br.dec ?_ ?_ <;> intro _ <;> try omega) | (refine Ix.nat (by omega) ?_) | (refine Chk.mk (by kernel_rfl) ?_) | (refine (hf _ _).mono ?_; rintro _ _ _ ⟨rfl, rfl, rfl⟩))
    all_goals (conv => whnf)
    · refine VLe.int ?_
      rw [idxI_split l 0 i hi hall, gI_drop l i (by omega)]
      simp [idxI, hz]
    · refine VLe.int ?_
      rw [idxI_split l 0 i hi hall, List.drop_of_length_le (by omega)]
      rfl

def two (g s a : Int) : Int × Int := if a > g then (a, g) else (g, if a > s then a else s)
def twoL : List Int → Int × Int → Int × Int
  | [], p => p
  | a :: r, p => twoL r (two p.1 p.2 a)
theorem twoL_snoc : ∀ (l : List Int) (a : Int) (p : Int × Int), twoL (l ++ [a]) p = two (twoL l p).1 (twoL l p).2 a
  | [], a, p => rfl
  | x :: r, a, p => twoL_snoc r a _
def twoI (l : List Int) : Int × Int := twoL l (-1073741824, -1073741824)
theorem two_ok (l : List Int) (hl : l.length ≤ 1000) : Ret Tryz.prog 260 [.fz l.length 1 false (vI l)] (.tup [.int .i64 (twoI l).1, .int .i64 (twoI l).2]) := by
  refine ret_frz rfl ?_
  refine fn_rule mixed Tryz.func260 rfl hc260 hr260 rfl ?_
  repeat' ((conv => whnf); first | fail)
  all_goals (conv => whnf)
  refine loop_r mixed [6, 7] (fun i : Nat => [(2, .int .i64 (twoI (l.take i)).1), (3, .int .i64 (twoI (l.take i)).2), (8, .int .i64 i)]) (fun m i => m = l.length - i ∧ i ≤ l.length) l.length 0 ⟨rfl, Nat.zero_le _⟩ ?_ ?_
  · refine weak_by (fun _ _ => []) ?_ ?_ rfl
    · repeat' (first | exact True.intro | (refine ⟨⟨_, rfl, ?_⟩, ?_⟩) | exact VRen.kf rfl)
    · repeat' (first | exact True.intro)
  rintro m i ⟨hm, hi⟩
  have e : i < l.length → twoI (l.take (i + 1)) = two (twoI (l.take i)).1 (twoI (l.take i)).2 (gI l i) := fun h => by
    rw [gI_take l i h, twoI, twoL_snoc]; rfl
  repeat' ((conv => whnf); first | (refine Br.dec ?_ ?_ <;> intro _ <;> try omega) | (refine Ar.i64 (by omega) (by omega) ?_) | (refine Sv.mk _ rfl ?_) | (refine Ix.nat (by omega) ?_))
  all_goals (conv => whnf)
  · have e := e (by omega)
    rw [two, if_pos (by assumption)] at e
    refine ⟨l.length - (i + 1), i + 1, by omega, ⟨rfl, by omega⟩, ?_⟩
    simp only [e]
    refine weak_by (fun _ _ => []) ?_ ?_ rfl
    · repeat' (first | exact True.intro | (refine ⟨⟨_, rfl, ?_⟩, ?_⟩) | exact VRen.kf rfl)
    · repeat' (first | exact True.intro)
  · have e := e (by omega)
    rw [two, if_neg (by assumption)] at e
    refine ⟨l.length - (i + 1), i + 1, by omega, ⟨rfl, by omega⟩, ?_⟩
    simp only [e]
    refine weak_by (fun _ _ => []) ?_ ?_ rfl
    · repeat' (first | exact True.intro | (refine ⟨⟨_, rfl, ?_⟩, ?_⟩) | exact VRen.kf rfl)
    · repeat' (first | exact True.intro)
  · rw [List.take_of_length_le (by omega)]
    exact VLe.rfl

def minI : List Int → Int → Int
  | [], m => m
  | a :: r, m => minI r (if a < m then a else m)
theorem minI_snoc : ∀ (l : List Int) (a m : Int), minI (l ++ [a]) m = if a < minI l m then a else minI l m
  | [], a, m => rfl
  | x :: r, a, m => minI_snoc r a _
def sumI : List Int → Int → Int
  | [], m => m
  | a :: r, m => sumI r (m + a)
theorem sumI_snoc : ∀ (l : List Int) (a m : Int), sumI (l ++ [a]) m = sumI l m + a
  | [], a, m => rfl
  | x :: r, a, m => sumI_snoc r a _
theorem sumI_bound : ∀ (l : List Int) (m : Int) (k : Nat), (∀ a ∈ l, inR a) → -(1073741824 * (k : Int)) ≤ m ∧ m ≤ 1073741824 * (k : Int) → -(1073741824 * ((k + l.length : Nat) : Int)) ≤ sumI l m ∧ sumI l m ≤ 1073741824 * ((k + l.length : Nat) : Int)
  | [], m, k, _, h => by simpa [sumI] using h
  | a :: r, m, k, hl, h => by
    have ha := hl a (by simp)
    unfold inR at ha
    have := sumI_bound r (m + a) (k + 1) (fun b hb => hl b (by simp [hb])) (by omega)
    simp only [sumI, List.length_cons]
    omega

def fldI (op : Int) (l : List Int) : Int :=
  if op = 20 then truI (decide (cntI l = l.length)) else if op = 21 then truI (decide (0 < cntI l)) else if op = 22 then cntI l else if op = 23 then idxI 0 l
  else if op = 24 then minI l 1073741824 else if op = 25 then (twoI l).1 else if op = 26 then sat (sumI l 0) else if op = 28 then (twoI l).2 else gI l 0

set_option maxHeartbeats 4000000 in
theorem fold_ok (op : Int) (l : List Int) (hl : l.length ≤ 1000) (hr : ∀ a ∈ l, inR a) (h : 20 ≤ op ∧ op ≤ 29 ∧ op ≠ 27) : Ret Tryz.prog 250 [.int .i64 op, .fz l.length 1 false (vI l)] (.int .i64 (fldI op l)) := by
  have hcnt := count_ok l hl
  have hct := cntI_le l
  have htt := tru_ok true
  have htf := tru_ok false
  have hidx := index_ok l hl
  have htwo := two_ok l hl
  have hs := sat_ok (sumI l 0)
  refine ret_frz rfl ?_
  refine fn_rule mixed Tryz.func250 rfl hc250 hr250 rfl ?_
  rcases (show op = 20 ∨ op = 21 ∨ op = 22 ∨ op = 23 ∨ op = 24 ∨ op = 25 ∨ op = 26 ∨ op = 28 ∨ op = 29 by omega) with rfl | rfl | rfl | rfl | rfl | rfl | rfl | rfl | rfl
  · have e : fldI 20 l = truI (decide (cntI l = l.length)) := rfl
    rw [e]
    repeat' ((conv => whnf); first | (refine Br.tt ?_) | (refine Br.dec ?_ ?_ <;> intro _ <;> try omega) | (refine (hcnt _ _).mono ?_; rintro _ _ _ ⟨rfl, rfl, rfl⟩) | (refine (htt _ _).mono ?_; rintro _ _ _ ⟨rfl, rfl, rfl⟩) | (refine (htf _ _).mono ?_; rintro _ _ _ ⟨rfl, rfl, rfl⟩))
    all_goals (conv => whnf)
    · exact VLe.int (by rw [decide_eq_true (by omega)])
    · exact VLe.int (by rw [decide_eq_false (by omega)])
  · have e : fldI 21 l = truI (decide (0 < cntI l)) := rfl
    rw [e]
    repeat' ((conv => whnf); first | (refine Br.tt ?_) | (refine Br.ff ?_) | (refine Br.dec ?_ ?_ <;> intro _ <;> try omega) | (refine (hcnt _ _).mono ?_; rintro _ _ _ ⟨rfl, rfl, rfl⟩) | (refine (htt _ _).mono ?_; rintro _ _ _ ⟨rfl, rfl, rfl⟩) | (refine (htf _ _).mono ?_; rintro _ _ _ ⟨rfl, rfl, rfl⟩))
    all_goals (conv => whnf)
    · exact VLe.int (by rw [decide_eq_true (by omega)])
    · exact VLe.int (by rw [decide_eq_false (by omega)])
  · have e : fldI 22 l = cntI l := rfl
    rw [e]
    repeat' ((conv => whnf); first | (refine Br.tt ?_) | (refine Br.ff ?_) | (refine (hcnt _ _).mono ?_; rintro _ _ _ ⟨rfl, rfl, rfl⟩))
    all_goals (conv => whnf)
    exact VLe.rfl
  · have e : fldI 23 l = idxI 0 l := rfl
    rw [e]
    repeat' ((conv => whnf); first | (refine Br.tt ?_) | (refine Br.ff ?_) | (refine (hidx _ _).mono ?_; rintro _ _ _ ⟨rfl, rfl, rfl⟩))
    all_goals (conv => whnf)
    exact VLe.rfl
  · have e : fldI 24 l = minI l 1073741824 := rfl
    rw [e]
    repeat' ((conv => whnf); first | (refine Br.tt ?_) | (refine Br.ff ?_))
    all_goals (conv => whnf)
    refine loop_r mixed [40, 41] (fun i : Nat => [(5, .int .i64 (minI (l.take i) 1073741824)), (42, .int .i64 i)]) (fun m i => m = l.length - i ∧ i ≤ l.length) l.length 0 ⟨rfl, Nat.zero_le _⟩ ?_ ?_
    · refine weak_by (fun _ _ => []) ?_ ?_ rfl
      · repeat' (first | exact True.intro | (refine ⟨⟨_, rfl, ?_⟩, ?_⟩) | exact VRen.kf rfl)
      · repeat' (first | exact True.intro)
    rintro m i ⟨hm, hi⟩
    repeat' ((conv => whnf); first | (refine Br.dec ?_ ?_ <;> intro _ <;> try omega) | (refine Ar.i64 (by omega) (by omega) ?_) | (refine Sv.mk _ rfl ?_) | (refine Ix.nat (by omega) ?_))
    all_goals (conv => whnf)
    · refine ⟨l.length - (i + 1), i + 1, by omega, ⟨rfl, by omega⟩, ?_⟩
      simp only [gI_take l i (by omega), minI_snoc]
      refine weak_by (fun _ _ => []) ?_ ?_ rfl
      · repeat' (first | exact True.intro | (refine ⟨⟨_, rfl, ?_⟩, ?_⟩) | exact VRen.kf rfl)
      · repeat' (first | exact True.intro)
    · rw [List.take_of_length_le (by omega)]
      exact VLe.rfl
  · have e : fldI 25 l = (twoI l).1 := rfl
    rw [e]
    repeat' ((conv => whnf); first | (refine Br.tt ?_) | (refine Br.ff ?_) | (refine (htwo _ _).mono ?_; rintro _ _ _ ⟨rfl, rfl, rfl⟩))
    all_goals (conv => whnf)
    exact VLe.rfl
  · have e : fldI 26 l = sat (sumI l 0) := rfl
    rw [e]
    repeat' ((conv => whnf); first | (refine Br.tt ?_) | (refine Br.ff ?_))
    all_goals (conv => whnf)
    refine loop_r mixed [61, 62] (fun i : Nat => [(10, .int .i64 (sumI (l.take i) 0)), (63, .int .i64 i)]) (fun m i => m = l.length - i ∧ i ≤ l.length) l.length 0 ⟨rfl, Nat.zero_le _⟩ ?_ ?_
    · refine weak_by (fun _ _ => []) ?_ ?_ rfl
      · repeat' (first | exact True.intro | (refine ⟨⟨_, rfl, ?_⟩, ?_⟩) | exact VRen.kf rfl)
      · repeat' (first | exact True.intro)
    rintro m i ⟨hm, hi⟩
    have hb := sumI_bound (l.take i) 0 0 (fun a ha => hr a (List.mem_of_mem_take ha)) (by omega)
    have hlt : (l.take i).length = i := by rw [List.length_take]; omega
    rw [hlt] at hb
    have hgi : i < l.length → inR (gI l i) := fun h => hr _ (by simp only [gI, List.getD, List.getElem?_eq_getElem h, Option.getD_some]; exact List.getElem_mem h)
    unfold inR at hgi
    by_cases hil : i < l.length
    · have hgi := hgi hil
      repeat' ((conv => whnf); first | (refine Br.dec ?_ ?_ <;> intro _ <;> try omega) | (refine Ar.i64 (by omega) (by omega) ?_) | (refine Ix.nat (by omega) ?_))
      all_goals (conv => whnf)
      refine ⟨l.length - (i + 1), i + 1, by omega, ⟨rfl, by omega⟩, ?_⟩
      simp only [gI_take l i (by omega), sumI_snoc]
      refine weak_by (fun _ _ => []) ?_ ?_ rfl
      · repeat' (first | exact True.intro | (refine ⟨⟨_, rfl, ?_⟩, ?_⟩) | exact VRen.kf rfl)
      · repeat' (first | exact True.intro)
    · have e : l.take i = l := List.take_of_length_le (by omega)
      rw [e]
      repeat' ((conv => whnf); first | (refine Br.dec ?_ ?_ <;> intro _ <;> try omega) | (refine (hs _ _).mono ?_; rintro _ _ _ ⟨rfl, rfl, rfl⟩))
      all_goals (conv => whnf)
      exact VLe.rfl
  · have e : fldI 28 l = (twoI l).2 := rfl
    rw [e]
    repeat' ((conv => whnf); first | (refine Br.tt ?_) | (refine Br.ff ?_) | (refine (htwo _ _).mono ?_; rintro _ _ _ ⟨rfl, rfl, rfl⟩))
    all_goals (conv => whnf)
    exact VLe.rfl
  · have e : fldI 29 l = gI l 0 := rfl
    rw [e]
    repeat' ((conv => whnf); first | (refine Br.ff ?_) | (refine Br.dec ?_ ?_ <;> intro _ <;> try omega) | (refine Ix.mk 0 rfl (by omega) ?_))
    all_goals (conv => whnf)
    · rename_i hz
      have : l = [] := List.length_eq_zero_iff.1 (by omega)
      subst this
      exact VLe.rfl
    · exact VLe.rfl
end Go.Proofs.YtcnpplcfabdoaaaGreat

namespace Go.Proofs.YtcnpplcfabdoaaaGreat
open Go.Eng
set_option maxRecDepth 100000
set_option linter.unusedVariables false

/-! ## expressions -/

inductive Tm where
  | leaf (op arg : Int)
  | un (op : Int) (a : Tm)
  | agg (op : Int) (a : Tm)
  | bin (op : Int) (a b : Tm)
  | ite (c a b : Tm)

abbrev Lt2 := List (Int × Int)
def Tm.enc : Tm → Lt2
  | .leaf op arg => [(op, arg)]
  | .un op a => (op, 0) :: a.enc
  | .agg op a => (op, 0) :: a.enc
  | .bin op a b => (op, 0) :: (a.enc ++ b.enc)
  | .ite c a b => (43, 0) :: (c.enc ++ (a.enc ++ b.enc))
def Tm.wf (nv : Nat) : Bool → Tm → Bool
  | bd, .leaf op arg => decide (1 ≤ op ∧ op ≤ 17) && decide (op = 1 → 0 ≤ arg ∧ arg ≤ 1073741824) && decide (op = 5 ∨ op = 12 → 0 ≤ arg ∧ arg < nv) && (bd || decide (op ≤ 10))
  | bd, .un op a => decide (op = 18 ∨ op = 19) && a.wf nv bd
  | _, .agg op a => decide (20 ≤ op ∧ op ≤ 29 ∧ op ≠ 27) && a.wf nv true
  | bd, .bin op a b => decide (30 ≤ op ∧ op ≤ 42) && (a.wf nv bd && b.wf nv bd)
  | bd, .ite c a b => c.wf nv bd && (a.wf nv bd && b.wf nv bd)
def arI (op : Int) : Int := if op < 1 ∨ 43 < op then -1 else if op ≤ 17 then 0 else if op ≤ 29 then 1 else if op ≤ 42 then 2 else 3
theorem ar_ok (op : Int) : Ret Tryz.prog 210 [.int .i64 op] (.int .i64 (arI op)) := by
  refine ret_frz rfl ?_
  refine fn_rule mixed Tryz.func210 rfl hc210 hr210 rfl ?_
  rw [arI]
  repeat' ((conv => whnf); first | (refine Br.dec ?_ ?_ <;> intro _ <;> try omega))
  all_goals (conv => whnf)
  all_goals refine VLe.int ?_
  all_goals repeat' split
  all_goals omega
theorem arI_in (op : Int) : -1 ≤ arI op ∧ arI op ≤ 3 := by unfold arI; repeat' split
                                                           all_goals omega

def endK : Int → Nat → Lt2 → Int
  | _, _, [] => -1
  | m, k, x :: r => if arI x.1 < 0 then -1 else if m + (arI x.1 - 1) = 0 then ((k : Int) + 1) else endK (m + (arI x.1 - 1)) (k + 1) r
def endI (e : Lt2) (at_ : Nat) : Int := endK 1 at_ (e.drop at_)
theorem gF_drop (l : Lt2) (i : Nat) (h : i < l.length) : l.drop i = gF l i :: l.drop (i + 1) := by
  rw [List.drop_eq_getElem_cons h]
  simp only [gF, List.getD, List.getElem?_eq_getElem h, Option.getD_some]
theorem end_ok (e : Lt2) (k : Nat) (he : e.length ≤ 100000) (hk : k < e.length) : Ret Tryz.prog 185 [.fz e.length 2 false (vF e), .int .i64 k] (.int .i64 (endI e k)) := by
  refine ret_frz rfl ?_
  refine fn_rule mixed Tryz.func185 rfl hc185 hr185 rfl ?_
  repeat' ((conv => whnf); first | (refine Br.ff ?_) | (refine Br.dec ?_ ?_ <;> intro _ <;> try omega))
  all_goals (conv => whnf)
  refine loop_r mixed [0] (fun x : Nat × Int => [(1, .int .i64 x.1), (5, .int .i64 x.2)]) (fun n x => n = e.length - x.1 ∧ x.1 ≤ e.length ∧ -1000000 - x.1 ≤ x.2 ∧ x.2 ≤ 1000000 + 3 * x.1 ∧ endI e k = endK x.2 x.1 (e.drop x.1)) (e.length - k) (k, 1) ⟨rfl, by omega, by omega, by omega, rfl⟩ ?_ ?_
  · refine weak_by (fun _ _ => []) ?_ ?_ rfl
    · repeat' (first | exact True.intro | (refine ⟨⟨_, rfl, ?_⟩, ?_⟩) | exact VRen.kf rfl)
    · repeat' (first | exact True.intro)
  rintro n ⟨i, m⟩ ⟨hn, hi, hm1, hm2, hE⟩
  simp only at hn hi hm1 hm2 hE
  have ha := ar_ok (gF e i).1
  have har := arI_in (gF e i).1
  by_cases hil : i < e.length
  · rw [gF_drop e i hil, endK] at hE
    repeat' ((conv => whnf); first | (refine Br.dec ?_ ?_ <;> intro _ <;> try omega) | (refine Ar.i64 (by omega) (by omega) ?_) | (refine Ix.nat (by omega) ?_) | (refine (ha _ _).mono ?_; rintro _ _ _ ⟨rfl, rfl, rfl⟩))
    all_goals (conv => whnf)
    · rw [hE, if_pos (by assumption)]; exact VLe.rfl
    · rw [hE, if_neg (by assumption), if_pos (by assumption)]; exact VLe.int (by omega)
    · rw [if_neg (by assumption), if_neg (by assumption)] at hE
      refine ⟨e.length - (i + 1), (i + 1, m + (arI (gF e i).1 - 1)), by omega, ⟨rfl, by simp only; omega, by simp only; omega, by simp only; omega, hE⟩, ?_⟩
      refine weak_by (fun _ _ => []) ?_ ?_ rfl
      · repeat' (first | exact True.intro | (refine ⟨⟨_, rfl, ?_⟩, ?_⟩) | exact VRen.kf rfl)
      · repeat' (first | exact True.intro)
  · have : i = e.length := by omega
    subst this
    rw [List.drop_of_length_le (Nat.le_refl _)] at hE
    repeat' ((conv => whnf); first | (refine Br.dec ?_ ?_ <;> intro _ <;> try omega))
    all_goals (conv => whnf)
    rw [hE]; exact VLe.rfl

theorem arI_0 {op : Int} (h : 1 ≤ op ∧ op ≤ 17) : arI op = 0 := by unfold arI; rw [if_neg (by omega), if_pos (by omega)]
theorem arI_1 {op : Int} (h : 18 ≤ op ∧ op ≤ 29) : arI op = 1 := by unfold arI; rw [if_neg (by omega), if_neg (by omega), if_pos (by omega)]
theorem arI_2 {op : Int} (h : 30 ≤ op ∧ op ≤ 42) : arI op = 2 := by unfold arI; rw [if_neg (by omega), if_neg (by omega), if_neg (by omega), if_pos (by omega)]
theorem endK_enc (nv : Nat) : ∀ (t : Tm) (bd : Bool) (m : Int) (k : Nat) (r : Lt2), t.wf nv bd = true → 1 ≤ m → endK m k (t.enc ++ r) = if m = 1 then ((k + t.enc.length : Nat) : Int) else endK (m - 1) (k + t.enc.length) r
  | .leaf op arg, bd, m, k, r, hw, hm => by
    simp only [Tm.wf, Bool.and_eq_true, decide_eq_true_eq] at hw
    simp only [Tm.enc, List.cons_append, List.nil_append, endK, arI_0 hw.1.1.1, List.length_cons, List.length_nil]
    rw [if_neg (by omega)]
    by_cases h : m = 1
    · rw [if_pos (by omega), if_pos h]; omega
    · rw [if_neg (by omega), if_neg h]; congr 1
  | .un op a, bd, m, k, r, hw, hm => by
    simp only [Tm.wf, Bool.and_eq_true, decide_eq_true_eq] at hw
    simp only [Tm.enc, List.cons_append, endK, arI_1 (show 18 ≤ op ∧ op ≤ 29 by omega), List.length_cons]
    rw [if_neg (by omega), if_neg (by omega), show m + (1 - 1) = m by omega, endK_enc nv a bd m (k + 1) r hw.2 hm]
    rw [show k + 1 + a.enc.length = k + (a.enc.length + 1) by omega]
  | .agg op a, bd, m, k, r, hw, hm => by
    simp only [Tm.wf, Bool.and_eq_true, decide_eq_true_eq] at hw
    simp only [Tm.enc, List.cons_append, endK, arI_1 (show 18 ≤ op ∧ op ≤ 29 by omega), List.length_cons]
    rw [if_neg (by omega), if_neg (by omega), show m + (1 - 1) = m by omega, endK_enc nv a true m (k + 1) r hw.2 hm]
    rw [show k + 1 + a.enc.length = k + (a.enc.length + 1) by omega]
  | .bin op a b, bd, m, k, r, hw, hm => by
    simp only [Tm.wf, Bool.and_eq_true, decide_eq_true_eq] at hw
    simp only [Tm.enc, List.cons_append, endK, arI_2 hw.1, List.length_cons, List.append_assoc]
    rw [if_neg (by omega), if_neg (by omega), show m + (2 - 1) = m + 1 by omega, endK_enc nv a bd (m + 1) (k + 1) _ hw.2.1 (by omega), if_neg (by omega), show m + 1 - 1 = m by omega, endK_enc nv b bd m _ r hw.2.2 hm]
    rw [List.length_append, show k + 1 + a.enc.length + b.enc.length = k + (a.enc.length + b.enc.length + 1) by omega]
  | .ite c a b, bd, m, k, r, hw, hm => by
    simp only [Tm.wf, Bool.and_eq_true, decide_eq_true_eq] at hw
    simp only [Tm.enc, List.cons_append, endK, show arI 43 = 3 from rfl, List.length_cons, List.append_assoc]
    rw [if_neg (by omega), if_neg (by omega), show m + (3 - 1) = m + 2 by omega, endK_enc nv c bd (m + 2) (k + 1) _ hw.1 (by omega), if_neg (by omega), show m + 2 - 1 = m + 1 by omega, endK_enc nv a bd (m + 1) _ _ hw.2.1 (by omega), if_neg (by omega), show m + 1 - 1 = m by omega, endK_enc nv b bd m _ r hw.2.2 hm]
    rw [List.length_append, List.length_append, show k + 1 + c.enc.length + a.enc.length + b.enc.length = k + (c.enc.length + (a.enc.length + b.enc.length) + 1) by omega]
theorem endI_enc {nv : Nat} {t : Tm} {bd : Bool} (hw : t.wf nv bd = true) {e post : Lt2} {k : Nat} (h : e.drop k = t.enc ++ post) : endI e k = ((k + t.enc.length : Nat) : Int) := by
  rw [endI, h, endK_enc nv t bd 1 k post hw (by omega), if_pos rfl]

/-! ## the scene -/

def ptoI : Nat → Lt2 → Int → Int
  | _, [], _ => -1
  | k, l :: r, b => if l.1 = b then k else ptoI (k + 1) r b
def backI (g : G) (v i : Nat) : Int := ptoI 0 (gR g.ports (gF (gR g.ports v) i).1.toNat) v
def vBk (g : G) : Nat → Nat → V := fun v _ => .fz (gR g.ports v).length 1 false fun i _ => .int .i64 (backI g v i)
def topI (g : G) : Int := maxL g.ids 0
structure Pg where
  nm : ByteArray
  vs : V
  rs : V
def scCells (p : Pg) (g : G) : List V := [.str p.nm, p.vs, p.rs, .fz g.ids.length 1 false (vI g.ids), .fz g.ports.length 1 false (vP g.ports), .int .i64 (topI g), .fz g.ports.length 1 false (vBk g)]
def scP (p : Pg) (g : G) : V := .fe 1 7 (tab [scCells p g]) 0 0

def factI (g : G) (v : Nat) (port op : Int) : Int :=
  if op = 6 then g.ids.length else if op = 7 then topI g else if op = 8 then gI g.ids v else if op = 9 then (gR g.ports v).length else if op = 10 then truI (decide (v = 0)) else if op = 11 then port
  else if op = 13 then gI g.ids (gF (gR g.ports v) port.toNat).1.toNat else if op = 14 then (gR g.ports (gF (gR g.ports v) port.toNat).1.toNat).length else if op = 15 then truI (decide ((gF (gR g.ports v) port.toNat).1 = 0))
  else if op = 16 then (gF (gR g.ports v) port.toNat).2 else backI g v port.toNat

theorem gI_of_mem {l : List Int} {P : Int → Prop} (h : ∀ a ∈ l, P a) {i : Nat} (hi : i < l.length) : P (gI l i) := h _ (gI_mem hi)
theorem okR_nd {n v : Nat} {r : Lt2} (h : okR n v r = true) {i : Nat} (hi : i < r.length) : 0 ≤ (gF r i).1 ∧ (gF r i).1 < n ∧ (gF r i).1 ≠ v ∧ 1 ≤ (gF r i).2 ∧ (gF r i).2 ≤ 15 := by
  rw [okR, Bool.and_eq_true, List.all_eq_true] at h
  have := h.1 _ (gF_mem hi)
  rwa [okL, decide_eq_true_eq] at this

theorem fact_ok (p : Pg) (g : G) (hg : g.valid = true) (v : Nat) (hv : v < g.ports.length) (port op : Int) (hop : 6 ≤ op ∧ op ≤ 17 ∧ op ≠ 12) (hport : 13 ≤ op → 0 ≤ port ∧ port < (gR g.ports v).length) :
    Ret Tryz.prog 248 [scP p g, .int .i64 op, .int .i64 v, .int .i64 port] (.int .i64 (factI g v port op)) := by
  obtain ⟨f1, f2, f3, f4, f5, f6, f7⟩ := val_facts hg
  have htt := tru_ok true
  have htf := tru_ok false
  refine ret_frz rfl ?_
  refine fn_rule mixed Tryz.func248 rfl hc248 hr248 rfl ?_
  rcases (show op = 6 ∨ op = 7 ∨ op = 8 ∨ op = 9 ∨ op = 10 ∨ op = 11 ∨ 13 ≤ op by omega) with rfl | rfl | rfl | rfl | rfl | rfl | h13
  · repeat' ((conv => whnf); first | (refine Br.tt ?_))
    all_goals (conv => whnf)
    exact VLe.rfl
  · repeat' ((conv => whnf); first | (refine Br.tt ?_) | (refine Br.ff ?_))
    all_goals (conv => whnf)
    exact VLe.rfl
  · repeat' ((conv => whnf); first | (refine Br.tt ?_) | (refine Br.ff ?_) | (refine Ix.nat (by omega) ?_))
    all_goals (conv => whnf)
    exact VLe.rfl
  · repeat' ((conv => whnf); first | (refine Br.tt ?_) | (refine Br.ff ?_) | (refine Ix.nat (by omega) ?_))
    all_goals (conv => whnf)
    exact VLe.rfl
  · repeat' ((conv => whnf); first | (refine Br.tt ?_) | (refine Br.ff ?_) | (refine Br.dec ?_ ?_ <;> intro _ <;> try omega) | (refine (htt _ _).mono ?_; rintro _ _ _ ⟨rfl, rfl, rfl⟩) | (refine (htf _ _).mono ?_; rintro _ _ _ ⟨rfl, rfl, rfl⟩))
    all_goals (conv => whnf)
    · exact VLe.int (by simp [factI]; rw [decide_eq_true (by omega)])
    · exact VLe.int (by simp [factI]; rw [decide_eq_false (by omega)])
  · repeat' ((conv => whnf); first | (refine Br.tt ?_) | (refine Br.ff ?_))
    all_goals (conv => whnf)
    exact VLe.rfl
  · obtain ⟨hp0, hp1⟩ := hport h13
    obtain ⟨k, rfl⟩ : ∃ k : Nat, port = k := ⟨port.toNat, by omega⟩
    have hr := okR_nd (f6 v hv) (i := k) (by omega)
    rcases (show op = 13 ∨ op = 14 ∨ op = 15 ∨ op = 16 ∨ op = 17 by omega) with rfl | rfl | rfl | rfl | rfl
    · repeat' ((conv => whnf); first | (refine Br.tt ?_) | (refine Br.ff ?_) | (refine Ix.nat (by omega) ?_) | (refine Ix.int (by omega) (by omega) ?_))
      all_goals (conv => whnf)
      exact VLe.rfl
    · repeat' ((conv => whnf); first | (refine Br.tt ?_) | (refine Br.ff ?_) | (refine Ix.nat (by omega) ?_) | (refine Ix.int (by omega) (by omega) ?_))
      all_goals (conv => whnf)
      exact VLe.rfl
    · repeat' ((conv => whnf); first | (refine Br.tt ?_) | (refine Br.ff ?_) | (refine Br.dec ?_ ?_ <;> intro _ <;> try omega) | (refine Ix.nat (by omega) ?_) | (refine (htt _ _).mono ?_; rintro _ _ _ ⟨rfl, rfl, rfl⟩) | (refine (htf _ _).mono ?_; rintro _ _ _ ⟨rfl, rfl, rfl⟩))
      all_goals (conv => whnf)
      · exact VLe.int (by simp [factI]; rw [decide_eq_true (by omega)])
      · exact VLe.int (by simp [factI]; rw [decide_eq_false (by omega)])
    · repeat' ((conv => whnf); first | (refine Br.tt ?_) | (refine Br.ff ?_) | (refine Ix.nat (by omega) ?_))
      all_goals (conv => whnf)
      exact VLe.rfl
    · repeat' ((conv => whnf); first | (refine Br.ff ?_) | (refine Ix.nat (by omega) ?_))
      all_goals (conv => whnf)
      exact VLe.rfl

/-! ## values -/

def nbV (g : G) (v : Nat) (port : Int) : Nat := (gF (gR g.ports v) port.toNat).1.toNat
def leafI (g : G) (c : Cf) (v : Nat) (port op arg : Int) : Int :=
  if op = 1 then arg else if op = 2 then 1 else if op = 3 then 0 else if op = 4 then -1 else if op = 5 then gI (gC c v) arg.toNat else if op = 12 then gI (gC c (nbV g v port)) arg.toNat else factI g v port op
def Tm.sem (g : G) (c : Cf) (v : Nat) : Tm → Int → Int
  | .leaf op arg, port => leafI g c v port op arg
  | .un op a, port => unI op (a.sem g c v port)
  | .agg op a, _ => fldI op ((List.range (gR g.ports v).length).map fun i => a.sem g c v (i : Nat))
  | .bin op a b, port => binI op (a.sem g c v port) (b.sem g c v port)
  | .ite q a b, port => if q.sem g c v port ≠ 0 then a.sem g c v port else b.sem g c v port

def wkP (p : Pg) (g : G) (c : Cf) (v : Nat) (e : Lt2) : V := .fe 1 4 (tab [[scP p g, cV c, .int .i64 v, .fz e.length 2 false (vF e)]]) 0 0

/-- a configuration that fits -/
structure Fit (g : G) (nv : Nat) (c : Cf) : Prop where
  len : c.length = g.ports.length
  row : ∀ v, v < c.length → (gC c v).length = nv
  val : ∀ v, v < c.length → ∀ x, x < nv → inR (gI (gC c v) x)

theorem leaf_ok (p : Pg) (g : G) (hg : g.valid = true) {nv : Nat} {c : Cf} (hc : Fit g nv c) (v : Nat) (hv : v < g.ports.length) (e : Lt2) (bd : Bool) (port op arg : Int)
    (hw : (Tm.leaf op arg).wf nv bd = true) (hport : bd = true → 0 ≤ port ∧ port < (gR g.ports v).length) :
    Ret Tryz.prog 240 [wkP p g c v e, .agg [.int .i64 op, .int .i64 arg], .int .i64 port] (.int .i64 (leafI g c v port op arg)) := by
  obtain ⟨f1, f2, f3, f4, f5, f6, f7⟩ := val_facts hg
  simp only [Tm.wf, Bool.and_eq_true, Bool.or_eq_true, decide_eq_true_eq] at hw
  obtain ⟨⟨⟨w1, w2⟩, w3⟩, w4⟩ := hw
  have hcl := hc.len
  have hrow := hc.row
  refine ret_frz rfl ?_
  refine fn_rule mixed Tryz.func240 rfl hc240 hr240 rfl ?_
  rcases (show op = 1 ∨ op = 2 ∨ op = 3 ∨ op = 4 ∨ op = 5 ∨ op = 12 ∨ (6 ≤ op ∧ op ≤ 17 ∧ op ≠ 12) by omega) with rfl | rfl | rfl | rfl | rfl | rfl | h6
  · repeat' ((conv => whnf); first | (refine Br.tt ?_))
    all_goals (conv => whnf)
    exact VLe.rfl
  · repeat' ((conv => whnf); first | (refine Br.tt ?_) | (refine Br.ff ?_))
    all_goals (conv => whnf)
    exact VLe.rfl
  · repeat' ((conv => whnf); first | (refine Br.tt ?_) | (refine Br.ff ?_))
    all_goals (conv => whnf)
    exact VLe.rfl
  · repeat' ((conv => whnf); first | (refine Br.tt ?_) | (refine Br.ff ?_))
    all_goals (conv => whnf)
    exact VLe.rfl
  · have hrow := hrow v (by omega)
    obtain ⟨k, rfl⟩ : ∃ k : Nat, arg = k := ⟨arg.toNat, by omega⟩
    repeat' ((conv => whnf); first | (refine Br.tt ?_) | (refine Br.ff ?_) | (refine Ix.nat (by omega) ?_))
    all_goals (conv => whnf)
    exact VLe.rfl
  · obtain ⟨hp0, hp1⟩ := hport (by rcases w4 with h | h <;> first | exact h | omega)
    obtain ⟨i, rfl⟩ : ∃ k : Nat, port = k := ⟨port.toNat, by omega⟩
    have hr := okR_nd (f6 v hv) (i := i) (by omega)
    obtain ⟨k, rfl⟩ : ∃ k : Nat, arg = k := ⟨arg.toNat, by omega⟩
    have hrow := hrow (gF (gR g.ports v) i).1.toNat (by omega)
    repeat' ((conv => whnf); first | (refine Br.tt ?_) | (refine Br.ff ?_) | (refine Ix.nat (by omega) ?_) | (refine Ix.int (by omega) (by omega) ?_))
    all_goals (conv => whnf)
    exact VLe.rfl
  · have hf := fact_ok p g hg v hv port op h6 (fun h => hport (by rcases w4 with h | h <;> first | exact h | omega))
    have e : leafI g c v port op arg = factI g v port op := by unfold leafI; rw [if_neg (by omega), if_neg (by omega), if_neg (by omega), if_neg (by omega), if_neg (by omega), if_neg (by omega)]
    rw [e]
    repeat' ((conv => whnf); first | (refine Br.dec ?_ ?_ <;> intro _ <;> try omega) | (refine (hf _ _).mono ?_; rintro _ _ _ ⟨rfl, rfl, rfl⟩))
    all_goals (conv => whnf)
    exact VLe.rfl

theorem ptoI_range : ∀ (r : Lt2) (k : Nat) (b : Int), -1 ≤ ptoI k r b ∧ ptoI k r b < (k + r.length : Nat) ∨ ptoI k r b = -1
  | [], k, b => .inr rfl
  | l :: r, k, b => by
    simp only [ptoI]
    split
    · left; simp; omega
    · rcases ptoI_range r (k + 1) b with h | h
      · left; simp at *; omega
      · right; exact h
theorem gR_over {p : List Lt2} {v : Nat} (h : p.length ≤ v) : gR p v = [] := by
  simp only [gR, List.getD, List.getElem?_eq_none h, Option.getD_none]
theorem row_le {g : G} (hg : g.valid = true) (v : Nat) : (gR g.ports v).length ≤ 24 := by
  obtain ⟨f1, f2, f3, f4, f5, f6, f7⟩ := val_facts hg
  by_cases h : v < g.ports.length
  · have := okR_len h (f6 v h); omega
  · rw [gR_over (by omega)]; simp
theorem maxL_of (l : List Int) {a b m : Int} (hm : a ≤ m ∧ m ≤ b) (h : ∀ x ∈ l, x ≤ b) : a ≤ maxL l m ∧ maxL l m ≤ b := ⟨Int.le_trans hm.1 (maxL_ge l m), maxL_le l m b hm.2 h⟩
theorem fact_in {g : G} (hg : g.valid = true) {v : Nat} (hv : v < g.ports.length) {port op : Int} (hop : 6 ≤ op ∧ op ≤ 17 ∧ op ≠ 12) (hp : 11 ≤ op → 0 ≤ port ∧ port < (gR g.ports v).length) : inR (factI g v port op) := by
  obtain ⟨f1, f2, f3, f4, f5, f6, f7⟩ := val_facts hg
  have ht := maxL_of g.ids (a := 0) (b := 255) (m := 0) (by omega) (fun a ha => (f4 a ha).2)
  have hl := row_le hg
  have hi := fun i (h : i < g.ids.length) => f4 _ (gI_mem h)
  have nat : ∀ n : Nat, n ≤ 24 → inR (n : Int) := fun n h => by unfold inR; omega
  have low : ∀ a : Int, 0 ≤ a ∧ a ≤ 255 → inR a := fun n h => by unfold inR; omega
  rcases (show op = 6 ∨ op = 7 ∨ op = 8 ∨ op = 9 ∨ op = 10 ∨ 11 ≤ op by omega) with rfl | rfl | rfl | rfl | rfl | h11
  · exact nat _ f2
  · exact low _ ht
  · exact low _ (hi v (by omega))
  · exact nat _ (hl v)
  · exact tru_in _
  · have hp := hp h11
    have hr := okR_nd (f6 v hv) (i := port.toNat) (by omega)
    have hlv := hl v
    rcases (show op = 11 ∨ op = 13 ∨ op = 14 ∨ op = 15 ∨ op = 16 ∨ op = 17 by omega) with rfl | rfl | rfl | rfl | rfl | rfl
    · exact low port (by omega)
    · exact low _ (hi _ (by omega))
    · exact nat _ (hl _)
    · exact tru_in _
    · exact low (gF (gR g.ports v) port.toNat).2 (by omega)
    · have hb := ptoI_range (gR g.ports (gF (gR g.ports v) port.toNat).1.toNat) 0 v
      have hbl := hl (gF (gR g.ports v) port.toNat).1.toNat
      show inR (ptoI 0 (gR g.ports (gF (gR g.ports v) port.toNat).1.toNat) v)
      unfold inR; omega

theorem leaf_in {g : G} (hg : g.valid = true) {nv : Nat} {c : Cf} (hc : Fit g nv c) {v : Nat} (hv : v < g.ports.length) {bd : Bool} {port op arg : Int}
    (hw : (Tm.leaf op arg).wf nv bd = true) (hport : bd = true → 0 ≤ port ∧ port < (gR g.ports v).length) : inR (leafI g c v port op arg) := by
  obtain ⟨f1, f2, f3, f4, f5, f6, f7⟩ := val_facts hg
  simp only [Tm.wf, Bool.and_eq_true, Bool.or_eq_true, decide_eq_true_eq] at hw
  obtain ⟨⟨⟨w1, w2⟩, w3⟩, w4⟩ := hw
  have hcl := hc.len
  have hp : 11 ≤ op → 0 ≤ port ∧ port < (gR g.ports v).length := fun h => hport (by rcases w4 with h | h <;> first | exact h | omega)
  unfold leafI
  split
  · unfold inR; omega
  split
  · unfold inR; omega
  split
  · unfold inR; omega
  split
  · unfold inR; omega
  split
  · exact hc.val v (by omega) _ (by omega)
  split
  · have hp := hp (by omega)
    have hr := okR_nd (f6 v hv) (i := port.toNat) (by omega)
    exact hc.val _ (by unfold nbV; omega) _ (by omega)
  · exact fact_in hg hv (by omega) hp

theorem minI_in : ∀ (l : List Int) (m : Int), inR m → (∀ a ∈ l, inR a) → inR (minI l m)
  | [], m, h, _ => h
  | a :: r, m, h, hl => minI_in r _ (by split; (first | exact hl a (by simp) | exact h); (first | exact hl a (by simp) | exact h)) fun b hb => hl b (by simp [hb])
theorem twoL_in : ∀ (l : List Int) (p : Int × Int), inR p.1 → inR p.2 → (∀ a ∈ l, inR a) → inR (twoL l p).1 ∧ inR (twoL l p).2
  | [], p, h, h2, _ => ⟨h, h2⟩
  | a :: r, p, h, h2, hl => by
    have ha := hl a (by simp)
    refine twoL_in r _ ?_ ?_ fun b hb => hl b (by simp [hb])
    · unfold two; split
      · exact ha
      · exact h
    · unfold two; split
      · exact h
      · simp only; split
        · exact ha
        · exact h2
theorem fold_in {op : Int} {l : List Int} (hl : l.length ≤ 1000) (h : ∀ a ∈ l, inR a) : inR (fldI op l) := by
  have hc := cntI_le l
  have hi := idxI_range l 0
  have ht := twoL_in l (-1073741824, -1073741824) (by unfold inR; omega) (by unfold inR; omega) h
  have hm := minI_in l 1073741824 (by unfold inR; omega) h
  unfold fldI
  repeat' split
  all_goals first | exact tru_in _ | exact sat_in _ | exact hm | exact ht.1 | exact ht.2 | skip
  · unfold inR; omega
  · unfold inR; omega
  · by_cases k : 0 < l.length
    · exact gI_of_mem h k
    · have : l = [] := List.length_eq_zero_iff.1 (by omega)
      subst this
      simp [gI, inR]

theorem sem_in {g : G} (hg : g.valid = true) {nv : Nat} {c : Cf} (hc : Fit g nv c) {v : Nat} (hv : v < g.ports.length) :
    ∀ (t : Tm) (bd : Bool) (port : Int), t.wf nv bd = true → (bd = true → 0 ≤ port ∧ port < (gR g.ports v).length) → inR (t.sem g c v port)
  | .leaf op arg, bd, port, hw, hp => leaf_in hg hc hv hw hp
  | .un op a, bd, port, hw, hp => by
    simp only [Tm.wf, Bool.and_eq_true, decide_eq_true_eq] at hw
    exact un_in (sem_in hg hc hv a bd port hw.2 hp)
  | .agg op a, bd, port, hw, hp => by
    simp only [Tm.wf, Bool.and_eq_true, decide_eq_true_eq] at hw
    refine fold_in (by simpa using Nat.le_trans (row_le hg v) (by omega)) fun x hx => ?_
    obtain ⟨i, hi, rfl⟩ := List.mem_map.1 hx
    rw [List.mem_range] at hi
    exact sem_in hg hc hv a true i hw.2 fun _ => by omega
  | .bin op a b, bd, port, hw, hp => bin_in _ _ _
  | .ite q a b, bd, port, hw, hp => by
    simp only [Tm.wf, Bool.and_eq_true, decide_eq_true_eq] at hw
    simp only [Tm.sem]
    split
    · exact sem_in hg hc hv a bd port hw.2.1 hp
    · exact sem_in hg hc hv b bd port hw.2.2 hp

/-- what is known of the expression at a place -/
def ValOk (p : Pg) (g : G) (nv : Nat) (c : Cf) (v : Nat) (e : Lt2) (t : Tm) : Prop :=
  ∀ (bd : Bool) (port : Int) (k : Nat) (post : Lt2), e.drop k = t.enc ++ post → t.wf nv bd = true → (bd = true → 0 ≤ port ∧ port < (gR g.ports v).length) →
    Ret Tryz.prog 228 [wkP p g c v e, .int .i64 k, .int .i64 port] (.tup [.int .i64 (t.sem g c v port), .int .i64 ((k + t.enc.length : Nat) : Int)])

theorem drop_next {e post : Lt2} {x : Int × Int} {k : Nat} (h : e.drop k = x :: post) : k < e.length ∧ gF e k = x ∧ e.drop (k + 1) = post := by
  have hl : k < e.length := by
    rcases Nat.lt_or_ge k e.length with h1 | h1
    · exact h1
    · rw [List.drop_of_length_le h1] at h; cases h
  rw [gF_drop e k hl] at h
  simp only [List.cons.injEq] at h
  exact ⟨hl, h.1, h.2⟩
theorem drop_app {e a post : Lt2} {k : Nat} (h : e.drop k = a ++ post) : e.drop (k + a.length) = post := by
  rw [← List.drop_drop, h, List.drop_left]
theorem vle_setI (L : List Int) (i u j : Nat) (hi : i < L.length) (hj : j < 1) : VLe (fset (vI (L.take i)) i 0 [.int .i64 (gI L i)] u j) (vI (L.take (i + 1)) u j) := by
  obtain rfl : j = 0 := by omega
  apply VLe.of_eq
  rw [gI_take L i hi]
  have hl : (L.take i).length = i := by rw [List.length_take]; omega
  by_cases h : u = i
  · subst h
    simp only [fset, vI]
    rw [if_pos (by simp)]
    simp [gI, List.getElem?_append_right, hl]
  · simp only [fset, vI]
    rw [if_neg (by simp [h])]
    congr 1
    simp only [gI, List.getD]
    by_cases h2 : u < i
    · rw [List.getElem?_append_left (by omega)]
    · rw [List.getElem?_eq_none (by omega), List.getElem?_eq_none (by simp; omega)]

set_option maxHeartbeats 8000000 in
theorem agg_ok (p : Pg) (g : G) (hg : g.valid = true) {nv : Nat} {c : Cf} (hc : Fit g nv c) (v : Nat) (hv : v < g.ports.length) (e : Lt2) (he : e.length ≤ 100000) (op : Int) (a : Tm) (ih : ValOk p g nv c v e a)
    (k : Nat) (post : Lt2) (hd : e.drop k = (Tm.agg op a).enc ++ post) (hw : (Tm.agg op a).wf nv true = true) :
    Ret Tryz.prog 242 [wkP p g c v e, .int .i64 op, .int .i64 k] (.tup [.int .i64 ((Tm.agg op a).sem g c v 0), .int .i64 ((k + (Tm.agg op a).enc.length : Nat) : Int)]) := by
  obtain ⟨f1, f2, f3, f4, f5, f6, f7⟩ := val_facts hg
  have hend := end_ok e k he
  rw [endI_enc hw hd] at hend
  simp only [Tm.enc, List.cons_append] at hd
  obtain ⟨hk, hx, hd1⟩ := drop_next hd
  have hend := hend hk
  simp only [Tm.wf, Bool.and_eq_true, decide_eq_true_eq] at hw
  have hrl := row_le hg v
  generalize hL : (List.range (gR g.ports v).length).map (fun i => a.sem g c v (i : Nat)) = L
  have hLl : L.length = (gR g.ports v).length := by rw [← hL]; simp
  have hLin : ∀ x ∈ L, inR x := by
    rw [← hL]
    intro x hx
    obtain ⟨i, hi, rfl⟩ := List.mem_map.1 hx
    rw [List.mem_range] at hi
    exact sem_in hg hc hv a true i hw.2 fun _ => by omega
  have hLi : ∀ i, i < (gR g.ports v).length → gI L i = a.sem g c v (i : Nat) := fun i hi => by
    rw [← hL]; simp [gI, hi]
  have hfold := fold_ok op L (by omega) hLin hw.1
  rw [hLl] at hfold
  have es : (Tm.agg op a).sem g c v 0 = fldI op L := by simp only [Tm.sem, hL]
  rw [es]
  have el : (Tm.agg op a).enc.length = a.enc.length + 1 := by simp [Tm.enc]
  rw [el] at hend ⊢
  refine ret_frz rfl ?_
  refine fn_rule mixed Tryz.func242 rfl hc242 hr242 rfl ?_
  repeat' ((conv => whnf); first | (refine Ix.nat (by omega) ?_))
  all_goals (conv => whnf)
  refine loop_w mixed [0, 1, 2, 8, 9, 26] [] [1, 2, 3, 4, 5, 6, 7, 8, 9, 10, 11, 12, 13, 14, 15, 16, 17, 18, 19, 20, 21, 22, 23, 24, 25, 26, 27, 28, 29] [0] (fun i : Nat => [(7, .int .i64 (if i = 0 then 0 else ((k + (a.enc.length + 1) : Nat) : Int))), (27, .int .i64 i)]) (fun i => [(0, .vec 24 1 (vI (L.take i)))])
    (fun n i => n = L.length - i ∧ i ≤ L.length) L.length 0 ⟨rfl, Nat.zero_le _⟩ rfl (fun _ => rfl) ?_ ?_
  · refine weak_by (fun _ _ => [(0, some 0)]) ?_ ?_ rfl
    · repeat' (first | exact True.intro | exact VRen.oel rfl rfl | (refine ⟨⟨_, rfl, ?_⟩, ?_⟩) | exact VRen.kf rfl)
    · repeat' (first | exact VLe.of_eq (by simp [vI, gI]) | exact True.intro | (refine ⟨⟨_, rfl, ?_⟩, ?_⟩) | (refine ⟨Nat.le_refl _, rfl, fun i j hi hj => ?_⟩))
  rintro n i ⟨hn, hi⟩
  by_cases hil : i < (gR g.ports v).length
  · have hval := ih true (i : Nat) (k + 1) post hd1 hw.2 fun _ => by omega
    rw [← hLi i hil] at hval
    rw [show ((k + 1 : Nat) : Int) = (k : Int) + 1 by omega] at hval
    repeat' ((conv => whnf); first | (refine Br.dec ?_ ?_ <;> intro _ <;> try omega) | (refine Ar.i64 (by omega) (by omega) ?_) | (refine Ix.nat (by omega) ?_) | (refine Ltn.mk (by omega) ?_) | (refine (hval _ _).mono ?_; rintro _ _ _ ⟨rfl, rfl, rfl⟩))
    all_goals (conv => whnf)
    refine ⟨L.length - (i + 1), i + 1, by omega, ⟨rfl, by omega⟩, ?_⟩
    have e7 : (if i + 1 = 0 then (0 : Int) else ((k + (a.enc.length + 1) : Nat) : Int)) = ((k + 1 + a.enc.length : Nat) : Int) := by rw [if_neg (by omega)]; omega
    simp only [e7]
    refine weak_by (fun _ _ => [(0, some 0)]) ?_ ?_ rfl
    · repeat' (first | exact True.intro | exact VRen.oel rfl rfl | (refine ⟨⟨_, rfl, ?_⟩, ?_⟩) | exact VRen.kf rfl)
    · repeat' (first | exact vle_setI _ _ _ _ (by omega) hj | exact True.intro | (refine ⟨⟨_, rfl, ?_⟩, ?_⟩) | (refine ⟨Nat.le_refl _, rfl, fun i j hi hj => ?_⟩))
  · have e : i = L.length := by omega
    subst e
    rw [List.take_of_length_le (Nat.le_refl _)]
    rw [hLl]
    by_cases h0 : (gR g.ports v).length = 0
    · rw [if_pos h0]
      repeat' ((conv => whnf); first | (refine Br.dec ?_ ?_ <;> intro _ <;> try omega) | (refine Bd.nat (by omega) ?_) | (refine (hend _ _).mono ?_; rintro _ _ _ ⟨rfl, rfl, rfl⟩) | (refine (hfold _ _).mono ?_; rintro _ _ _ ⟨rfl, rfl, rfl⟩))
      all_goals (conv => whnf)
      exact VLe.rfl
    · rw [if_neg h0]
      repeat' ((conv => whnf); first | (refine Br.dec ?_ ?_ <;> intro _ <;> try omega) | (refine Bd.nat (by omega) ?_) | (refine (hfold _ _).mono ?_; rintro _ _ _ ⟨rfl, rfl, rfl⟩))
      all_goals (conv => whnf)
      exact VLe.rfl

set_option maxHeartbeats 8000000 in
theorem value_ok (p : Pg) (g : G) (hg : g.valid = true) {nv : Nat} {c : Cf} (hc : Fit g nv c) (v : Nat) (hv : v < g.ports.length) (e : Lt2) (he : e.length ≤ 100000) : ∀ t : Tm, ValOk p g nv c v e t := by
  intro t
  induction t with
  | leaf op arg =>
    intro bd port k post hd hw hp
    simp only [Tm.enc, List.cons_append, List.nil_append] at hd
    obtain ⟨hk, hx, hd1⟩ := drop_next hd
    have hl := leaf_ok p g hg hc v hv e bd port op arg hw hp
    simp only [Tm.wf, Bool.and_eq_true, Bool.or_eq_true, decide_eq_true_eq] at hw
    have hx1 : (gF e k).1 = op := by rw [hx]
    have hx2 : (gF e k).2 = arg := by rw [hx]
    rw [← hx1, ← hx2] at hl
    refine ret_frz rfl ?_
    refine fn_rule mixed Tryz.func228 rfl hc228 hr228 rfl ?_
    repeat' ((conv => whnf); first | (refine Br.dec ?_ ?_ <;> intro _ <;> try omega) | (refine Ar.i64 (by omega) (by omega) ?_) | (refine Ix.nat (by omega) ?_) | (refine (hl _ _).mono ?_; rintro _ _ _ ⟨rfl, rfl, rfl⟩))
    all_goals (conv => whnf)
    rw [hx1, hx2]
    repeat' (first | exact VLe.rfl)
  | un op a ih =>
    intro bd port k post hd hw hp
    simp only [Tm.enc, List.cons_append] at hd
    obtain ⟨hk, hx, hd1⟩ := drop_next hd
    simp only [Tm.wf, Bool.and_eq_true, decide_eq_true_eq] at hw
    have hx1 : (gF e k).1 = op := by rw [hx]
    have hv1 := ih bd port (k + 1) post hd1 hw.2 hp
    have hun := unary_ok op (a.sem g c v port) (sem_in hg hc hv a bd port hw.2 hp)
    rw [← hx1] at hun
    rw [show ((k + 1 : Nat) : Int) = (k : Int) + 1 by omega] at hv1
    refine ret_frz rfl ?_
    refine fn_rule mixed Tryz.func228 rfl hc228 hr228 rfl ?_
    repeat' ((conv => whnf); first | (refine Br.dec ?_ ?_ <;> intro _ <;> try omega) | (refine Ar.i64 (by omega) (by omega) ?_) | (refine Ix.nat (by omega) ?_) | (refine (hv1 _ _).mono ?_; rintro _ _ _ ⟨rfl, rfl, rfl⟩) | (refine (hun _ _).mono ?_; rintro _ _ _ ⟨rfl, rfl, rfl⟩))
    all_goals (conv => whnf)
    rw [hx1]
    repeat' (first | exact VLe.int (by simp only [Tm.enc, List.length_cons]; omega) | exact True.intro | exact VLe.rfl | (refine VLe.tup ?_) | (refine And.intro ?_ ?_))
  | agg op a ih =>
    intro bd port k post hd hw hp
    have hag := agg_ok p g hg hc v hv e he op a ih k post hd (by simpa [Tm.wf] using hw)
    simp only [Tm.enc, List.cons_append] at hd
    obtain ⟨hk, hx, hd1⟩ := drop_next hd
    simp only [Tm.wf, Bool.and_eq_true, decide_eq_true_eq] at hw
    have hx1 : (gF e k).1 = op := by rw [hx]
    rw [← hx1] at hag
    refine ret_frz rfl ?_
    refine fn_rule mixed Tryz.func228 rfl hc228 hr228 rfl ?_
    repeat' ((conv => whnf); first | (refine Br.dec ?_ ?_ <;> intro _ <;> try omega) | (refine Ix.nat (by omega) ?_) | (refine (hag _ _).mono ?_; rintro _ _ _ ⟨rfl, rfl, rfl⟩))
    all_goals (conv => whnf)
    rw [hx1]
    exact VLe.rfl
  | bin op a b iha ihb =>
    intro bd port k post hd hw hp
    simp only [Tm.enc, List.cons_append, List.append_assoc] at hd
    obtain ⟨hk, hx, hd1⟩ := drop_next hd
    simp only [Tm.wf, Bool.and_eq_true, decide_eq_true_eq] at hw
    have hx1 : (gF e k).1 = op := by rw [hx]
    have hv1 := iha bd port (k + 1) _ hd1 hw.2.1 hp
    have hv2 := ihb bd port (k + 1 + a.enc.length) post (drop_app hd1) hw.2.2 hp
    have hbin := binary_ok op (a.sem g c v port) (b.sem g c v port) (sem_in hg hc hv a bd port hw.2.1 hp) (sem_in hg hc hv b bd port hw.2.2 hp) hw.1
    rw [← hx1] at hbin
    rw [show ((k + 1 : Nat) : Int) = (k : Int) + 1 by omega] at hv1
    refine ret_frz rfl ?_
    refine fn_rule mixed Tryz.func228 rfl hc228 hr228 rfl ?_
    repeat' ((conv => whnf); first | (refine Br.dec ?_ ?_ <;> intro _ <;> try omega) | (refine Ar.i64 (by omega) (by omega) ?_) | (refine Ix.nat (by omega) ?_) | (refine (hv1 _ _).mono ?_; rintro _ _ _ ⟨rfl, rfl, rfl⟩) | (refine (hv2 _ _).mono ?_; rintro _ _ _ ⟨rfl, rfl, rfl⟩) | (refine (hbin _ _).mono ?_; rintro _ _ _ ⟨rfl, rfl, rfl⟩))
    all_goals (conv => whnf)
    rw [hx1]
    repeat' (first | exact VLe.int (by simp only [Tm.enc, List.length_cons, List.length_append]; omega) | exact True.intro | exact VLe.rfl | (refine VLe.tup ?_) | (refine And.intro ?_ ?_))
  | ite q a b ihq iha ihb =>
    intro bd port k post hd hw hp
    simp only [Tm.enc, List.cons_append, List.append_assoc] at hd
    obtain ⟨hk, hx, hd1⟩ := drop_next hd
    simp only [Tm.wf, Bool.and_eq_true, decide_eq_true_eq] at hw
    have hx1 : (gF e k).1 = 43 := by rw [hx]
    have hv1 := ihq bd port (k + 1) _ hd1 hw.1 hp
    have hv2 := iha bd port (k + 1 + q.enc.length) _ (drop_app hd1) hw.2.1 hp
    have hv3 := ihb bd port (k + 1 + q.enc.length + a.enc.length) post (drop_app (drop_app hd1)) hw.2.2 hp
    rw [show ((k + 1 : Nat) : Int) = (k : Int) + 1 by omega] at hv1
    refine ret_frz rfl ?_
    refine fn_rule mixed Tryz.func228 rfl hc228 hr228 rfl ?_
    repeat' ((conv => whnf); first | (refine Br.dec ?_ ?_ <;> intro _ <;> try omega) | (refine Br.bne ?_ ?_ <;> intro _ <;> try omega) | (refine Ar.i64 (by omega) (by omega) ?_) | (refine Ix.nat (by omega) ?_) | (refine (hv1 _ _).mono ?_; rintro _ _ _ ⟨rfl, rfl, rfl⟩) | (refine (hv2 _ _).mono ?_; rintro _ _ _ ⟨rfl, rfl, rfl⟩) | (refine (hv3 _ _).mono ?_; rintro _ _ _ ⟨rfl, rfl, rfl⟩))
    all_goals (conv => whnf)
    · simp only [Tm.sem]
      rw [if_pos (by assumption)]
      repeat' (first | exact VLe.int (by simp only [Tm.enc, List.length_cons, List.length_append]; omega) | exact True.intro | exact VLe.rfl | (refine VLe.tup ?_) | (refine And.intro ?_ ?_))
    · rename_i hz
      simp only [Tm.sem]
      rw [if_neg (fun h => h hz)]
      repeat' (first | exact VLe.int (by simp only [Tm.enc, List.length_cons, List.length_append]; omega) | exact True.intro | exact VLe.rfl | (refine VLe.tup ?_) | (refine And.intro ?_ ?_))

theorem Value_ok (p : Pg) (g : G) (hg : g.valid = true) {nv : Nat} {c : Cf} (hc : Fit g nv c) (v : Nat) (hv : v < g.ports.length) (t : Tm) (ht : t.enc.length ≤ 100000) (hw : t.wf nv false = true) :
    Ret Tryz.prog 202 [scP p g, cV c, .int .i64 v, .fz t.enc.length 2 false (vF t.enc)] (.int .i64 (t.sem g c v (-1))) := by
  have h := value_ok p g hg hc v hv t.enc ht t false (-1) 0 [] (by simp) hw (by simp)
  refine ret_frz rfl ?_
  refine fn_rule mixed Tryz.func202 rfl hc202 hr202 rfl ?_
  repeat' ((conv => whnf); first | (refine call_lend h rfl ⟨VLe.rfl, VLe.rfl, VLe.rfl, True.intro⟩ ?_))
  all_goals (conv => whnf)
  exact VLe.rfl
end Go.Proofs.YtcnpplcfabdoaaaGreat

namespace Go.Proofs.YtcnpplcfabdoaaaGreat
open Go.Eng
set_option maxRecDepth 100000
set_option linter.unusedVariables false

/-! ## programs -/

structure Rl where
  nm : ByteArray
  gd : Tm
  sets : List (Int × Tm)
instance : Inhabited Tm := ⟨.leaf 2 0⟩
instance : Inhabited Rl := ⟨⟨ByteArray.mk #[], default, []⟩⟩
def vT (t : Tm) : V := .fz t.enc.length 2 false (vF t.enc)
def gS (l : List (Int × Tm)) (i : Nat) : Int × Tm := l.getD i default
def vS (l : List (Int × Tm)) : Nat → Nat → V := fun i j => match j with
  | 0 => .int .i64 (gS l i).1
  | _ => vT (gS l i).2
def gRl (l : List Rl) (i : Nat) : Rl := l.getD i default
def vRl (l : List Rl) : Nat → Nat → V := fun i j => match j with
  | 0 => .str (gRl l i).nm
  | 1 => vT (gRl l i).gd
  | _ => .fz (gRl l i).sets.length 2 false (vS (gRl l i).sets)
structure Pr where
  nm : ByteArray
  vars : List Vr
  rules : List Rl
def Pr.pg (p : Pr) : Pg := ⟨p.nm, .fz p.vars.length 6 false (vV p.vars), .fz p.rules.length 3 false (vRl p.rules)⟩
def Pr.v (p : Pr) : V := .agg [.str p.nm, p.pg.vs, p.pg.rs]

structure VarOk (x : Vr) : Prop where
  kind : x.kind = 1 ∨ x.kind = 2 ∨ x.kind = 3
  lo : 0 ≤ x.lo ∧ x.lo ≤ 1000
  hi : 0 ≤ x.hi ∧ x.hi ≤ 1000
  pn : 0 ≤ x.pn ∧ x.pn ≤ 64
  pid : 0 ≤ x.pid ∧ x.pid ≤ 4
  fit : x.lo ≤ x.hi + x.pn
def Tm.okB (nv : Nat) (t : Tm) : Bool := t.wf nv false && decide (t.enc.length ≤ 100000)
structure PrOk (p : Pr) : Prop where
  vlen : p.vars.length ≤ 1000
  var : ∀ i, i < p.vars.length → VarOk (gV p.vars i)
  rlen : p.rules.length ≤ 1000
  gd : ∀ i, i < p.rules.length → (gRl p.rules i).gd.okB p.vars.length = true
  slen : ∀ i, i < p.rules.length → (gRl p.rules i).sets.length ≤ 1000
  set : ∀ i, i < p.rules.length → ∀ j, j < (gRl p.rules i).sets.length → 0 ≤ (gS (gRl p.rules i).sets j).1 ∧ (gS (gRl p.rules i).sets j).1 < p.vars.length ∧ (gS (gRl p.rules i).sets j).2.okB p.vars.length = true
  types : Ret Tryz.prog 196 [p.v] (.bool true)

/-! ## ranges -/

theorem slmax_ok (l : List Int) (h0 : 0 < l.length) (hl : l.length ≤ 1000) (hp : ∀ a ∈ l, 0 ≤ a) : Ret Tryz.prog 199 [.fz l.length 1 false (vI l)] (.int .i64 (maxL l 0)) := by
  refine ret_frz rfl ?_
  refine fn_rule mixed Tryz.func199 rfl hc199 hr199 rfl ?_
  repeat' ((conv => whnf); first | (refine Br.dec ?_ ?_ <;> intro _ <;> try omega) | (refine Ix.nat (by omega) ?_))
  all_goals (conv => whnf)
  have g0 := gI_of_mem (P := fun a => 0 ≤ a) hp h0
  refine loop_r mixed [0] (fun i : Nat => [(3, .int .i64 (maxL (l.take (i + 1)) 0)), (4, .int .i64 ((i : Int) + 1))]) (fun m i => m = l.length - i ∧ i + 1 ≤ l.length) l.length 0 ⟨rfl, by omega⟩ ?_ ?_
  · have e : maxL (l.take (0 + 1)) 0 = gI l 0 := by
      rw [gI_take l 0 h0]
      simp only [List.take_zero, List.nil_append, maxL]
      split <;> omega
    refine weak_by (fun _ _ => []) ?_ ?_ rfl
    · repeat' (first | exact VRen.int e.symm | exact True.intro | (refine ⟨⟨_, rfl, ?_⟩, ?_⟩) | exact VRen.kf rfl)
    · repeat' (first | exact True.intro)
  rintro m i ⟨hm, hi⟩
  repeat' ((conv => whnf); first | (refine Ix.mk (i + 1) (by omega) (by omega) ?_) | (refine Br.dec ?_ ?_ <;> intro _ <;> try omega) | (refine Ar.i64 (by omega) (by omega) ?_) | (refine Sv.mk _ rfl ?_))
  all_goals (conv => whnf)
  · refine ⟨l.length - (i + 1), i + 1, by omega, ⟨rfl, by omega⟩, ?_⟩
    have e : maxL (l.take (i + 1 + 1)) 0 = if gI l (i + 1) > maxL (l.take (i + 1)) 0 then gI l (i + 1) else maxL (l.take (i + 1)) 0 := by
      rw [gI_take l (i + 1) (by omega), maxL_snoc]
    simp only [e]
    refine weak_by (fun _ _ => []) ?_ ?_ rfl
    · repeat' (first | exact VRen.int (by omega) | exact True.intro | (refine ⟨⟨_, rfl, ?_⟩, ?_⟩) | exact VRen.kf rfl)
    · repeat' (first | exact True.intro)
  · rw [List.take_of_length_le (by omega)]
    exact VLe.rfl

def vrV (x : Vr) : V := .agg [.str x.name, .int .i64 x.kind, .int .i64 x.lo, .int .i64 x.hi, .int .i64 x.pn, .int .i64 x.pid]
/-- the least and the greatest value of a variable at a node -/
def bnd (g : G) (x : Vr) (v : Nat) : Int × Int := if x.kind = 1 then (x.lo, x.hi + x.pn * g.ids.length + x.pid * topI g) else if x.kind = 2 then (0, 1) else (-1, ((gR g.ports v).length : Int) - 1)

theorem top_in {g : G} (hg : g.valid = true) : 0 ≤ topI g ∧ topI g ≤ 255 := by
  obtain ⟨f1, f2, f3, f4, f5, f6, f7⟩ := val_facts hg
  exact maxL_of g.ids (a := 0) (b := 255) (m := 0) (by omega) (fun a ha => (f4 a ha).2)
theorem mul_nn {a b A B : Int} (h : 0 ≤ a ∧ a ≤ A) (h' : 0 ≤ b ∧ b ≤ B) : 0 ≤ a * b ∧ a * b ≤ A * B :=
  ⟨Int.mul_nonneg h.1 h'.1, Int.mul_le_mul h.2 h'.2 h'.1 (by omega)⟩

set_option maxHeartbeats 4000000 in
theorem bnd1_ok (g : G) (hg : g.valid = true) (x : Vr) (hx : VarOk x) (v : Nat) : Ret Tryz.prog 198 [vrV x, g.v, .int .i64 v] (.tup [.int .i64 x.lo, .int .i64 (x.hi + x.pn * g.ids.length + x.pid * topI g)]) := by
  obtain ⟨f1, f2, f3, f4, f5, f6, f7⟩ := val_facts hg
  have ht := top_in hg
  obtain ⟨_, h1, h2, h3, h4, _⟩ := hx
  have m1 := mul_nn h3 (show 0 ≤ (g.ids.length : Int) ∧ (g.ids.length : Int) ≤ 24 by omega)
  have m2 := mul_nn h4 ht
  have hmax := slmax_ok g.ids (by omega) (by omega) (fun a ha => (f4 a ha).1)
  change Ret _ _ _ (.int .i64 (topI g)) at hmax
  generalize topI g = T at *
  generalize hp1 : x.pn * (g.ids.length : Int) = P1 at *
  generalize hp2 : x.pid * T = P2 at *
  refine ret_frz rfl ?_
  refine fn_rule mixed Tryz.func198 rfl hc198 hr198 rfl ?_
  repeat' ((conv => whnf); first | (refine Ar.mk P1 (by rw [hp1]; exact (wrap_i64 (by omega) (by omega)).symm) ?_) | (refine Ar.mk P2 (by rw [hp2]; exact (wrap_i64 (by omega) (by omega)).symm) ?_) | (refine Ar.i64 (by omega) (by omega) ?_) | (refine (hmax _ _).mono ?_; rintro _ _ _ ⟨rfl, rfl, rfl⟩) | (refine And.intro rfl ?_))
  all_goals (conv => whnf)
  repeat' (first | exact VLe.rfl)
theorem bnd2_ok (g : G) (x : Vr) (v : Nat) : Ret Tryz.prog 200 [vrV x, g.v, .int .i64 v] (.tup [.int .i64 0, .int .i64 1]) := by
  refine ret_frz rfl ?_
  refine fn_rule mixed Tryz.func200 rfl hc200 hr200 rfl ?_
  repeat' ((conv => whnf); first | fail)
  all_goals (conv => whnf)
  repeat' (first | exact VLe.rfl)
theorem bnd3_ok (g : G) (hg : g.valid = true) (x : Vr) (v : Nat) (hv : v < g.ports.length) : Ret Tryz.prog 201 [vrV x, g.v, .int .i64 v] (.tup [.int .i64 (-1), .int .i64 (((gR g.ports v).length : Int) - 1)]) := by
  have hr := row_le hg v
  refine ret_frz rfl ?_
  refine fn_rule mixed Tryz.func201 rfl hc201 hr201 rfl ?_
  repeat' ((conv => whnf); first | (refine Ar.i64 (by omega) (by omega) ?_) | (refine Ix.nat (by omega) ?_) | (refine And.intro rfl ?_))
  all_goals (conv => whnf)
  repeat' (first | exact VLe.rfl)
theorem bnd_ok (g : G) (hg : g.valid = true) (x : Vr) (hx : VarOk x) (v : Nat) (hv : v < g.ports.length) : Ret Tryz.prog 176 [vrV x, g.v, .int .i64 v] (.tup [.int .i64 (bnd g x v).1, .int .i64 (bnd g x v).2]) := by
  have b1 := bnd1_ok g hg x hx v
  have b2 := bnd2_ok g x v
  have b3 := bnd3_ok g hg x v hv
  refine ret_frz rfl ?_
  refine fn_rule mixed Tryz.func176 rfl hc176 hr176 rfl ?_
  rcases hx.kind with hk | hk | hk
  · have e : bnd g x v = (x.lo, x.hi + x.pn * g.ids.length + x.pid * topI g) := by rw [bnd, if_pos hk]
    rw [e]
    repeat' ((conv => whnf); first | (refine loop_fuel mixed 5 ?_) | (refine Chk.mk (by kernel_rfl) ?_) | (refine Br.tt ?_) | (refine Br.dec ?_ ?_ <;> intro _ <;> try omega) | (refine Ix.mk 0 rfl (by omega) ?_) | (refine (b1 _ _).mono ?_; rintro _ _ _ ⟨rfl, rfl, rfl⟩))
    all_goals (conv => whnf)
    repeat' (first | exact VLe.rfl)
  · have e : bnd g x v = (0, 1) := by rw [bnd, if_neg (by omega), if_pos hk]
    rw [e]
    repeat' ((conv => whnf); first | (refine loop_fuel mixed 5 ?_) | (refine Chk.mk (by kernel_rfl) ?_) | (refine Br.tt ?_) | (refine Br.dec ?_ ?_ <;> intro _ <;> try omega) | (refine Ar.i64 (by omega) (by omega) ?_) | (refine Ix.mk 0 rfl (by omega) ?_) | (refine Ix.mk 1 rfl (by omega) ?_) | (refine (b2 _ _).mono ?_; rintro _ _ _ ⟨rfl, rfl, rfl⟩))
    all_goals (conv => whnf)
    repeat' (first | exact VLe.rfl)
  · have e : bnd g x v = (-1, ((gR g.ports v).length : Int) - 1) := by rw [bnd, if_neg (by omega), if_neg (by omega)]
    rw [e]
    repeat' ((conv => whnf); first | (refine loop_fuel mixed 5 ?_) | (refine Chk.mk (by kernel_rfl) ?_) | (refine Br.tt ?_) | (refine Br.dec ?_ ?_ <;> intro _ <;> try omega) | (refine Ar.i64 (by omega) (by omega) ?_) | (refine Ix.mk 0 rfl (by omega) ?_) | (refine Ix.mk 1 rfl (by omega) ?_) | (refine Ix.int (by omega) (by omega) ?_) | (refine (b3 _ _).mono ?_; rintro _ _ _ ⟨rfl, rfl, rfl⟩))
    all_goals (conv => whnf)
    repeat' (first | exact VLe.rfl)

theorem bnd_in {g : G} (hg : g.valid = true) {x : Vr} (hx : VarOk x) {v : Nat} (hv : v < g.ports.length) : -1 ≤ (bnd g x v).1 ∧ (bnd g x v).1 ≤ 1000 ∧ -1 ≤ (bnd g x v).2 ∧ (bnd g x v).2 ≤ 4000 ∧ (x.kind = 1 → (bnd g x v).1 ≤ (bnd g x v).2) := by
  obtain ⟨f1, f2, f3, f4, f5, f6, f7⟩ := val_facts hg
  have ht := top_in hg
  have hr := row_le hg v
  obtain ⟨_, h1, h2, h3, h4, h5⟩ := hx
  have m1 := mul_nn h3 (show 0 ≤ (g.ids.length : Int) ∧ (g.ids.length : Int) ≤ 24 by omega)
  have m2 := mul_nn h4 ht
  have m3 : x.pn * 1 ≤ x.pn * (g.ids.length : Int) := Int.mul_le_mul_of_nonneg_left (by omega) h3.1
  unfold bnd
  split
  · simp only; omega
  · rename_i hk
    split <;> simp only <;> omega

theorem fits_ok (p : Pr) (hp : PrOk p) (g : G) (hs : g.Small) (hg : g.valid = true) : Ret Tryz.prog 173 [p.v, g.v] (.int .i64 0) := by
  have ht := hp.types
  have hgv := valid_ok g hs
  rw [hg] at hgv
  have hvl := hp.vlen
  obtain ⟨f1, f2, f3, f4, f5, f6, f7⟩ := val_facts hg
  refine ret_frz rfl ?_
  refine fn_rule mixed Tryz.func173 rfl hc173 hr173 rfl ?_
  repeat' ((conv => whnf); first | (refine Br.tt ?_) | (refine (ht _ _).mono ?_; rintro _ _ _ ⟨rfl, rfl, rfl⟩) | (refine (hgv _ _).mono ?_; rintro _ _ _ ⟨rfl, rfl, rfl⟩))
  all_goals (conv => whnf)
  refine loop_r mixed [3, 16, 17] (fun i : Nat => [(18, .int .i64 i)]) (fun m i => m = p.vars.length - i ∧ i ≤ p.vars.length) p.vars.length 0 ⟨rfl, Nat.zero_le _⟩ ?_ ?_
  · refine weak_by (fun _ _ => [(0, some 0), (1, some 1)]) ?_ ?_ rfl
    · repeat' (first | exact True.intro | (refine ⟨⟨_, rfl, ?_⟩, ?_⟩) | exact VRen.kf rfl | exact VRen.loc rfl)
    · repeat' (first | exact True.intro | (refine ⟨⟨_, rfl, ?_⟩, ?_⟩) | exact VRen.kf rfl | (refine And.intro ?_ ?_))
  rintro m i ⟨hm, hi⟩
  by_cases hil : i < p.vars.length
  · have hx := hp.var i hil
    have hb := bnd_ok g hg _ hx 0 (by omega)
    have hbi := bnd_in hg hx (v := 0) (by omega)
    rw [show ((0 : Nat) : Int) = 0 from rfl] at hb
    repeat' ((conv => whnf); first | (refine Br.dec ?_ ?_ <;> intro _ <;> try omega) | (refine Br.bne ?_ ?_ <;> intro _ <;> try omega) | (refine Ar.i64 (by omega) (by omega) ?_) | (refine Ix.nat (by omega) ?_) | (refine (hb _ _).mono ?_; rintro _ _ _ ⟨rfl, rfl, rfl⟩))
    all_goals (conv => whnf)
    all_goals first
      | (exfalso; omega)
      | (refine ⟨p.vars.length - (i + 1), i + 1, by omega, ⟨rfl, by omega⟩, ?_⟩
         refine weak_by (fun _ _ => [(0, some 0), (1, some 1)]) ?_ ?_ rfl
         · repeat' (first | exact True.intro | (refine ⟨⟨_, rfl, ?_⟩, ?_⟩) | exact VRen.kf rfl | exact VRen.loc rfl)
         · repeat' (first | exact True.intro | (refine ⟨⟨_, rfl, ?_⟩, ?_⟩) | exact VRen.kf rfl | (refine And.intro ?_ ?_)))
  · repeat' ((conv => whnf); first | (refine Br.dec ?_ ?_ <;> intro _ <;> try omega))
    all_goals (conv => whnf)
    exact VLe.rfl
end Go.Proofs.YtcnpplcfabdoaaaGreat

namespace Go.Proofs.YtcnpplcfabdoaaaGreat
open Go.Eng
set_option maxRecDepth 100000
set_option linter.unusedVariables false

/-! ## the table of ranges -/

def rowB (p : Pr) (g : G) (v : Nat) : Nat → Nat → V := fun x j => match j with
  | 0 => .int .i64 (bnd g (gV p.vars x) v).1
  | _ => .int .i64 (bnd g (gV p.vars x) v).2
def tbl (p : Pr) (g : G) : Nat → Nat → V := fun v _ => .fz p.vars.length 2 false (rowB p g v)
def tblV (p : Pr) (g : G) : V := .fz g.ids.length 1 false (tbl p g)

def opn (v n k : Nat) : List (Nat × Nat) := if v < n then [(v, k)] else []
def lenT (m v : Nat) : Nat → Nat := fun i => if i < v then m else 0
def rowX (p : Pr) (g : G) (v x : Nat) : Nat → Nat → V := fun i j => if i < x then rowB p g v i j else .int .i64 0
theorem rowX_succ (p : Pr) (g : G) (v x i j : Nat) (hj : j < 2) : VLe (fset (fset (rowX p g v x) x 0 [.int .i64 (bnd g (gV p.vars x) v).1]) x 1 [.int .i64 (bnd g (gV p.vars x) v).2] i j) (rowX p g v (x + 1) i j) := by
  apply VLe.of_eq
  by_cases h : i = x
  · subst h
    obtain rfl | rfl : j = 0 ∨ j = 1 := by omega
    · simp [fset, rowX, rowB]
    · simp [fset, rowX, rowB]
  · have h1 : (i < x + 1) = (i < x) := by simp; omega
    simp [fset, rowX, h, h1]

theorem ks_cons {c : List Nat} {q : Nat} {chg : List Nat} (h : memN q chg = true) : ∀ k, k ∈ (q :: c) → k ∈ c ∨ k ∈ chg := fun k hk => by
  rcases List.mem_cons.1 hk with e | e
  · exact .inr (by rw [e]; exact memN_iff.1 h)
  · exact .inl e
theorem lenT_self (m v : Nat) : lenT m v v = 0 := if_neg (by omega)
theorem lenT_set (m v i : Nat) : setN (lenT m v) v m i = lenT m (v + 1) i := by
  simp only [setN, lenT]
  by_cases h : i = v
  · rw [if_pos h, if_pos (by omega)]
  · rw [if_neg h]
    by_cases h2 : i < v
    · rw [if_pos h2, if_pos (by omega)]
    · rw [if_neg h2, if_neg (by omega)]
theorem setF_row2 (p : Pr) (g : G) (v i j t : Nat) (hj : j < setN (lenT p.vars.length v) v p.vars.length i) (ht : t < 2) : VLe (setF (rowB p g) v (rowX p g v p.vars.length) i j t) (rowB p g i j t) := by
  apply VLe.of_eq
  simp only [setF]
  split
  · rename_i e
    subst e
    rw [setN, if_pos rfl] at hj
    rw [rowX, if_pos hj]
  · rfl
theorem ks_sub {a b chg : List Nat} (h : (a.all fun k => memN k b) = true) : ∀ k, k ∈ a → k ∈ b ∨ k ∈ chg := fun k hk => .inl (memN_iff.1 (List.all_eq_true.1 h k hk))

set_option maxHeartbeats 8000000 in
theorem table_ok (p : Pr) (hp : PrOk p) (g : G) (hg : g.valid = true) : Ret Tryz.prog 131 [p.v, g.v] (tblV p g) := by
  obtain ⟨f1, f2, f3, f4, f5, f6, f7⟩ := val_facts hg
  have hvl := hp.vlen
  refine ret_frz rfl ?_
  refine fn_rule mixed Tryz.func131 rfl hc131 hr131 rfl ?_
  repeat' ((conv => whnf); first | (refine Bd.nat (by omega) ?_) | (refine Len.mk (by omega) ?_) | (refine MkS.vec ?_))
  all_goals (conv => whnf)
  refine loop_u mixed [2, 3, 5, 14] [3] [4, 5, 6, 7, 8, 9, 10, 11, 12, 13, 14, 15, 16, 17, 18, 19, 20, 21, 22, 23, 24, 25, 26, 27, 28, 29] [3, 2, 1, 0] (fun v : Nat => [(15, .int .i64 v)])
    (fun own v => (3, .vec (lenT p.vars.length v v) 2 (rowB p g v)) :: updO (updO own 2 (.fam g.ids.length 2 (lenT p.vars.length v) (rowB p g) [])) 2 (.fam g.ids.length 2 (lenT p.vars.length v) (rowB p g) (opn v g.ids.length 3))) (fun k v => k = g.ids.length - v ∧ v ≤ g.ids.length) g.ids.length 0 ⟨rfl, Nat.zero_le _⟩ rfl (fun _ => rfl) ?_ ?_
  · have e : opn 0 g.ids.length 3 = [(0, 3)] := if_pos (by omega)
    simp only [e]
    refine Weak.trans ?_ (weak_open (ks := [3, 4, 5, 6, 7, 8, 9, 10, 11, 12, 13, 14, 15, 16, 17, 18, 19, 20, 21, 22, 23, 24, 25, 26, 27, 28, 29]) rfl rfl rfl (by omega) rfl) (ks_cons rfl)
    refine weak_by (fun _ _ => [(0, some 0), (1, some 1), (2, some 2)]) ?_ ?_ rfl
    · repeat' (first | exact True.intro | (refine ⟨⟨_, rfl, ?_⟩, ?_⟩) | exact VRen.kf rfl | exact VRen.loc rfl | exact VRen.vec rfl rfl rfl)
    · repeat' (first | exact ⟨rfl, rfl, rfl, fun i hi => ⟨rfl, if_neg (by omega)⟩⟩ | exact True.intro | (refine ⟨⟨_, rfl, ?_⟩, ?_⟩) | exact VRen.kf rfl | (refine And.intro ?_ ?_))
  rintro k v ⟨hk, hv⟩
  by_cases hvn : v < g.ids.length
  · have e : opn v g.ids.length 3 = [(v, 3)] := if_pos hvn
    simp only [e]
    repeat' ((conv => whnf); first | (refine Br.dec ?_ ?_ <;> intro _ <;> try omega) | (refine Ix.nat (by omega) ?_) | (refine Bd.nat (by omega) ?_) | (refine Len.mk (by omega) ?_) | (refine Ltn.mk (by omega) ?_) | (refine OpnSet.hd (by omega) ?_))
    all_goals (conv => whnf)
    refine loop_u mixed [2, 3, 5, 6, 14, 15, 26, 27] [4] [5, 6, 7, 8, 9, 10, 11, 12, 13, 14, 15, 16, 17, 18, 19, 20, 21, 22, 23, 24, 25, 26, 27, 28, 29] [4, 3, 2, 1, 0] (fun x : Nat => [(28, .int .i64 x)])
      (fun own x => updO own 4 (.vec p.vars.length 2 (rowX p g v x))) (fun k x => k = p.vars.length - x ∧ x ≤ p.vars.length) p.vars.length 0 ⟨rfl, Nat.zero_le _⟩ rfl (fun _ => rfl) ?_ ?_
    · refine weak_by (fun _ _ => [(0, some 0), (1, some 1), (2, some 2), (3, some 3), (4, some 4)]) ?_ ?_ rfl
      · repeat' (first | exact True.intro | (refine ⟨⟨_, rfl, ?_⟩, ?_⟩) | exact VRen.kf rfl | exact VRen.loc rfl | exact VRen.vec rfl rfl rfl)
      · repeat' (first | exact ⟨rfl, rfl, ⟨rfl, rfl, True.intro⟩, fun i hi => rfl, fun i j t hi hn hj ht => VLe.rfl⟩ | (refine ⟨Nat.le_refl _, rfl, fun i j hi hj => VLe.of_eq ?_⟩; rw [rowX, if_neg (by omega)]; (obtain rfl | rfl : j = 0 ∨ j = 1 := by omega) <;> rfl) | exact True.intro | (refine ⟨⟨_, rfl, ?_⟩, ?_⟩) | exact VRen.kf rfl | (refine ⟨Nat.le_refl _, rfl, fun i j hi hj => ?_⟩) | exact VLe.rfl | (refine And.intro ?_ ?_))
    rintro k x ⟨hk2, hx⟩
    by_cases hxn : x < p.vars.length
    · have hb := bnd_ok g hg _ (hp.var x hxn) v (by omega)
      repeat' ((conv => whnf); first | (refine Br.dec ?_ ?_ <;> intro _ <;> try omega) | (refine Ar.i64 (by omega) (by omega) ?_) | (refine Ix.nat (by omega) ?_) | (refine Ix.mk 0 rfl (by omega) ?_) | (refine Ix.mk 1 rfl (by omega) ?_) | (refine Ltn.mk (by omega) ?_) | (refine Opn.hdl (by omega) (show setN _ _ _ _ = p.vars.length from if_pos rfl) ?_) | (refine (hb _ _).mono ?_; rintro _ _ _ ⟨rfl, rfl, rfl⟩) | (refine And.intro (Ltn.mk (by omega) (Opn.hdl (by omega) (show setN _ _ _ _ = p.vars.length from if_pos rfl) rfl)) ?_))
      all_goals (conv => whnf)
      refine ⟨p.vars.length - (x + 1), x + 1, by omega, ⟨rfl, by omega⟩, ?_⟩
      refine weak_by (fun _ _ => [(0, some 0), (1, some 1), (2, some 2), (3, some 3), (4, some 4)]) ?_ ?_ rfl
      · repeat' (first | exact True.intro | (refine ⟨⟨_, rfl, ?_⟩, ?_⟩) | exact VRen.kf rfl | exact VRen.loc rfl | exact VRen.vec rfl rfl rfl)
      · repeat' (first | exact ⟨rfl, rfl, ⟨rfl, rfl, True.intro⟩, fun i hi => rfl, fun i j t hi hn hj ht => VLe.rfl⟩ | (simp only [Nat.zero_add, Nat.zero_mul, Nat.one_mul]; exact rowX_succ p g v x _ _ hj) | exact True.intro | (refine ⟨⟨_, rfl, ?_⟩, ?_⟩) | exact VRen.kf rfl | (refine ⟨Nat.le_refl _, rfl, fun i j hi hj => ?_⟩) | exact VLe.rfl | (refine And.intro ?_ ?_))
    · have ex : x = p.vars.length := by omega
      subst ex
      repeat' ((conv => whnf); first | (refine Br.dec ?_ ?_ <;> intro _ <;> try omega) | (refine Ar.i64 (by omega) (by omega) ?_))
      all_goals (conv => whnf)
      refine ⟨g.ids.length - (v + 1), v + 1, by omega, ⟨rfl, by omega⟩, ?_⟩
      refine Weak.trans (weak_step (own_close (q := 4) (k := 2) (i := v) [] rfl rfl hvn (look_here rfl) (Nat.le_of_eq (if_pos rfl)) rfl (fun j hj => (look_there (fun e => hj e.symm)).symm))) ?_ (ks_sub rfl)
      by_cases h1 : v + 1 < g.ids.length
      · have e1 : opn (v + 1) g.ids.length 3 = [(v + 1, 3)] := if_pos h1
        simp only [e1]
        refine Weak.trans ?_ (weak_open (ks := [3, 4, 5, 6, 7, 8, 9, 10, 11, 12, 13, 14, 15, 16, 17, 18, 19, 20, 21, 22, 23, 24, 25, 26, 27, 28, 29]) rfl rfl rfl h1 rfl) (ks_cons rfl)
        refine weak_by (fun _ _ => [(0, some 0), (1, some 1), (2, some 2)]) ?_ ?_ rfl
        · repeat' (first | exact True.intro | (refine ⟨⟨_, rfl, ?_⟩, ?_⟩) | exact VRen.kf rfl | exact VRen.loc rfl | exact VRen.vec rfl rfl rfl)
        · repeat' (first | exact ⟨rfl, rfl, True.intro, fun i hi => (lenT_set _ _ _).symm, fun i j t hi hn hj ht => setF_row2 p g v i j t hj ht⟩ | exact True.intro | (refine ⟨⟨_, rfl, ?_⟩, ?_⟩) | exact VRen.kf rfl | (refine And.intro ?_ ?_))
      · have e1 : opn (v + 1) g.ids.length 3 = [] := if_neg h1
        simp only [e1]
        refine weak_by (fun _ _ => [(0, some 0), (1, some 1), (2, some 2), (3, none)]) ?_ ?_ rfl
        · repeat' (first | exact True.intro | (refine ⟨⟨_, rfl, ?_⟩, ?_⟩) | exact VRen.kf rfl | exact VRen.loc rfl | exact VRen.vec rfl rfl rfl)
        · repeat' (first | exact ⟨rfl, rfl, True.intro, fun i hi => (lenT_set _ _ _).symm, fun i j t hi hn hj ht => setF_row2 p g v i j t hj ht⟩ | exact ⟨2, rowB p g (v + 1), by rw [lenT_self]⟩ | exact True.intro | (refine ⟨⟨_, rfl, ?_⟩, ?_⟩) | exact VRen.kf rfl | (refine And.intro ?_ ?_))
  · have e : opn v g.ids.length 3 = [] := if_neg hvn
    have ev : v = g.ids.length := by omega
    simp only [e]
    repeat' ((conv => whnf); first | (refine Br.dec ?_ ?_ <;> intro _ <;> try omega) | (refine Len.mk (by omega) ?_))
    all_goals (conv => whnf)
    refine VLe.fz rfl (fun h => h) (fun i j hi hj => ?_)
    show VLe (.fz (lenT p.vars.length v i) 2 false (rowB p g i)) (.fz p.vars.length 2 false (rowB p g i))
    rw [show lenT p.vars.length v i = p.vars.length from if_pos (by omega)]
    exact VLe.rfl

theorem state_ok (p : Pr) (g : G) (v : Nat) (l : List Int) (h1 : p.vars.length ≤ 1000) (h : l.length = p.vars.length) (hb : ∀ x, x < p.vars.length → (bnd g (gV p.vars x) v).1 ≤ gI l x ∧ gI l x ≤ (bnd g (gV p.vars x) v).2) :
    Ret Tryz.prog 197 [.fz p.vars.length 2 false (rowB p g v), .fz l.length 1 false (vI l)] (.bool true) := by
  refine ret_frz rfl ?_
  refine fn_rule mixed Tryz.func197 rfl hc197 hr197 rfl ?_
  repeat' ((conv => whnf); first | (refine Br.bne ?_ ?_ <;> intro _ <;> try omega))
  all_goals (conv => whnf)
  refine loop_r mixed [0, 12, 13] (fun i : Nat => [(14, .int .i64 i)]) (fun m i => m = l.length - i ∧ i ≤ l.length) l.length 0 ⟨rfl, Nat.zero_le _⟩ ?_ ?_
  · refine weak_by (fun _ _ => []) ?_ ?_ rfl
    · repeat' (first | exact True.intro | (refine ⟨⟨_, rfl, ?_⟩, ?_⟩) | exact VRen.kf rfl)
    · repeat' (first | exact True.intro)
  rintro m i ⟨hm, hi⟩
  by_cases hil : i < l.length
  · have hb := hb i (by omega)
    repeat' ((conv => whnf); first | (refine Br.dec ?_ ?_ <;> intro _ <;> try omega) | (refine Ar.i64 (by omega) (by omega) ?_) | (refine Ix.nat (by omega) ?_) | (refine Ix.mk 0 rfl (by omega) ?_) | (refine Ix.mk 1 rfl (by omega) ?_))
    all_goals (conv => whnf)
    all_goals first
      | (exfalso; omega)
      | (refine ⟨l.length - (i + 1), i + 1, by omega, ⟨rfl, by omega⟩, ?_⟩
         refine weak_by (fun _ _ => []) ?_ ?_ rfl
         · repeat' (first | exact True.intro | (refine ⟨⟨_, rfl, ?_⟩, ?_⟩) | exact VRen.kf rfl)
         · repeat' (first | exact True.intro))
  · repeat' ((conv => whnf); first | (refine Br.dec ?_ ?_ <;> intro _ <;> try omega))
    all_goals (conv => whnf)
    exact VLe.rfl

/-- a configuration of a program -/
structure Conf (p : Pr) (g : G) (c : Cf) : Prop where
  len : c.length = g.ids.length
  row : ∀ v, v < c.length → (gC c v).length = p.vars.length
  val : ∀ v, v < c.length → ∀ x, x < p.vars.length → (bnd g (gV p.vars x) v).1 ≤ gI (gC c v) x ∧ gI (gC c v) x ≤ (bnd g (gV p.vars x) v).2
theorem Conf.fit {p : Pr} (hp : PrOk p) {g : G} (hg : g.valid = true) {c : Cf} (h : Conf p g c) : Fit g p.vars.length c := by
  obtain ⟨f1, f2, f3, f4, f5, f6, f7⟩ := val_facts hg
  refine ⟨h.len.trans f3.symm, h.row, fun v hv x hx => ?_⟩
  have h1 := h.val v hv x hx
  have h2 := bnd_in hg (hp.var x hx) (v := v) (by rw [f3, ← h.len]; exact hv)
  unfold inR; omega

theorem within_ok2 (p : Pr) (hp : PrOk p) (g : G) (hg : g.valid = true) (c : Cf) (hc : Conf p g c) : Ret Tryz.prog 174 [tblV p g, cV c] (.bool true) := by
  obtain ⟨f1, f2, f3, f4, f5, f6, f7⟩ := val_facts hg
  have hcl := hc.len
  refine ret_frz rfl ?_
  refine fn_rule mixed Tryz.func174 rfl hc174 hr174 rfl ?_
  repeat' ((conv => whnf); first | (refine Br.bne ?_ ?_ <;> intro _ <;> try omega))
  all_goals (conv => whnf)
  refine loop_r mixed [1, 12, 13] (fun i : Nat => [(14, .int .i64 i)]) (fun m i => m = g.ids.length - i ∧ i ≤ g.ids.length) g.ids.length 0 ⟨rfl, Nat.zero_le _⟩ ?_ ?_
  · refine weak_by (fun _ _ => []) ?_ ?_ rfl
    · repeat' (first | exact True.intro | (refine ⟨⟨_, rfl, ?_⟩, ?_⟩) | exact VRen.kf rfl)
    · repeat' (first | exact True.intro)
  rintro m i ⟨hm, hi⟩
  by_cases hil : i < g.ids.length
  · have hs := state_ok p g i (gC c i) hp.vlen (hc.row i (by omega)) (hc.val i (by omega))
    repeat' ((conv => whnf); first | (refine Br.tt ?_) | (refine Br.dec ?_ ?_ <;> intro _ <;> try omega) | (refine Ar.i64 (by omega) (by omega) ?_) | (refine Ix.nat (by omega) ?_) | (refine (hs _ _).mono ?_; rintro _ _ _ ⟨rfl, rfl, rfl⟩))
    all_goals (conv => whnf)
    refine ⟨g.ids.length - (i + 1), i + 1, by omega, ⟨rfl, by omega⟩, ?_⟩
    refine weak_by (fun _ _ => []) ?_ ?_ rfl
    · repeat' (first | exact True.intro | (refine ⟨⟨_, rfl, ?_⟩, ?_⟩) | exact VRen.kf rfl)
    · repeat' (first | exact True.intro)
  · repeat' ((conv => whnf); first | (refine Br.dec ?_ ?_ <;> intro _ <;> try omega))
    all_goals (conv => whnf)
    exact VLe.rfl

theorem check_ok (p : Pr) (hp : PrOk p) (g : G) (hs : g.Small) (hg : g.valid = true) (c : Cf) (hc : Conf p g c) : Ret Tryz.prog 129 [p.v, g.v, cV c] (.int .i64 0) := by
  have h1 := fits_ok p hp g hs hg
  have h2 := table_ok p hp g hg
  have h3 := within_ok2 p hp g hg c hc
  refine ret_frz rfl ?_
  refine fn_rule mixed Tryz.func129 rfl hc129 hr129 rfl ?_
  repeat' ((conv => whnf); first | (refine Br.tt ?_) | (refine Br.ff ?_) | (refine (h1 _ _).mono ?_; rintro _ _ _ ⟨rfl, rfl, rfl⟩) | (refine (h2 _ _).mono ?_; rintro _ _ _ ⟨rfl, rfl, rfl⟩) | (refine (h3 _ _).mono ?_; rintro _ _ _ ⟨rfl, rfl, rfl⟩))
  all_goals (conv => whnf)
  exact VLe.rfl
theorem mvalid_ok (p : Pr) (hp : PrOk p) (g : G) (hs : g.Small) (hg : g.valid = true) (c : Cf) (hc : Conf p g c) : Ret Tryz.prog 79 [p.v, g.v, cV c] (.bool true) := by
  have h1 := check_ok p hp g hs hg c hc
  refine ret_frz rfl ?_
  refine fn_rule mixed Tryz.func79 rfl hc79 hr79 rfl ?_
  repeat' ((conv => whnf); first | (refine Br.tt ?_) | (refine (h1 _ _).mono ?_; rintro _ _ _ ⟨rfl, rfl, rfl⟩))
  all_goals (conv => whnf)
  exact VLe.rfl

/-! ## rules -/

def mvP (p : Pr) (g : G) : V := .fe 1 5 (tab [[.str p.nm, p.pg.vs, p.pg.rs, scP p.pg g, tblV p g]]) 0 0
theorem guard_ok (p : Pr) (hp : PrOk p) (g : G) (hg : g.valid = true) (c : Cf) (hc : Conf p g c) (v : Nat) (hv : v < g.ports.length) (i : Nat) (hi : i < p.rules.length) :
    Ret Tryz.prog 177 [scP p.pg g, cV c, .int .i64 v, .int .i64 i] (.bool (decide ((gRl p.rules i).gd.sem g c v (-1) ≠ 0))) := by
  have hgd := hp.gd i hi
  simp only [Tm.okB, Bool.and_eq_true, decide_eq_true_eq] at hgd
  have h1 := Value_ok p.pg g hg (hc.fit hp hg) v hv (gRl p.rules i).gd hgd.2 hgd.1
  refine ret_frz rfl ?_
  refine fn_rule mixed Tryz.func177 rfl hc177 hr177 rfl ?_
  repeat' ((conv => whnf); first | (refine Br.bne ?_ ?_ <;> intro _ <;> try omega) | (refine Ix.nat (by omega) ?_) | (refine (h1 _ _).mono ?_; rintro _ _ _ ⟨rfl, rfl, rfl⟩))
  all_goals (conv => whnf)
  · rename_i h; exact VLe.bool (decide_eq_true h).symm
  · rename_i h; exact VLe.bool (decide_eq_false (by simpa using h)).symm

/-- the values of the guards -/
def gds (p : Pr) (g : G) (c : Cf) (v : Nat) : List Int := p.rules.map fun r => r.gd.sem g c v (-1)
def ruleI (p : Pr) (g : G) (c : Cf) (v : Nat) : Int := idxI 0 (gds p g c v)
theorem gds_get (p : Pr) (g : G) (c : Cf) (v i : Nat) (hi : i < p.rules.length) : gI (gds p g c v) i = (gRl p.rules i).gd.sem g c v (-1) := by
  simp [gds, gI, gRl, hi]
theorem rule_ok (p : Pr) (hp : PrOk p) (g : G) (hg : g.valid = true) (c : Cf) (hc : Conf p g c) (v : Nat) (hv : v < g.ports.length) :
    Ret Tryz.prog 134 [mvP p g, cV c, .int .i64 v] (.int .i64 (ruleI p g c v)) := by
  have hrl := hp.rlen
  have hgl : (gds p g c v).length = p.rules.length := by simp [gds]
  refine ret_frz rfl ?_
  refine fn_rule mixed Tryz.func134 rfl hc134 hr134 rfl ?_
  repeat' ((conv => whnf); first | fail)
  all_goals (conv => whnf)
  refine loop_r mixed [0, 1, 2, 13] (fun i : Nat => [(14, .int .i64 i)]) (fun m i => m = p.rules.length - i ∧ i ≤ p.rules.length ∧ ∀ a ∈ (gds p g c v).take i, a = 0) p.rules.length 0 ⟨rfl, Nat.zero_le _, by simp⟩ ?_ ?_
  · refine weak_by (fun _ _ => []) ?_ ?_ rfl
    · repeat' (first | exact True.intro | (refine ⟨⟨_, rfl, ?_⟩, ?_⟩) | exact VRen.kf rfl)
    · repeat' (first | exact True.intro)
  rintro m i ⟨hm, hi, hall⟩
  by_cases hil : i < p.rules.length
  · have hgu := guard_ok p hp g hg c hc v hv i hil
    have hge := gds_get p g c v i hil
    by_cases hz : (gRl p.rules i).gd.sem g c v (-1) = 0
    · rw [decide_eq_false (by simpa using hz)] at hgu
      repeat' ((conv => whnf); first | (refine Br.ff ?_) | (refine Br.dec ?_ ?_ <;> intro _ <;> try omega) | (refine Ar.i64 (by omega) (by omega) ?_) | (refine (hgu _ _).mono ?_; rintro _ _ _ ⟨rfl, rfl, rfl⟩))
      all_goals (conv => whnf)
      refine ⟨p.rules.length - (i + 1), i + 1, by omega, ⟨rfl, by omega, ?_⟩, ?_⟩
      · rw [gI_take _ i (by omega)]
        intro a ha
        rcases List.mem_append.1 ha with h | h
        · exact hall a h
        · simp at h; rw [h, hge]; exact hz
      · refine weak_by (fun _ _ => []) ?_ ?_ rfl
        · repeat' (first | exact True.intro | (refine ⟨⟨_, rfl, ?_⟩, ?_⟩) | exact VRen.kf rfl)
        · repeat' (first | exact True.intro)
    · rw [decide_eq_true hz] at hgu
      repeat' ((conv => whnf); first | (refine Br.tt ?_) | (refine Br.dec ?_ ?_ <;> intro _ <;> try omega) | (refine (hgu _ _).mono ?_; rintro _ _ _ ⟨rfl, rfl, rfl⟩))
      all_goals (conv => whnf)
      refine VLe.int ?_
      rw [ruleI, idxI_split _ 0 i (by omega) hall, gI_drop _ i (by omega)]
      simp only [idxI, hge]
      rw [if_pos hz]; omega
  · repeat' ((conv => whnf); first | (refine Br.dec ?_ ?_ <;> intro _ <;> try omega))
    all_goals (conv => whnf)
    refine VLe.int ?_
    rw [ruleI, idxI_split _ 0 i (by omega) hall, List.drop_of_length_le (by omega)]
    rfl

/-! ## enabled nodes -/

theorem en1_ok (p : Pr) (hp : PrOk p) (g : G) (hg : g.valid = true) (c : Cf) (hc : Conf p g c) (v : Nat) (hv : v < g.ports.length) :
    Ret Tryz.prog 133 [.int .i64 v, .fe 1 1 (tab [[mvP p g]]) 0 0, .fe 1 1 (tab [[cV c]]) 0 0] (.bool (decide (0 ≤ ruleI p g c v))) := by
  have h1 := rule_ok p hp g hg c hc v hv
  refine ret_frz rfl ?_
  refine fn_rule mixed Tryz.func133 rfl hc133 hr133 rfl ?_
  repeat' ((conv => whnf); first | (refine Br.dec ?_ ?_ <;> intro _ <;> try omega) | (refine (h1 _ _).mono ?_; rintro _ _ _ ⟨rfl, rfl, rfl⟩))
  all_goals (conv => whnf)
  · rename_i h; exact VLe.bool (decide_eq_true (by omega)).symm
  · rename_i h; exact VLe.bool (decide_eq_false (by omega)).symm
def enN (p : Pr) (g : G) (c : Cf) : Nat := nb (fun v => decide (0 ≤ ruleI p g c v)) g.ids.length
end Go.Proofs.YtcnpplcfabdoaaaGreat

namespace Go.Proofs.YtcnpplcfabdoaaaGreat
open Go.Eng
set_option maxRecDepth 100000
set_option linter.unusedVariables false

/-! ## the scene, the mover -/

theorem ptoI_split : ∀ (l : Lt2) (k i : Nat) (b : Int), i ≤ l.length → (∀ a ∈ l.take i, a.1 ≠ b) → ptoI k l b = ptoI (k + i) (l.drop i) b
  | _, k, 0, _, _, _ => by simp
  | [], k, i + 1, b, h, _ => by simp at h
  | a :: r, k, i + 1, b, h, h2 => by
    have ha : a.1 ≠ b := h2 a (by simp)
    simp only [ptoI, ha, if_false, List.drop_succ_cons]
    rw [ptoI_split r (k + 1) i b (by simpa using h) (fun x hx => h2 x (by simp [hx]))]
    congr 1
    omega
theorem pto_ok (g : G) (hg : g.valid = true) (a : Nat) (b : Int) (ha : a < g.ports.length) : Ret Tryz.prog 175 [g.v, .int .i64 a, .int .i64 b] (.int .i64 (ptoI 0 (gR g.ports a) b)) := by
  have hrl := row_le hg a
  refine ret_frz rfl ?_
  refine fn_rule mixed Tryz.func175 rfl hc175 hr175 rfl ?_
  repeat' ((conv => whnf); first | (refine Ix.nat (by omega) ?_))
  all_goals (conv => whnf)
  refine loop_r mixed [2, 13, 14] (fun i : Nat => [(15, .int .i64 i)]) (fun m i => m = (gR g.ports a).length - i ∧ i ≤ (gR g.ports a).length ∧ ∀ l ∈ (gR g.ports a).take i, l.1 ≠ b) (gR g.ports a).length 0 ⟨rfl, Nat.zero_le _, by simp⟩ ?_ ?_
  · refine weak_by (fun _ _ => [(0, some 0)]) ?_ ?_ rfl
    · repeat' (first | exact True.intro | (refine ⟨⟨_, rfl, ?_⟩, ?_⟩) | exact VRen.kf rfl)
    · repeat' (first | exact True.intro | (refine ⟨⟨_, rfl, ?_⟩, ?_⟩) | exact VRen.kf rfl | (refine And.intro ?_ ?_))
  rintro m i ⟨hm, hi, hall⟩
  repeat' ((conv => whnf); first | (refine Br.dec ?_ ?_ <;> intro _ <;> try omega) | (refine Ar.i64 (by omega) (by omega) ?_) | (refine Ix.nat (by omega) ?_))
  all_goals (conv => whnf)
  · refine VLe.int ?_
    rename_i h
    rw [ptoI_split _ 0 i b hi hall, gF_drop _ i (by omega), ptoI, if_pos h]; omega
  · rename_i h
    refine ⟨(gR g.ports a).length - (i + 1), i + 1, by omega, ⟨rfl, by omega, ?_⟩, ?_⟩
    · rw [gF_take _ i (by omega)]
      intro l hl
      rcases List.mem_append.1 hl with h1 | h1
      · exact hall l h1
      · simp at h1; rw [h1]; exact h
    · refine weak_by (fun _ _ => [(0, some 0)]) ?_ ?_ rfl
      · repeat' (first | exact True.intro | (refine ⟨⟨_, rfl, ?_⟩, ?_⟩) | exact VRen.kf rfl)
      · repeat' (first | exact True.intro | (refine ⟨⟨_, rfl, ?_⟩, ?_⟩) | exact VRen.kf rfl | (refine And.intro ?_ ?_))
  · refine VLe.int ?_
    rw [ptoI_split _ 0 i b hi hall, List.drop_of_length_le (by omega)]
    rfl

def rowK (g : G) (v : Nat) : Nat → Nat → V := fun i _ => .int .i64 (backI g v i)
def lenK (g : G) (v : Nat) : Nat → Nat := fun i => if i < v then (gR g.ports i).length else 0
theorem lenK_self (g : G) (v : Nat) : lenK g v v = 0 := if_neg (by omega)
theorem lenK_set (g : G) (v i : Nat) : setN (lenK g v) v (gR g.ports v).length i = lenK g (v + 1) i := by
  simp only [setN, lenK]
  by_cases h : i = v
  · rw [if_pos h, if_pos (by omega), h]
  · rw [if_neg h]
    by_cases h2 : i < v
    · rw [if_pos h2, if_pos (by omega)]
    · rw [if_neg h2, if_neg (by omega)]

theorem lenK_set0 (g : G) (v i : Nat) : setN (lenK g v) v 0 i = lenK g v i := by
  simp only [setN]
  split
  · rename_i e; subst e; exact (lenK_self g i).symm
  · rfl

theorem setN_setN (f : Nat → Nat) (v a b i : Nat) : setN f v b i = setN (setN f v a) v b i := by
  simp only [setN]
  split <;> rfl
theorem setF_rowK (g : G) (v i j t : Nat) : VLe (setF (rowK g) v (rowK g v) i j t) (rowK g i j t) := by
  apply VLe.of_eq
  simp only [setF]
  split
  · rename_i e; rw [e]
  · rfl
theorem vle_appK (g : G) (v i a b : Nat) (ha : a < i + 1) (hb : b < 1) : VLe (fapp (shiftF 0 (rowK g v)) i (shiftF 0 (tab [[.int .i64 (ptoI 0 (gR g.ports (gF (gR g.ports v) i).1.toNat) v)]])) a b) (rowK g v a b) := by
  obtain rfl : b = 0 := by omega
  apply VLe.of_eq
  by_cases h : a < i
  · rw [fapp_lt h]; simp [shiftF]
  · rw [fapp_ge h]
    have : a = i := by omega
    subst this
    simp [shiftF, tab, rowK, backI]

theorem vle_fe {n s i j : Nat} {f f' : Nat → Nat → V} (h : ∀ a b, a < n → b < s → VLe (f a b) (f' a b)) : VLe (.fe n s f i j) (.fe n s f' i j) :=
  ⟨fun M w u hd => by
    cases hd with
    | fe _ _ _ _ _ _ b off u hi hM hb hcell h1 hd => exact .fe _ _ _ _ _ _ b off u hi hM hb hcell h1 (fun a b ha hb => (h a b ha hb).out _ _ _ (hd a b ha hb))⟩

set_option maxHeartbeats 16000000 in
theorem scene_ok (p : Pr) (g : G) (hg : g.valid = true) : Ret Tryz.prog 130 [p.v, g.v] (scP p.pg g) := by
  obtain ⟨f1, f2, f3, f4, f5, f6, f7⟩ := val_facts hg
  refine ret_frz rfl ?_
  refine fn_rule mixed Tryz.func130 rfl hc130 hr130 rfl ?_
  repeat' ((conv => whnf); first | (refine Bd.nat (by omega) ?_) | (refine Len.mk (by omega) ?_) | (refine MkS.vec ?_) | (refine And.intro rfl ?_))
  all_goals (conv => whnf)
  refine loop_u mixed [3, 5, 19, 20] [4] [5, 6, 7, 8, 9, 10, 11, 12, 13, 14, 15, 16, 17, 18, 19, 20, 21, 22, 23, 24, 25, 26, 27, 28, 29] [4, 3, 2, 1, 0] (fun v : Nat => [(21, .int .i64 v)])
    (fun own v => (4, .vec (lenK g v v) 1 (rowK g v)) :: updO (updO (updO own 3 (.cells [.str p.nm, p.pg.vs, p.pg.rs, .fz g.ids.length 1 false (vI g.ids), .fz g.ports.length 1 false (vP g.ports), .int .i64 (maxL (g.ids.take v) 0), .vec 2 1 0 g.ports.length])) 2 (.fam g.ports.length 1 (lenK g v) (rowK g) [])) 2 (.fam g.ports.length 1 (lenK g v) (rowK g) (opn v g.ports.length 4))) (fun k v => k = g.ports.length - v ∧ v ≤ g.ports.length) g.ports.length 0 ⟨rfl, Nat.zero_le _⟩ rfl (fun _ => rfl) ?_ ?_
  · have e : opn 0 g.ports.length 4 = [(0, 4)] := if_pos (by omega)
    simp only [e]
    refine Weak.trans ?_ (weak_open (ks := [4, 5, 6, 7, 8, 9, 10, 11, 12, 13, 14, 15, 16, 17, 18, 19, 20, 21, 22, 23, 24, 25, 26, 27, 28, 29]) rfl rfl rfl (by omega) rfl) (ks_cons rfl)
    refine weak_by (fun _ _ => [(0, some 0), (1, some 1), (2, some 2), (3, some 3)]) ?_ ?_ rfl
    · repeat' (first | exact True.intro | (refine ⟨⟨_, rfl, ?_⟩, ?_⟩) | exact VRen.kf rfl | exact VRen.loc rfl)
    · repeat' (first | exact ⟨rfl, rfl, rfl, fun i hi => ⟨rfl, if_neg (by omega)⟩⟩ | exact True.intro | (refine ⟨⟨_, rfl, ?_⟩, ?_⟩) | exact VRen.kf rfl | exact VRen.vec rfl rfl rfl | (refine And.intro ?_ ?_))
  rintro k v ⟨hk, hv⟩
  by_cases hvn : v < g.ports.length
  · have e : opn v g.ports.length 4 = [(v, 4)] := if_pos hvn
    simp only [e]
    have hrl := row_le hg v
    repeat' ((conv => whnf); first | (refine Br.dec ?_ ?_ <;> intro _ <;> try omega) | (refine Sv.mk _ rfl ?_) | (refine Ix.nat (by omega) ?_))
    all_goals (conv => whnf)
    refine loop_u mixed [3, 5, 6, 19, 20, 21, 39, 40] [4] [5, 6, 7, 8, 9, 10, 11, 12, 13, 14, 15, 16, 17, 18, 19, 20, 21, 22, 23, 24, 25, 26, 27, 28, 29] [4, 3, 2, 1, 0] (fun i : Nat => [(41, .int .i64 i)])
      (fun own i => updO (updO own 4 (.vec i 1 (rowK g v))) 2 (.fam g.ports.length 1 (setN (lenK g v) v i) (rowK g) [(v, 4)])) (fun k i => k = (gR g.ports v).length - i ∧ i ≤ (gR g.ports v).length) (gR g.ports v).length 0 ⟨rfl, Nat.zero_le _⟩ rfl (fun _ => rfl) ?_ ?_
    · refine weak_by (fun _ _ => [(0, some 0), (1, some 1), (2, some 2), (3, some 3), (4, some 4)]) ?_ ?_ rfl
      · repeat' (first | exact True.intro | (refine ⟨⟨_, rfl, ?_⟩, ?_⟩) | exact VRen.kf rfl | exact VRen.loc rfl)
      · repeat' (first | exact ⟨rfl, rfl, ⟨rfl, rfl, True.intro⟩, fun i hi => lenK_set0 _ _ _, fun i j t hi hn hj ht => VLe.rfl⟩ | exact True.intro | (refine ⟨⟨_, rfl, ?_⟩, ?_⟩) | exact VRen.kf rfl | exact VRen.vec rfl rfl rfl | (refine ⟨by omega, rfl, fun i j hi hj => ?_⟩) | exact VLe.rfl | (refine And.intro ?_ ?_))
    rintro k i ⟨hk2, hi⟩
    by_cases hin : i < (gR g.ports v).length
    · have hr := okR_nd (f6 v hvn) hin
      have hp := pto_ok g hg (gF (gR g.ports v) i).1.toNat v (by omega)
      rw [show (((gF (gR g.ports v) i).1.toNat : Nat) : Int) = (gF (gR g.ports v) i).1 by omega] at hp
      repeat' ((conv => whnf); first | (refine Br.dec ?_ ?_ <;> intro _ <;> try omega) | (refine Br.nbeq ?_ ?_ <;> intro _ <;> try omega) | (refine Ar.i64 (by omega) (by omega) ?_) | (refine Ix.nat (by omega) ?_) | (refine Len.mk (by omega) ?_) | (refine Ltn.mk (by omega) ?_) | (refine (hp _ _).mono ?_; rintro _ _ _ ⟨rfl, rfl, rfl⟩) | (refine Opn.hdl (by omega) (show setN _ _ _ _ = i from if_pos rfl) ?_) | (refine And.intro (Ltn.mk (by omega) (Opn.hdl (by omega) (show setN _ _ _ _ = i from if_pos rfl) rfl)) ?_) | (refine OpnSet.hd (by omega) ?_) | (refine And.intro rfl ?_))
      all_goals (conv => whnf)
      refine ⟨(gR g.ports v).length - (i + 1), i + 1, by omega, ⟨rfl, by omega⟩, ?_⟩
      refine weak_by (fun env own => [(0, some 0), (1, some 1), (2, some 2), (3, some 3), (4, ekey env 63)]) ?_ ?_ rfl
      · repeat' (first | exact True.intro | (refine ⟨⟨_, rfl, ?_⟩, ?_⟩) | exact VRen.kf rfl | exact VRen.loc rfl)
      · repeat' (first | exact ⟨rfl, rfl, ⟨rfl, rfl, True.intro⟩, fun i hi => setN_setN _ _ _ _ _, fun i j t hi hn hj ht => VLe.rfl⟩ | exact ⟨Nat.le_refl _, rfl, fun a b ha hb => vle_appK g v i a b ha hb⟩ | exact True.intro | (refine ⟨⟨_, rfl, ?_⟩, ?_⟩) | exact VRen.kf rfl | exact VRen.vec rfl rfl rfl | (refine And.intro ?_ ?_))
    · have ei : i = (gR g.ports v).length := by omega
      subst ei
      repeat' ((conv => whnf); first | (refine Br.dec ?_ ?_ <;> intro _ <;> try omega) | (refine Ar.i64 (by omega) (by omega) ?_))
      all_goals (conv => whnf)
      refine ⟨g.ports.length - (v + 1), v + 1, by omega, ⟨rfl, by omega⟩, ?_⟩
      refine Weak.trans (weak_step (own_close (q := 4) (k := 2) (i := v) [] rfl rfl hvn (look_here rfl) (Nat.le_of_eq (if_pos rfl)) rfl (fun j hj => (look_there (fun e => hj e.symm)).symm))) ?_ (ks_sub rfl)
      have em : maxL (g.ids.take (v + 1)) 0 = if gI g.ids v > maxL (g.ids.take v) 0 then gI g.ids v else maxL (g.ids.take v) 0 := by rw [gI_take g.ids v (by omega), maxL_snoc]
      simp only [em]
      by_cases h1 : v + 1 < g.ports.length
      · have e1 : opn (v + 1) g.ports.length 4 = [(v + 1, 4)] := if_pos h1
        simp only [e1]
        refine Weak.trans ?_ (weak_open (ks := [4, 5, 6, 7, 8, 9, 10, 11, 12, 13, 14, 15, 16, 17, 18, 19, 20, 21, 22, 23, 24, 25, 26, 27, 28, 29]) rfl rfl rfl h1 rfl) (ks_cons rfl)
        refine weak_by (fun _ _ => [(0, some 0), (1, some 1), (2, some 2), (3, some 3)]) ?_ ?_ rfl
        · repeat' (first | exact True.intro | (refine ⟨⟨_, rfl, ?_⟩, ?_⟩) | exact VRen.kf rfl | exact VRen.loc rfl)
        · repeat' (first | exact ⟨rfl, rfl, True.intro, fun i hi => (lenK_set _ _ _).symm, fun i j t hi hn hj ht => setF_rowK g v i j t⟩ | exact True.intro | (refine ⟨⟨_, rfl, ?_⟩, ?_⟩) | exact VRen.kf rfl | exact VRen.vec rfl rfl rfl | (refine And.intro ?_ ?_))
      · have e1 : opn (v + 1) g.ports.length 4 = [] := if_neg h1
        simp only [e1]
        refine weak_by (fun _ _ => [(0, some 0), (1, some 1), (2, some 2), (3, some 3), (4, none)]) ?_ ?_ rfl
        · repeat' (first | exact True.intro | (refine ⟨⟨_, rfl, ?_⟩, ?_⟩) | exact VRen.kf rfl | exact VRen.loc rfl)
        · repeat' (first | exact ⟨rfl, rfl, True.intro, fun i hi => (lenK_set _ _ _).symm, fun i j t hi hn hj ht => setF_rowK g v i j t⟩ | exact ⟨1, rowK g (v + 1), by rw [lenK_self]⟩ | exact True.intro | (refine ⟨⟨_, rfl, ?_⟩, ?_⟩) | exact VRen.kf rfl | exact VRen.vec rfl rfl rfl | (refine And.intro ?_ ?_))
  · have e : opn v g.ports.length 4 = [] := if_neg hvn
    have ev : v = g.ports.length := by omega
    simp only [e]
    repeat' ((conv => whnf); first | (refine Br.dec ?_ ?_ <;> intro _ <;> try omega) | (refine Len.mk (by omega) ?_))
    all_goals (conv => whnf)
    refine vle_fe (fun a b ha hb => ?_)
    obtain rfl : a = 0 := by omega
    have hb : b < 7 := hb
    have em : maxL (g.ids.take v) 0 = topI g := by rw [List.take_of_length_le (by omega)]; rfl
    rcases (show b = 0 ∨ b = 1 ∨ b = 2 ∨ b = 3 ∨ b = 4 ∨ b = 5 ∨ b = 6 by omega) with rfl | rfl | rfl | rfl | rfl | rfl | rfl
    · exact VLe.rfl
    · exact VLe.rfl
    · exact VLe.rfl
    · exact VLe.rfl
    · exact VLe.rfl
    · exact VLe.int em
    · refine VLe.fz rfl (fun h => h) (fun i j hi hj => ?_)
      show VLe (.fz (lenK g v i) 1 false (rowK g i)) (.fz (gR g.ports i).length 1 false (rowK g i))
      rw [show lenK g v i = (gR g.ports i).length from if_pos (by omega)]
      exact VLe.rfl

theorem mover_ok (p : Pr) (hp : PrOk p) (g : G) (hg : g.valid = true) : Ret Tryz.prog 80 [p.v, g.v] (mvP p g) := by
  have h1 := scene_ok p g hg
  have h2 := table_ok p hp g hg
  refine ret_frz rfl ?_
  refine fn_rule mixed Tryz.func80 rfl hc80 hr80 rfl ?_
  repeat' ((conv => whnf); first | (refine (h1 _ _).mono ?_; rintro _ _ _ ⟨rfl, rfl, rfl⟩) | (refine (h2 _ _).mono ?_; rintro _ _ _ ⟨rfl, rfl, rfl⟩) | (refine And.intro rfl ?_))
  all_goals (conv => whnf)
  exact VLe.rfl

/-! ## the enabled nodes -/

set_option maxHeartbeats 4000000 in
theorem snodes_ok (p : Pr) (hp : PrOk p) (g : G) (hg : g.valid = true) (c : Cf) (hc : Conf p g c) :
    CallF Tryz.prog 132 [.int .i64 g.ids.length, .fn (.func 133) false [.loc 0 0, .loc 1 0]] [(1, .cells [cV c]), (0, .cells [mvP p g])] [2, 3, 4, 5, 6, 7, 8, 9, 10, 11, 12, 13, 14, 15, 16, 17, 18, 19, 20, 21, 22, 23, 24, 25, 26, 27, 28, 29] fun v own' _ => v = .int .u32 (enN p g c) ∧ own' = [(1, .cells [cV c]), (0, .cells [mvP p g])] := by
  obtain ⟨f1, f2, f3, f4, f5, f6, f7⟩ := val_facts hg
  refine fn_rule mixed Tryz.func132 rfl hc132 hr132 rfl ?_
  repeat' ((conv => whnf); first | fail)
  all_goals (conv => whnf)
  refine loop_r mixed [1, 7] (fun i : Nat => [(5, .int .u32 (nb (fun v => decide (0 ≤ ruleI p g c v)) i)), (8, .int .i64 i)]) (fun m i => m = g.ids.length - i ∧ i ≤ g.ids.length) g.ids.length 0 ⟨rfl, Nat.zero_le _⟩ ?_ ?_
  · refine weak_by (fun _ _ => [(0, some 0), (1, some 1)]) ?_ ?_ rfl
    · repeat' (first | exact True.intro | (refine VRen.fn ?_) | (refine ⟨⟨_, rfl, ?_⟩, ?_⟩) | exact VRen.kf rfl | exact VRen.loc rfl | (refine And.intro ?_ ?_))
    · repeat' (first | exact True.intro | (refine ⟨⟨_, rfl, ?_⟩, ?_⟩) | exact VRen.kf rfl | (refine And.intro ?_ ?_))
  rintro m i ⟨hm, hi⟩
  by_cases hin : i < g.ids.length
  · have he := en1_ok p hp g hg c hc i (by omega)
    cases hd : decide (0 ≤ ruleI p g c i) with
    | true =>
      rw [hd] at he
      repeat' ((conv => whnf); first | (refine Br.tt ?_) | (refine Br.dec ?_ ?_ <;> intro _ <;> try omega) | (refine Ar.i64 (by omega) (by omega) ?_) | (refine Ar.sh1 (by omega) ?_) | (refine Sv.mk _ rfl ?_) | (refine Nn.mk (by omega) ?_) | (refine Chk.mk (by kernel_rfl) ?_) | (refine call_lend he rfl ⟨VLe.rfl, VLe.rfl, VLe.rfl, True.intro⟩ ?_))
      all_goals (conv => whnf)
      have hx := nb_or (p := fun v => decide (0 ≤ ruleI p g c v)) (k := i) (by omega) hd
      refine ⟨g.ids.length - (i + 1), i + 1, by omega, ⟨rfl, by omega⟩, ?_⟩
      refine weak_by (fun _ _ => [(0, some 0), (1, some 1)]) ?_ ?_ rfl
      · repeat' (first | exact VRen.int hx | exact True.intro | (refine VRen.fn ?_) | (refine ⟨⟨_, rfl, ?_⟩, ?_⟩) | exact VRen.kf rfl | exact VRen.loc rfl | (refine And.intro ?_ ?_))
      · repeat' (first | exact True.intro | (refine ⟨⟨_, rfl, ?_⟩, ?_⟩) | exact VRen.kf rfl | (refine And.intro ?_ ?_))
    | false =>
      rw [hd] at he
      repeat' ((conv => whnf); first | (refine Br.ff ?_) | (refine Br.dec ?_ ?_ <;> intro _ <;> try omega) | (refine Ar.i64 (by omega) (by omega) ?_) | (refine Chk.mk (by kernel_rfl) ?_) | (refine call_lend he rfl ⟨VLe.rfl, VLe.rfl, VLe.rfl, True.intro⟩ ?_))
      all_goals (conv => whnf)
      have hx := nb_no (p := fun v => decide (0 ≤ ruleI p g c v)) (k := i) hd
      refine ⟨g.ids.length - (i + 1), i + 1, by omega, ⟨rfl, by omega⟩, ?_⟩
      refine weak_by (fun _ _ => [(0, some 0), (1, some 1)]) ?_ ?_ rfl
      · repeat' (first | exact VRen.int (by rw [hx]) | exact True.intro | (refine VRen.fn ?_) | (refine ⟨⟨_, rfl, ?_⟩, ?_⟩) | exact VRen.kf rfl | exact VRen.loc rfl | (refine And.intro ?_ ?_))
      · repeat' (first | exact True.intro | (refine ⟨⟨_, rfl, ?_⟩, ?_⟩) | exact VRen.kf rfl | (refine And.intro ?_ ?_))
  · repeat' ((conv => whnf); first | (refine Br.dec ?_ ?_ <;> intro _ <;> try omega))
    all_goals (conv => whnf)
    have e : i = g.ids.length := by omega
    exact ⟨by rw [enN, e], rfl⟩

theorem men_ok (p : Pr) (hp : PrOk p) (g : G) (hg : g.valid = true) (c : Cf) (hc : Conf p g c) : Ret Tryz.prog 81 [mvP p g, cV c] (.int .u32 (enN p g c)) := by
  have hn := snodes_ok p hp g hg c hc
  refine ret_frz rfl ?_
  refine fn_rule mixed Tryz.func81 rfl hc81 hr81 rfl ?_
  repeat' ((conv => whnf); first | (refine call_by [(0, some 0), (1, some 1)] [] (hn.mono ?_) ⟨VRen.int rfl, VRen.fn ⟨VRen.loc rfl, VRen.loc rfl, True.intro⟩, True.intro⟩ (by repeat' (first | exact True.intro | (refine ⟨⟨_, rfl, ?_⟩, ?_⟩) | exact VRen.kf rfl | (refine And.intro ?_ ?_))) rfl; rintro _ _ _ ⟨rfl, rfl⟩) | (refine Chk.mk rfl ?_))
  all_goals (conv => whnf)
  exact VLe.rfl
theorem senabled_ok (p : Pr) (hp : PrOk p) (g : G) (hs : g.Small) (hg : g.valid = true) (c : Cf) (hc : Conf p g c) : Ret Tryz.prog 42 [p.v, g.v, cV c] (.int .u32 (enN p g c)) := by
  have h1 := mvalid_ok p hp g hs hg c hc
  have h2 := mover_ok p hp g hg
  have h3 := men_ok p hp g hg c hc
  refine ret_frz rfl ?_
  refine fn_rule mixed Tryz.func42 rfl hc42 hr42 rfl ?_
  repeat' ((conv => whnf); first | (refine Br.tt ?_) | (refine (h1 _ _).mono ?_; rintro _ _ _ ⟨rfl, rfl, rfl⟩) | (refine (h2 _ _).mono ?_; rintro _ _ _ ⟨rfl, rfl, rfl⟩) | (refine (h3 _ _).mono ?_; rintro _ _ _ ⟨rfl, rfl, rfl⟩))
  all_goals (conv => whnf)
  exact VLe.rfl
end Go.Proofs.YtcnpplcfabdoaaaGreat

