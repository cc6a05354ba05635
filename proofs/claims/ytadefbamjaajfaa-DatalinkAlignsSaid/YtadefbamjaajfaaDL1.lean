import Derived.Test.YtadefbamjaajfaaEngQ
import Derived.Test.YtadefbamjaajfaaCode
namespace Go.Proofs.Ytadefbamjaajfaa
open Go.Eng
set_option maxRecDepth 100000
set_option linter.unusedVariables false

structure DL where
  cap : Int
  mod : Int
  label : Int
  item : Int
  last : Int
  fr : List (Int × Int)
  ak : List Int
  deriving DecidableEq

def gI (l : List Int) (i : Nat) : Int := l.getD i 0
def gF (l : List (Int × Int)) (i : Nat) : Int × Int := l.getD i (0, 0)

def vI (l : List Int) : Nat → Nat → V := fun i _ => .int .i64 (gI l i)
def vF (l : List (Int × Int)) : Nat → Nat → V := fun i j => match j with
  | 0 => .int .i64 (gF l i).1
  | _ + 1 => .int .i64 (gF l i).2

def DL.v (x : DL) : V := .agg [.int .i64 x.cap, .int .i64 x.mod, .int .i64 x.label, .int .i64 x.item, .int .i64 x.last, .fz x.fr.length 2 false (vF x.fr), .fz x.ak.length 1 false (vI x.ak)]

def okL (m l : Int) : Bool := decide (0 ≤ l ∧ l ≤ m - 1)
def okF (m : Int) (f : Int × Int) : Bool := okL m f.1 && decide (-1073741824 ≤ f.2 ∧ f.2 ≤ 1073741824)

def DL.valid (x : DL) : Bool :=
  decide (1 ≤ x.cap ∧ x.cap ≤ 8 ∧ 2 * x.cap + 2 ≤ x.mod ∧ x.mod ≤ 64 ∧ 0 ≤ x.label ∧ x.label ≤ x.mod - 1 ∧ 0 ≤ x.last ∧ x.last ≤ x.mod - 1 ∧ 0 ≤ x.item ∧ x.item ≤ 1073741824 ∧ (x.fr.length : Int) ≤ x.cap ∧ (x.ak.length : Int) ≤ x.cap) &&
  (x.fr.all (okF x.mod) && x.ak.all (okL x.mod))

theorem within_ok (a b c : Int) (own : Own) (ks : List Nat) : CallF Try.prog 25 [.int .i64 a, .int .i64 b, .int .i64 c] own ks (fun v o k => v = .bool (decide (b ≤ a ∧ a ≤ c)) ∧ o = own ∧ k = ks) := by
  refine fn_rule mixed Try.func25 rfl hc25 hr25 rfl ?_
  repeat' ((conv => whnf); first
      | (refine Br.tt ?_)
      | (refine Br.ff ?_)
      | (refine Br.dec (fun _ => ?_) (fun _ => ?_) <;> first | (exfalso; omega) | skip)
      | (refine Br.beq (fun _ => ?_) (fun _ => ?_) <;> first | (exfalso; omega) | skip)
      | (refine Br.bne (fun _ => ?_) (fun _ => ?_) <;> first | (exfalso; omega) | skip)
      | (refine Br.nbeq (fun _ => ?_) (fun _ => ?_) <;> first | (exfalso; omega) | skip)
      | (refine Br.nble (fun _ => ?_) (fun _ => ?_) <;> first | (exfalso; omega) | skip)
      | (refine Ar.i64 (by omega) (by omega) ?_)
      | (refine Ar.u32 (by omega) (by omega) ?_)
      | (refine Sv.mk _ rfl ?_)
      | (refine Nz.mk (by omega) ?_)
      | (refine Nn.mk (by omega) ?_)
      | (refine Ix.nat (by omega) ?_)
      | (refine Ix.ofNat (by omega) ?_)
      | (refine Ix.mk 0 rfl (by omega) ?_)
      | (refine Ix.mk 1 rfl (by omega) ?_)
      | (refine Ix.int (by omega) (by omega) ?_)
      | (refine Bd.nat (by omega) ?_)
      | (refine Bd.mk 0 rfl (by omega) ?_)
      | (refine Bd.mk 1 rfl (by omega) ?_)
      | (refine Bd.int (by omega) (by omega) ?_)
      | (refine Len.mk (by omega) ?_)
      | (refine Len.mk (by simp only [List.length_cons, List.length_nil]; omega) ?_)
      | (refine Ltn.mk (by omega) ?_)
      | (refine Both.mk ?_ ?_)
      | (refine Br.any (fun _ => ?_) (fun _ => ?_)))
  all_goals (conv => whnf)
  all_goals (simp; try omega)

theorem in_ok (a b c : Int) (own : Own) (ks : List Nat) : CallF Try.prog 26 [.int .i64 a, .int .i64 b, .int .i64 c] own ks (fun v o k => v = .bool (decide (b ≤ a ∧ a ≤ c)) ∧ o = own ∧ k = ks) := by
  refine fn_rule mixed Try.func26 rfl hc26 hr26 rfl ?_
  repeat' ((conv => whnf); first
      | (refine Br.tt ?_)
      | (refine Br.ff ?_)
      | (refine Br.dec (fun _ => ?_) (fun _ => ?_) <;> first | (exfalso; omega) | skip)
      | (refine Br.beq (fun _ => ?_) (fun _ => ?_) <;> first | (exfalso; omega) | skip)
      | (refine Br.bne (fun _ => ?_) (fun _ => ?_) <;> first | (exfalso; omega) | skip)
      | (refine Br.nbeq (fun _ => ?_) (fun _ => ?_) <;> first | (exfalso; omega) | skip)
      | (refine Br.nble (fun _ => ?_) (fun _ => ?_) <;> first | (exfalso; omega) | skip)
      | (refine Ar.i64 (by omega) (by omega) ?_)
      | (refine Ar.u32 (by omega) (by omega) ?_)
      | (refine Sv.mk _ rfl ?_)
      | (refine Nz.mk (by omega) ?_)
      | (refine Nn.mk (by omega) ?_)
      | (refine Ix.nat (by omega) ?_)
      | (refine Ix.ofNat (by omega) ?_)
      | (refine Ix.mk 0 rfl (by omega) ?_)
      | (refine Ix.mk 1 rfl (by omega) ?_)
      | (refine Ix.int (by omega) (by omega) ?_)
      | (refine Bd.nat (by omega) ?_)
      | (refine Bd.mk 0 rfl (by omega) ?_)
      | (refine Bd.mk 1 rfl (by omega) ?_)
      | (refine Bd.int (by omega) (by omega) ?_)
      | (refine Len.mk (by omega) ?_)
      | (refine Len.mk (by simp only [List.length_cons, List.length_nil]; omega) ?_)
      | (refine Ltn.mk (by omega) ?_)
      | (refine Both.mk ?_ ?_)
      | (refine Br.any (fun _ => ?_) (fun _ => ?_)))
  all_goals (conv => whnf)
  all_goals (simp; try omega)

theorem all_take_succ {α : Type} (p : α → Bool) (l : List α) (i : Nat) (d : α) (h : i < l.length) (h1 : (l.take i).all p = true) (h2 : p (l.getD i d) = true) : (l.take (i + 1)).all p = true := by
  rw [List.take_succ_eq_append_getElem h, List.all_append, h1]
  simpa [h] using h2

theorem all_false_of {α : Type} {p : α → Bool} {l : List α} (i : Nat) (d : α) (h : i < l.length) (hp : p (l.getD i d) = false) : l.all p = false := by
  rw [List.all_eq_false]
  exact ⟨l[i], List.getElem_mem h, by simpa [h] using hp⟩

theorem all_true_of {α : Type} {p : α → Bool} {l : List α} {i : Nat} (h : l.length ≤ i) (hp : (l.take i).all p = true) : l.all p = true := by
  rwa [List.take_of_length_le h] at hp

theorem okF_true {m : Int} {f : Int × Int} (h1 : 0 ≤ f.1 ∧ f.1 ≤ m - 1) (h2 : -1073741824 ≤ f.2 ∧ f.2 ≤ 1073741824) : okF m f = true := by
  simp only [okF, okL, Bool.and_eq_true, decide_eq_true_eq]; exact ⟨h1, h2⟩
theorem okF_false1 {m : Int} {f : Int × Int} (h1 : ¬ (0 ≤ f.1 ∧ f.1 ≤ m - 1)) : okF m f = false := by
  simp only [okF, okL, decide_eq_false h1, Bool.false_and]
theorem okF_false2 {m : Int} {f : Int × Int} (h1 : ¬ (-1073741824 ≤ f.2 ∧ f.2 ≤ 1073741824)) : okF m f = false := by
  simp only [okF, decide_eq_false h1, Bool.and_false]

theorem valid_fr {x : DL} (i : Nat) (h : i < x.fr.length) (hp : okF x.mod (gF x.fr i) = false) : V.bool false = V.bool x.valid := by
  rw [DL.valid, all_false_of i (0, 0) h hp]; simp
theorem valid_ak {x : DL} (i : Nat) (h : i < x.ak.length) (hp : okL x.mod (gI x.ak i) = false) : V.bool false = V.bool x.valid := by
  rw [DL.valid, all_false_of i 0 h hp]; simp
theorem valid_all {x : DL} (h0 : 1 ≤ x.cap ∧ x.cap ≤ 8) (h1 : 2 * x.cap + 2 ≤ x.mod ∧ x.mod ≤ 64) (h2 : 0 ≤ x.label ∧ x.label ≤ x.mod - 1) (h3 : 0 ≤ x.last ∧ x.last ≤ x.mod - 1) (h4 : 0 ≤ x.item ∧ x.item ≤ 1073741824) (h5 : ¬ (x.fr.length : Int) > x.cap) (h6 : ¬ (x.ak.length : Int) > x.cap)
    (h7 : x.fr.all (okF x.mod) = true) (h8 : x.ak.all (okL x.mod) = true) : V.bool true = V.bool x.valid := by
  rw [DL.valid, h7, h8]; simp only [Bool.and_true, V.bool.injEq]; symm; rw [decide_eq_true_eq]; omega
theorem valid_none {x : DL} (h : ¬ (1 ≤ x.cap ∧ x.cap ≤ 8 ∧ 2 * x.cap + 2 ≤ x.mod ∧ x.mod ≤ 64 ∧ 0 ≤ x.label ∧ x.label ≤ x.mod - 1 ∧ 0 ≤ x.last ∧ x.last ≤ x.mod - 1 ∧ 0 ≤ x.item ∧ x.item ≤ 1073741824 ∧ (x.fr.length : Int) ≤ x.cap ∧ (x.ak.length : Int) ≤ x.cap)) : V.bool false = V.bool x.valid := by
  rw [DL.valid, decide_eq_false h]; rfl

theorem valid_ok (x : DL) : CallF Try.prog 14 [x.v] [] KS (fun v o k => v = .bool x.valid) := by
  refine fn_rule mixed Try.func14 rfl hc14 hr14 rfl ?_
  repeat' ((conv => whnf); first
      | (refine Br.tt ?_)
      | (refine Br.ff ?_)
      | (refine Br.dec (fun _ => ?_) (fun _ => ?_) <;> first | (exfalso; omega) | skip)
      | (refine Br.beq (fun _ => ?_) (fun _ => ?_) <;> first | (exfalso; omega) | skip)
      | (refine Br.bne (fun _ => ?_) (fun _ => ?_) <;> first | (exfalso; omega) | skip)
      | (refine Br.nbeq (fun _ => ?_) (fun _ => ?_) <;> first | (exfalso; omega) | skip)
      | (refine Br.nble (fun _ => ?_) (fun _ => ?_) <;> first | (exfalso; omega) | skip)
      | (refine Ar.i64 (by omega) (by omega) ?_)
      | (refine Ar.u32 (by omega) (by omega) ?_)
      | (refine Sv.mk _ rfl ?_)
      | (refine Nz.mk (by omega) ?_)
      | (refine Nn.mk (by omega) ?_)
      | (refine Ix.nat (by omega) ?_)
      | (refine Ix.ofNat (by omega) ?_)
      | (refine Ix.mk 0 rfl (by omega) ?_)
      | (refine Ix.mk 1 rfl (by omega) ?_)
      | (refine Ix.int (by omega) (by omega) ?_)
      | (refine Bd.nat (by omega) ?_)
      | (refine Bd.mk 0 rfl (by omega) ?_)
      | (refine Bd.mk 1 rfl (by omega) ?_)
      | (refine Bd.int (by omega) (by omega) ?_)
      | (refine Len.mk (by omega) ?_)
      | (refine Len.mk (by simp only [List.length_cons, List.length_nil]; omega) ?_)
      | (refine Ltn.mk (by omega) ?_)
      | (refine Both.mk ?_ ?_)
      | (refine (within_ok _ _ _ _ _).mono ?_; rintro _ _ _ ⟨rfl, rfl, rfl⟩)
      | (refine Br.any (fun _ => ?_) (fun _ => ?_)))
  all_goals (conv => whnf)
  all_goals try exact valid_none (by omega)
  refine loop_r mixed [58, 59, 1] (fun i : Nat => [(60, .int .i64 i)]) (fun n i => n = x.fr.length - i ∧ i ≤ x.fr.length ∧ (x.fr.take i).all (okF x.mod) = true) x.fr.length 0 ⟨rfl, by omega, rfl⟩ ?_ ?_
  · refine weak_ren [(0, some 0)] ?_ ?_ rfl rfl rfl rfl rfl
    · repeat' (first | exact True.intro | (refine ⟨⟨_, rfl, ?_⟩, ?_⟩) | exact VRen.kf rfl | exact VRen.int (by omega) | exact VRen.loc rfl | exact VRen.vec rfl rfl rfl | exact VRen.vec rfl (by omega) (by omega) | exact VRen.nil rfl rfl | exact VRen.fz rfl (fun h => h) (fun _ _ _ _ => VLe.rfl))
    · repeat' (first | exact True.intro | (refine ⟨⟨_, rfl, ?_⟩, ?_⟩) | (refine ⟨⟨_, _, rfl⟩, ?_⟩) | exact VRen.kf rfl | exact VRen.int (by omega) | exact VRen.loc rfl | exact VRen.vec rfl rfl rfl | exact VRen.vec rfl (by omega) (by omega) | exact VRen.nil rfl rfl | (refine ⟨by omega, rfl, fun i j hi hj => ?_⟩) | exact VLe.rfl | (refine And.intro ?_ ?_))
  rintro n i ⟨hn, hi, hall⟩
  repeat' ((conv => whnf); first
      | (refine Br.tt ?_)
      | (refine Br.ff ?_)
      | (refine Br.dec (fun _ => ?_) (fun _ => ?_) <;> first | (exfalso; omega) | skip)
      | (refine Br.beq (fun _ => ?_) (fun _ => ?_) <;> first | (exfalso; omega) | skip)
      | (refine Br.bne (fun _ => ?_) (fun _ => ?_) <;> first | (exfalso; omega) | skip)
      | (refine Br.nbeq (fun _ => ?_) (fun _ => ?_) <;> first | (exfalso; omega) | skip)
      | (refine Br.nble (fun _ => ?_) (fun _ => ?_) <;> first | (exfalso; omega) | skip)
      | (refine Ar.i64 (by omega) (by omega) ?_)
      | (refine Ar.u32 (by omega) (by omega) ?_)
      | (refine Sv.mk _ rfl ?_)
      | (refine Nz.mk (by omega) ?_)
      | (refine Nn.mk (by omega) ?_)
      | (refine Ix.nat (by omega) ?_)
      | (refine Ix.ofNat (by omega) ?_)
      | (refine Ix.mk 0 rfl (by omega) ?_)
      | (refine Ix.mk 1 rfl (by omega) ?_)
      | (refine Ix.int (by omega) (by omega) ?_)
      | (refine Bd.nat (by omega) ?_)
      | (refine Bd.mk 0 rfl (by omega) ?_)
      | (refine Bd.mk 1 rfl (by omega) ?_)
      | (refine Bd.int (by omega) (by omega) ?_)
      | (refine Len.mk (by omega) ?_)
      | (refine Len.mk (by simp only [List.length_cons, List.length_nil]; omega) ?_)
      | (refine Ltn.mk (by omega) ?_)
      | (refine Both.mk ?_ ?_)
      | (refine (within_ok _ _ _ _ _).mono ?_; rintro _ _ _ ⟨rfl, rfl, rfl⟩)
      | (refine Br.any (fun _ => ?_) (fun _ => ?_)))
  all_goals (conv => whnf)
  · refine ⟨x.fr.length - (i + 1), i + 1, by omega, ⟨rfl, by omega, ?_⟩, ?_⟩
    · exact all_take_succ _ _ _ (0, 0) (by omega) hall (okF_true ‹_› ‹_›)
    · refine weak_ren [(0, some 0)] ?_ ?_ rfl rfl rfl rfl rfl
      · repeat' (first | exact True.intro | (refine ⟨⟨_, rfl, ?_⟩, ?_⟩) | exact VRen.kf rfl | exact VRen.int (by omega) | exact VRen.loc rfl | exact VRen.vec rfl rfl rfl | exact VRen.vec rfl (by omega) (by omega) | exact VRen.nil rfl rfl | exact VRen.fz rfl (fun h => h) (fun _ _ _ _ => VLe.rfl))
      · repeat' (first | exact True.intro | (refine ⟨⟨_, rfl, ?_⟩, ?_⟩) | (refine ⟨⟨_, _, rfl⟩, ?_⟩) | exact VRen.kf rfl | exact VRen.int (by omega) | exact VRen.loc rfl | exact VRen.vec rfl rfl rfl | exact VRen.vec rfl (by omega) (by omega) | exact VRen.nil rfl rfl | (refine ⟨by omega, rfl, fun i j hi hj => ?_⟩) | exact VLe.rfl | (refine And.intro ?_ ?_))
  · exact valid_fr i (by omega) (okF_false2 ‹_›)
  · exact valid_fr i (by omega) (okF_false1 ‹_›)
  have hfr := all_true_of (by omega) hall
  refine loop_r mixed [79, 80, 1] (fun i : Nat => [(81, .int .i64 i)]) (fun n i => n = x.ak.length - i ∧ i ≤ x.ak.length ∧ (x.ak.take i).all (okL x.mod) = true) x.ak.length 0 ⟨rfl, by omega, rfl⟩ ?_ ?_
  · refine weak_ren [(0, some 0)] ?_ ?_ rfl rfl rfl rfl rfl
    · repeat' (first | exact True.intro | (refine ⟨⟨_, rfl, ?_⟩, ?_⟩) | exact VRen.kf rfl | exact VRen.int (by omega) | exact VRen.loc rfl | exact VRen.vec rfl rfl rfl | exact VRen.vec rfl (by omega) (by omega) | exact VRen.nil rfl rfl | exact VRen.fz rfl (fun h => h) (fun _ _ _ _ => VLe.rfl))
    · repeat' (first | exact True.intro | (refine ⟨⟨_, rfl, ?_⟩, ?_⟩) | (refine ⟨⟨_, _, rfl⟩, ?_⟩) | exact VRen.kf rfl | exact VRen.int (by omega) | exact VRen.loc rfl | exact VRen.vec rfl rfl rfl | exact VRen.vec rfl (by omega) (by omega) | exact VRen.nil rfl rfl | (refine ⟨by omega, rfl, fun i j hi hj => ?_⟩) | exact VLe.rfl | (refine And.intro ?_ ?_))
  rintro n i ⟨hn, hi, hall⟩
  repeat' ((conv => whnf); first
      | (refine Br.tt ?_)
      | (refine Br.ff ?_)
      | (refine Br.dec (fun _ => ?_) (fun _ => ?_) <;> first | (exfalso; omega) | skip)
      | (refine Br.beq (fun _ => ?_) (fun _ => ?_) <;> first | (exfalso; omega) | skip)
      | (refine Br.bne (fun _ => ?_) (fun _ => ?_) <;> first | (exfalso; omega) | skip)
      | (refine Br.nbeq (fun _ => ?_) (fun _ => ?_) <;> first | (exfalso; omega) | skip)
      | (refine Br.nble (fun _ => ?_) (fun _ => ?_) <;> first | (exfalso; omega) | skip)
      | (refine Ar.i64 (by omega) (by omega) ?_)
      | (refine Ar.u32 (by omega) (by omega) ?_)
      | (refine Sv.mk _ rfl ?_)
      | (refine Nz.mk (by omega) ?_)
      | (refine Nn.mk (by omega) ?_)
      | (refine Ix.nat (by omega) ?_)
      | (refine Ix.ofNat (by omega) ?_)
      | (refine Ix.mk 0 rfl (by omega) ?_)
      | (refine Ix.mk 1 rfl (by omega) ?_)
      | (refine Ix.int (by omega) (by omega) ?_)
      | (refine Bd.nat (by omega) ?_)
      | (refine Bd.mk 0 rfl (by omega) ?_)
      | (refine Bd.mk 1 rfl (by omega) ?_)
      | (refine Bd.int (by omega) (by omega) ?_)
      | (refine Len.mk (by omega) ?_)
      | (refine Len.mk (by simp only [List.length_cons, List.length_nil]; omega) ?_)
      | (refine Ltn.mk (by omega) ?_)
      | (refine Both.mk ?_ ?_)
      | (refine (within_ok _ _ _ _ _).mono ?_; rintro _ _ _ ⟨rfl, rfl, rfl⟩)
      | (refine Br.any (fun _ => ?_) (fun _ => ?_)))
  all_goals (conv => whnf)
  · refine ⟨x.ak.length - (i + 1), i + 1, by omega, ⟨rfl, by omega, ?_⟩, ?_⟩
    · exact all_take_succ _ _ _ 0 (by omega) hall (decide_eq_true ‹_›)
    · refine weak_ren [(0, some 0)] ?_ ?_ rfl rfl rfl rfl rfl
      · repeat' (first | exact True.intro | (refine ⟨⟨_, rfl, ?_⟩, ?_⟩) | exact VRen.kf rfl | exact VRen.int (by omega) | exact VRen.loc rfl | exact VRen.vec rfl rfl rfl | exact VRen.vec rfl (by omega) (by omega) | exact VRen.nil rfl rfl | exact VRen.fz rfl (fun h => h) (fun _ _ _ _ => VLe.rfl))
      · repeat' (first | exact True.intro | (refine ⟨⟨_, rfl, ?_⟩, ?_⟩) | (refine ⟨⟨_, _, rfl⟩, ?_⟩) | exact VRen.kf rfl | exact VRen.int (by omega) | exact VRen.loc rfl | exact VRen.vec rfl rfl rfl | exact VRen.vec rfl (by omega) (by omega) | exact VRen.nil rfl rfl | (refine ⟨by omega, rfl, fun i j hi hj => ?_⟩) | exact VLe.rfl | (refine And.intro ?_ ?_))
  · exact valid_ak i (by omega) (decide_eq_false ‹_›)
  · exact valid_all ‹_› ‹_› ‹_› ‹_› ‹_› ‹_› ‹_› hfr (all_true_of (by omega) hall)


theorem rvalid_ok (x : DL) : CallF Try.prog 20 [x.v] [] KS (fun v o k => v = .bool x.valid) := by
  refine fn_rule mixed Try.func20 rfl hc20 hr20 rfl ?_
  repeat' ((conv => whnf); first
      | (refine Br.tt ?_)
      | (refine Br.ff ?_)
      | (refine Br.dec (fun _ => ?_) (fun _ => ?_) <;> first | (exfalso; omega) | skip)
      | (refine Br.beq (fun _ => ?_) (fun _ => ?_) <;> first | (exfalso; omega) | skip)
      | (refine Br.bne (fun _ => ?_) (fun _ => ?_) <;> first | (exfalso; omega) | skip)
      | (refine Br.nbeq (fun _ => ?_) (fun _ => ?_) <;> first | (exfalso; omega) | skip)
      | (refine Br.nble (fun _ => ?_) (fun _ => ?_) <;> first | (exfalso; omega) | skip)
      | (refine Ar.i64 (by omega) (by omega) ?_)
      | (refine Ar.u32 (by omega) (by omega) ?_)
      | (refine Sv.mk _ rfl ?_)
      | (refine Nz.mk (by omega) ?_)
      | (refine Nn.mk (by omega) ?_)
      | (refine Ix.nat (by omega) ?_)
      | (refine Ix.ofNat (by omega) ?_)
      | (refine Ix.mk 0 rfl (by omega) ?_)
      | (refine Ix.mk 1 rfl (by omega) ?_)
      | (refine Ix.int (by omega) (by omega) ?_)
      | (refine Bd.nat (by omega) ?_)
      | (refine Bd.mk 0 rfl (by omega) ?_)
      | (refine Bd.mk 1 rfl (by omega) ?_)
      | (refine Bd.int (by omega) (by omega) ?_)
      | (refine Len.mk (by omega) ?_)
      | (refine Len.mk (by simp only [List.length_cons, List.length_nil]; omega) ?_)
      | (refine Ltn.mk (by omega) ?_)
      | (refine Both.mk ?_ ?_)
      | (refine (in_ok _ _ _ _ _).mono ?_; rintro _ _ _ ⟨rfl, rfl, rfl⟩)
      | (refine Br.any (fun _ => ?_) (fun _ => ?_)))
  all_goals (conv => whnf)
  all_goals try exact valid_none (by omega)
  refine loop_r mixed [1] (fun i : Nat => [(3, .int .i64 i)]) (fun n i => n = x.fr.length - i ∧ i ≤ x.fr.length ∧ (x.fr.take i).all (okF x.mod) = true) x.fr.length 0 ⟨rfl, by omega, rfl⟩ ?_ ?_
  · refine weak_ren [(0, some 0)] ?_ ?_ rfl rfl rfl rfl rfl
    · repeat' (first | exact True.intro | (refine ⟨⟨_, rfl, ?_⟩, ?_⟩) | exact VRen.kf rfl | exact VRen.int (by omega) | exact VRen.loc rfl | exact VRen.vec rfl rfl rfl | exact VRen.vec rfl (by omega) (by omega) | exact VRen.nil rfl rfl | exact VRen.fz rfl (fun h => h) (fun _ _ _ _ => VLe.rfl))
    · repeat' (first | exact True.intro | (refine ⟨⟨_, rfl, ?_⟩, ?_⟩) | (refine ⟨⟨_, _, rfl⟩, ?_⟩) | exact VRen.kf rfl | exact VRen.int (by omega) | exact VRen.loc rfl | exact VRen.vec rfl rfl rfl | exact VRen.vec rfl (by omega) (by omega) | exact VRen.nil rfl rfl | (refine ⟨by omega, rfl, fun i j hi hj => ?_⟩) | exact VLe.rfl | (refine And.intro ?_ ?_))
  rintro n i ⟨hn, hi, hall⟩
  repeat' ((conv => whnf); first
      | (refine Br.tt ?_)
      | (refine Br.ff ?_)
      | (refine Br.dec (fun _ => ?_) (fun _ => ?_) <;> first | (exfalso; omega) | skip)
      | (refine Br.beq (fun _ => ?_) (fun _ => ?_) <;> first | (exfalso; omega) | skip)
      | (refine Br.bne (fun _ => ?_) (fun _ => ?_) <;> first | (exfalso; omega) | skip)
      | (refine Br.nbeq (fun _ => ?_) (fun _ => ?_) <;> first | (exfalso; omega) | skip)
      | (refine Br.nble (fun _ => ?_) (fun _ => ?_) <;> first | (exfalso; omega) | skip)
      | (refine Ar.i64 (by omega) (by omega) ?_)
      | (refine Ar.u32 (by omega) (by omega) ?_)
      | (refine Sv.mk _ rfl ?_)
      | (refine Nz.mk (by omega) ?_)
      | (refine Nn.mk (by omega) ?_)
      | (refine Ix.nat (by omega) ?_)
      | (refine Ix.ofNat (by omega) ?_)
      | (refine Ix.mk 0 rfl (by omega) ?_)
      | (refine Ix.mk 1 rfl (by omega) ?_)
      | (refine Ix.int (by omega) (by omega) ?_)
      | (refine Bd.nat (by omega) ?_)
      | (refine Bd.mk 0 rfl (by omega) ?_)
      | (refine Bd.mk 1 rfl (by omega) ?_)
      | (refine Bd.int (by omega) (by omega) ?_)
      | (refine Len.mk (by omega) ?_)
      | (refine Len.mk (by simp only [List.length_cons, List.length_nil]; omega) ?_)
      | (refine Ltn.mk (by omega) ?_)
      | (refine Both.mk ?_ ?_)
      | (refine (in_ok _ _ _ _ _).mono ?_; rintro _ _ _ ⟨rfl, rfl, rfl⟩)
      | (refine Br.any (fun _ => ?_) (fun _ => ?_)))
  all_goals (conv => whnf)
  · refine ⟨x.fr.length - (i + 1), i + 1, by omega, ⟨rfl, by omega, ?_⟩, ?_⟩
    · exact all_take_succ _ _ _ (0, 0) (by omega) hall (okF_true ‹_› ‹_›)
    · refine weak_ren [(0, some 0)] ?_ ?_ rfl rfl rfl rfl rfl
      · repeat' (first | exact True.intro | (refine ⟨⟨_, rfl, ?_⟩, ?_⟩) | exact VRen.kf rfl | exact VRen.int (by omega) | exact VRen.loc rfl | exact VRen.vec rfl rfl rfl | exact VRen.vec rfl (by omega) (by omega) | exact VRen.nil rfl rfl | exact VRen.fz rfl (fun h => h) (fun _ _ _ _ => VLe.rfl))
      · repeat' (first | exact True.intro | (refine ⟨⟨_, rfl, ?_⟩, ?_⟩) | (refine ⟨⟨_, _, rfl⟩, ?_⟩) | exact VRen.kf rfl | exact VRen.int (by omega) | exact VRen.loc rfl | exact VRen.vec rfl rfl rfl | exact VRen.vec rfl (by omega) (by omega) | exact VRen.nil rfl rfl | (refine ⟨by omega, rfl, fun i j hi hj => ?_⟩) | exact VLe.rfl | (refine And.intro ?_ ?_))
  · exact valid_fr i (by omega) (okF_false2 ‹_›)
  · exact valid_fr i (by omega) (okF_false1 ‹_›)
  have hfr := all_true_of (by omega) hall
  refine loop_r mixed [1] (fun i : Nat => [(4, .int .i64 i)]) (fun n i => n = x.ak.length - i ∧ i ≤ x.ak.length ∧ (x.ak.take i).all (okL x.mod) = true) x.ak.length 0 ⟨rfl, by omega, rfl⟩ ?_ ?_
  · refine weak_ren [(0, some 0)] ?_ ?_ rfl rfl rfl rfl rfl
    · repeat' (first | exact True.intro | (refine ⟨⟨_, rfl, ?_⟩, ?_⟩) | exact VRen.kf rfl | exact VRen.int (by omega) | exact VRen.loc rfl | exact VRen.vec rfl rfl rfl | exact VRen.vec rfl (by omega) (by omega) | exact VRen.nil rfl rfl | exact VRen.fz rfl (fun h => h) (fun _ _ _ _ => VLe.rfl))
    · repeat' (first | exact True.intro | (refine ⟨⟨_, rfl, ?_⟩, ?_⟩) | (refine ⟨⟨_, _, rfl⟩, ?_⟩) | exact VRen.kf rfl | exact VRen.int (by omega) | exact VRen.loc rfl | exact VRen.vec rfl rfl rfl | exact VRen.vec rfl (by omega) (by omega) | exact VRen.nil rfl rfl | (refine ⟨by omega, rfl, fun i j hi hj => ?_⟩) | exact VLe.rfl | (refine And.intro ?_ ?_))
  rintro n i ⟨hn, hi, hall⟩
  repeat' ((conv => whnf); first
      | (refine Br.tt ?_)
      | (refine Br.ff ?_)
      | (refine Br.dec (fun _ => ?_) (fun _ => ?_) <;> first | (exfalso; omega) | skip)
      | (refine Br.beq (fun _ => ?_) (fun _ => ?_) <;> first | (exfalso; omega) | skip)
      | (refine Br.bne (fun _ => ?_) (fun _ => ?_) <;> first | (exfalso; omega) | skip)
      | (refine Br.nbeq (fun _ => ?_) (fun _ => ?_) <;> first | (exfalso; omega) | skip)
      | (refine Br.nble (fun _ => ?_) (fun _ => ?_) <;> first | (exfalso; omega) | skip)
      | (refine Ar.i64 (by omega) (by omega) ?_)
      | (refine Ar.u32 (by omega) (by omega) ?_)
      | (refine Sv.mk _ rfl ?_)
      | (refine Nz.mk (by omega) ?_)
      | (refine Nn.mk (by omega) ?_)
      | (refine Ix.nat (by omega) ?_)
      | (refine Ix.ofNat (by omega) ?_)
      | (refine Ix.mk 0 rfl (by omega) ?_)
      | (refine Ix.mk 1 rfl (by omega) ?_)
      | (refine Ix.int (by omega) (by omega) ?_)
      | (refine Bd.nat (by omega) ?_)
      | (refine Bd.mk 0 rfl (by omega) ?_)
      | (refine Bd.mk 1 rfl (by omega) ?_)
      | (refine Bd.int (by omega) (by omega) ?_)
      | (refine Len.mk (by omega) ?_)
      | (refine Len.mk (by simp only [List.length_cons, List.length_nil]; omega) ?_)
      | (refine Ltn.mk (by omega) ?_)
      | (refine Both.mk ?_ ?_)
      | (refine (in_ok _ _ _ _ _).mono ?_; rintro _ _ _ ⟨rfl, rfl, rfl⟩)
      | (refine Br.any (fun _ => ?_) (fun _ => ?_)))
  all_goals (conv => whnf)
  · refine ⟨x.ak.length - (i + 1), i + 1, by omega, ⟨rfl, by omega, ?_⟩, ?_⟩
    · exact all_take_succ _ _ _ 0 (by omega) hall (decide_eq_true ‹_›)
    · refine weak_ren [(0, some 0)] ?_ ?_ rfl rfl rfl rfl rfl
      · repeat' (first | exact True.intro | (refine ⟨⟨_, rfl, ?_⟩, ?_⟩) | exact VRen.kf rfl | exact VRen.int (by omega) | exact VRen.loc rfl | exact VRen.vec rfl rfl rfl | exact VRen.vec rfl (by omega) (by omega) | exact VRen.nil rfl rfl | exact VRen.fz rfl (fun h => h) (fun _ _ _ _ => VLe.rfl))
      · repeat' (first | exact True.intro | (refine ⟨⟨_, rfl, ?_⟩, ?_⟩) | (refine ⟨⟨_, _, rfl⟩, ?_⟩) | exact VRen.kf rfl | exact VRen.int (by omega) | exact VRen.loc rfl | exact VRen.vec rfl rfl rfl | exact VRen.vec rfl (by omega) (by omega) | exact VRen.nil rfl rfl | (refine ⟨by omega, rfl, fun i j hi hj => ?_⟩) | exact VLe.rfl | (refine And.intro ?_ ?_))
  · exact valid_ak i (by omega) (decide_eq_false ‹_›)
  · exact valid_all ‹_› ‹_› ‹_› ‹_› ‹_› ‹_› ‹_› hfr (all_true_of (by omega) hall)

end Go.Proofs.Ytadefbamjaajfaa
