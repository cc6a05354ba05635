import Derived.Test.YtjadlpflhmooaaaGR12
import Derived.Test.YtjadlpflhmooaaaEngZ
namespace Go.Proofs.Ytjadlpflhmooaaa
open Go.Eng
set_option maxRecDepth 100000
set_option linter.unusedVariables false

/-! ## nets -/

structure Net where
  n : Int
  links : List Int
  weights : List Int
  ids : List Int
  apart : Bool
  back : Bool
def Net.v (x : Net) : V := .agg [.int .i64 x.n, .fz x.links.length 1 false (vI x.links), .fz x.weights.length 1 false (vI x.weights), .fz x.ids.length 1 false (vI x.ids), .bool x.apart, .bool x.back]
structure Net.Small (x : Net) : Prop where
  links : x.links.length ≤ 9223372036854775807
  weights : x.weights.length ≤ 9223372036854775807
  ids : x.ids.length ≤ 9223372036854775807

abbrev Ps := List (List (Int × Int))
def lnk (p : Ps) (a : Nat) (b : Int) : Bool := (gR p a).any fun l => decide (l.1 = b)

theorem linked_ok (g : G) (hs : g.Small) (a : Nat) (b : Int) (ha : a < g.ports.length) : Ret Try.prog 84 [g.v, .int .i64 a, .int .i64 b] (.bool (lnk g.ports a b)) := by
  have hrl := gR_len hs.rows a
  refine ret_frz rfl ?_
  refine fn_rule mixed Try.func84 rfl hc84 hr84 rfl ?_
  repeat' ((conv => whnf); first
      | (refine Br.tt ?_)
      | (refine Br.ff ?_)
      | (refine Br.dec (fun _ => ?_) (fun _ => ?_) <;> first | (exfalso; omega) | skip)
      | (refine Br.beq (fun _ => ?_) (fun _ => ?_) <;> first | (exfalso; omega) | skip)
      | (refine Br.bne (fun _ => ?_) (fun _ => ?_) <;> first | (exfalso; omega) | skip)
      | (refine Br.nbeq (fun _ => ?_) (fun _ => ?_) <;> first | (exfalso; omega) | skip)
      | (refine Br.nble (fun _ => ?_) (fun _ => ?_) <;> first | (exfalso; omega) | skip)
      | (refine Ar.i64 (by omega) (by omega) ?_)
      | (refine Ar.u32 (by omega) (by omega) ?_)
      | (refine Ar.sh1 (by omega) ?_)
      | (refine Ar.u64 (by omega) (by omega) ?_)
      | (refine Sv.mk _ rfl ?_)
      | (refine Nz.mk (by omega) ?_)
      | (refine Nn.mk (by omega) ?_)
      | (refine Ix.nat (by omega) ?_)
      | (refine Ix.ofNat (by omega) ?_)
      | (refine Ix.mk 0 rfl (by omega) ?_)
      | (refine Ix.mk 1 rfl (by omega) ?_)
      | (refine Ix.int (by omega) (by omega) ?_)
      | (refine Bd.nat (by omega) ?_)
      | (refine Bd.mk 0 rfl (by omega) ?_)
      | (refine Bd.mk 1 rfl (by omega) ?_)
      | (refine Bd.int (by omega) (by omega) ?_)
      | (refine Len.mk (by omega) ?_)
      | (refine Len.mk (by simp only [List.length_cons, List.length_nil]; omega) ?_)
      | (refine Ltn.mk (by omega) ?_)
      | (refine Both.mk ?_ ?_)
      | (refine MkS.vec ?_)
      | (refine Br.any (fun _ => ?_) (fun _ => ?_)))
  all_goals (conv => whnf)
  refine loop_r mixed [1, 2, 3] (fun i : Nat => [(7, .int .i64 i)]) (fun m i => m = (gR g.ports a).length - i ∧ i ≤ (gR g.ports a).length ∧ ((gR g.ports a).take i).any (fun l => decide (l.1 = b)) = false) (gR g.ports a).length 0 ⟨rfl, Nat.zero_le _, rfl⟩ ?_ ?_
  · refine weak_by (fun _ _ => [(0, some 0)]) ?_ ?_ rfl
    · repeat' (first | exact True.intro | exact VRen.oel rfl rfl | exact VRen.map rfl | exact VRen.yld rfl | (refine VRen.fn ?_) | exact ⟨rfl, rfl⟩ | exact ⟨rfl, rfl, rfl⟩ | (refine ⟨rfl, rfl, rfl, rfl, rfl, ?_⟩) | (refine ⟨⟨_, rfl, ?_⟩, ?_⟩) | exact VRen.kf rfl | exact VRen.int rfl | exact VRen.int (by omega) | exact VRen.loc rfl | exact VRen.vec rfl rfl rfl | exact VRen.vec rfl (by omega) (by omega) | exact VRen.nil rfl rfl | exact VRen.nil rfl (by omega) | exact VRen.fz rfl (fun h => h) (fun _ _ _ _ => VLe.rfl) | (refine ⟨Nat.le_refl _, rfl, fun i j hi hj => ?_⟩) | (refine ⟨by omega, rfl, fun i j hi hj => ?_⟩) | exact VLe.rfl | (refine ⟨⟨_, _, rfl⟩, ?_⟩) | (refine And.intro ?_ ?_))
    · repeat' (first | exact True.intro | exact VRen.oel rfl rfl | exact VRen.map rfl | exact VRen.yld rfl | (refine VRen.fn ?_) | exact ⟨rfl, rfl⟩ | exact ⟨rfl, rfl, rfl⟩ | (refine ⟨rfl, rfl, rfl, rfl, rfl, ?_⟩) | (refine ⟨⟨_, rfl, ?_⟩, ?_⟩) | exact VRen.kf rfl | exact VRen.int rfl | exact VRen.int (by omega) | exact VRen.loc rfl | exact VRen.vec rfl rfl rfl | exact VRen.vec rfl (by omega) (by omega) | exact VRen.nil rfl rfl | exact VRen.nil rfl (by omega) | exact VRen.fz rfl (fun h => h) (fun _ _ _ _ => VLe.rfl) | (refine ⟨Nat.le_refl _, rfl, fun i j hi hj => ?_⟩) | (refine ⟨by omega, rfl, fun i j hi hj => ?_⟩) | exact VLe.rfl | (refine ⟨⟨_, _, rfl⟩, ?_⟩) | (refine And.intro ?_ ?_))
  rintro m i ⟨hm, hi, hall⟩
  repeat' ((conv => whnf); first
      | (refine Br.tt ?_)
      | (refine Br.ff ?_)
      | (refine Br.dec (fun _ => ?_) (fun _ => ?_) <;> first | (exfalso; omega) | skip)
      | (refine Br.beq (fun _ => ?_) (fun _ => ?_) <;> first | (exfalso; omega) | skip)
      | (refine Br.bne (fun _ => ?_) (fun _ => ?_) <;> first | (exfalso; omega) | skip)
      | (refine Br.nbeq (fun _ => ?_) (fun _ => ?_) <;> first | (exfalso; omega) | skip)
      | (refine Br.nble (fun _ => ?_) (fun _ => ?_) <;> first | (exfalso; omega) | skip)
      | (refine Ar.i64 (by omega) (by omega) ?_)
      | (refine Ar.u32 (by omega) (by omega) ?_)
      | (refine Ar.sh1 (by omega) ?_)
      | (refine Ar.u64 (by omega) (by omega) ?_)
      | (refine Sv.mk _ rfl ?_)
      | (refine Nz.mk (by omega) ?_)
      | (refine Nn.mk (by omega) ?_)
      | (refine Ix.nat (by omega) ?_)
      | (refine Ix.ofNat (by omega) ?_)
      | (refine Ix.mk 0 rfl (by omega) ?_)
      | (refine Ix.mk 1 rfl (by omega) ?_)
      | (refine Ix.int (by omega) (by omega) ?_)
      | (refine Bd.nat (by omega) ?_)
      | (refine Bd.mk 0 rfl (by omega) ?_)
      | (refine Bd.mk 1 rfl (by omega) ?_)
      | (refine Bd.int (by omega) (by omega) ?_)
      | (refine Len.mk (by omega) ?_)
      | (refine Len.mk (by simp only [List.length_cons, List.length_nil]; omega) ?_)
      | (refine Ltn.mk (by omega) ?_)
      | (refine Both.mk ?_ ?_)
      | (refine MkS.vec ?_)
      | (refine Br.any (fun _ => ?_) (fun _ => ?_)))
  all_goals (conv => whnf)
  · refine VLe.bool ?_
    symm
    rw [lnk, List.any_eq_true]
    exact ⟨_, gF_mem (show i < (gR g.ports a).length by omega), by simp; omega⟩
  · refine ⟨(gR g.ports a).length - (i + 1), i + 1, by omega, ⟨rfl, by omega, ?_⟩, ?_⟩
    · rw [gF_take _ _ (by omega), List.any_append, hall]
      simp; omega
    · refine weak_by (fun _ _ => [(0, some 0)]) ?_ ?_ rfl
      · repeat' (first | exact True.intro | exact VRen.oel rfl rfl | exact VRen.map rfl | exact VRen.yld rfl | (refine VRen.fn ?_) | exact ⟨rfl, rfl⟩ | exact ⟨rfl, rfl, rfl⟩ | (refine ⟨rfl, rfl, rfl, rfl, rfl, ?_⟩) | (refine ⟨⟨_, rfl, ?_⟩, ?_⟩) | exact VRen.kf rfl | exact VRen.int rfl | exact VRen.int (by omega) | exact VRen.loc rfl | exact VRen.vec rfl rfl rfl | exact VRen.vec rfl (by omega) (by omega) | exact VRen.nil rfl rfl | exact VRen.nil rfl (by omega) | exact VRen.fz rfl (fun h => h) (fun _ _ _ _ => VLe.rfl) | (refine ⟨Nat.le_refl _, rfl, fun i j hi hj => ?_⟩) | (refine ⟨by omega, rfl, fun i j hi hj => ?_⟩) | exact VLe.rfl | (refine ⟨⟨_, _, rfl⟩, ?_⟩) | (refine And.intro ?_ ?_))
      · repeat' (first | exact True.intro | exact VRen.oel rfl rfl | exact VRen.map rfl | exact VRen.yld rfl | (refine VRen.fn ?_) | exact ⟨rfl, rfl⟩ | exact ⟨rfl, rfl, rfl⟩ | (refine ⟨rfl, rfl, rfl, rfl, rfl, ?_⟩) | (refine ⟨⟨_, rfl, ?_⟩, ?_⟩) | exact VRen.kf rfl | exact VRen.int rfl | exact VRen.int (by omega) | exact VRen.loc rfl | exact VRen.vec rfl rfl rfl | exact VRen.vec rfl (by omega) (by omega) | exact VRen.nil rfl rfl | exact VRen.nil rfl (by omega) | exact VRen.fz rfl (fun h => h) (fun _ _ _ _ => VLe.rfl) | (refine ⟨Nat.le_refl _, rfl, fun i j hi hj => ?_⟩) | (refine ⟨by omega, rfl, fun i j hi hj => ?_⟩) | exact VLe.rfl | (refine ⟨⟨_, _, rfl⟩, ?_⟩) | (refine And.intro ?_ ?_))
  · refine VLe.bool ?_
    rw [lnk, ← hall, List.take_of_length_le (by omega)]

/-! ## a link more -/

def addP (bk : Bool) (r : List (Int × Int)) (l : Int × Int) : List (Int × Int) := if bk then l :: r else r ++ [l]
def linkP (bk : Bool) (p : Ps) (a b : Nat) (w : Int) : Ps := if a = b ∨ lnk p a b = true then p else (p.set a (addP bk (gR p a) ((b : Int), w))).set b (addP bk (gR p b) ((a : Int), w))
def lenP (p : Ps) (i : Nat) : Nat := (gR p i).length
def rowP (p : Ps) (i : Nat) : Nat → Nat → V := vF (gR p i)
abbrev famP (p : Ps) : Blk := .fam p.length 2 (lenP p) (rowP p) []
def KS4 : List Nat := [2, 3, 4, 5, 6, 7, 8, 9, 10, 11, 12, 13, 14, 15, 16, 17, 18, 19, 20, 21, 22, 23, 24, 25, 26, 27, 28, 29]
def gOwn (g : G) : Own := [(0, .vec g.ids.length 1 (vI g.ids)), (1, famP g.ports)]
abbrev gV1 (i n : Nat) : V := .agg [.vec 0 1 0 i, .vec 1 1 0 n]

theorem lend_g (g : G) : VLe (V.agg [.fz g.ids.length 1 false (shiftF 0 (vI g.ids)), .fz g.ports.length 1 false fun i _ => .fz (lenP g.ports i) 2 false (rowP g.ports i)]) g.v := by
  refine VLe.agg ⟨VLe.fz rfl (fun h => h) (fun i j hi hj => VLe.of_eq ?_), VLe.rfl, True.intro⟩
  simp [shiftF]
theorem lend_g2 (g : G) (a b : Nat) : VLe (V.agg [.fz g.ids.length 1 false (shiftF 0 (vI g.ids)), .fz g.ports.length 1 false fun i _ => .fz (lenP g.ports i) 2 false (setF (setF (rowP g.ports) a (rowP g.ports a)) b (rowP g.ports b) i)]) g.v := by
  have e : setF (setF (rowP g.ports) a (rowP g.ports a)) b (rowP g.ports b) = rowP g.ports := by
    funext i
    simp only [setF]
    split
    · rename_i h; rw [h]
    · split
      · rename_i h; rw [h]
      · rfl
  rw [e]
  exact lend_g g
theorem gR_set (p : Ps) (a : Nat) (A : List (Int × Int)) (ha : a < p.length) (i : Nat) : gR (p.set a A) i = if i = a then A else gR p i := by
  simp only [gR, List.getD, List.getElem?_set]
  by_cases h : a = i
  · subst h; simp [ha]
  · have : ¬ i = a := fun e => h e.symm
    simp [h, this]
theorem getD_snocF (l : List (Int × Int)) (x : Int × Int) (i : Nat) : gF (l ++ [x]) i = if i < l.length then gF l i else if i = l.length then x else (0, 0) := by
  by_cases h : i < l.length
  · simp only [gF, List.getD, List.getElem?_append_left h, if_pos h]
  · rw [if_neg h]
    by_cases h2 : i = l.length
    · subst h2; simp [gF]
    · simp [gF, h2, List.getElem?_eq_none (by simp; omega : (l ++ [x]).length ≤ i)]
theorem vle_appF (l : List (Int × Int)) (a b : Int) (i j : Nat) (hi : i < l.length + 1) (hj : j < 2) :
    VLe (fapp (shiftF 0 (vF l)) l.length (shiftF 0 (tab [[.int .i64 a, .int .i64 b]])) i j) (vF (l ++ [(a, b)]) i j) := by
  apply VLe.of_eq
  by_cases h : i < l.length
  · rw [fapp_lt h]
    obtain rfl | rfl : j = 0 ∨ j = 1 := by omega
    · simp [shiftF, vF, getD_snocF, h]
    · simp [shiftF, vF, getD_snocF, h]
  · rw [fapp_ge h]
    have : i = l.length := by omega
    subst this
    obtain rfl | rfl : j = 0 ∨ j = 1 := by omega
    · simp [shiftF, vF, getD_snocF, tab]
    · simp [shiftF, vF, getD_snocF, tab]
theorem vle_preF (l : List (Int × Int)) (a b : Int) (i j : Nat) (hi : i < 1 + l.length) (hj : j < 2) :
    VLe (fapp (shiftF 0 (tab [[.int .i64 a, .int .i64 b]])) 1 (shiftF 0 (vF l)) i j) (vF ((a, b) :: l) i j) := by
  apply VLe.of_eq
  cases i with
  | zero =>
    rw [fapp_lt (by omega)]
    obtain rfl | rfl : j = 0 ∨ j = 1 := by omega
    · simp [shiftF, vF, gF, tab]
    · simp [shiftF, vF, gF, tab]
  | succ i =>
    rw [fapp_ge (by omega)]
    obtain rfl | rfl : j = 0 ∨ j = 1 := by omega
    · simp [shiftF, vF, gF]
    · simp [shiftF, vF, gF]

theorem rows2 {p : Ps} {a b : Nat} (ha : a < p.length) (hb : b < p.length) (hab : a ≠ b) {A B : List (Int × Int)} {fa fb : Nat → Nat → V} {la lb : Nat} (h1 : A.length = la) (h2 : B.length = lb)
    (h3 : ∀ j t, j < la → t < 2 → VLe (fa j t) (vF A j t)) (h4 : ∀ j t, j < lb → t < 2 → VLe (fb j t) (vF B j t)) (ρ : Rn) :
    BRen ρ (.fam p.length 2 (setN (setN (lenP p) a la) b lb) (setF (setF (rowP p) a fa) b fb) []) (famP ((p.set a A).set b B)) := by
  refine ⟨by simp, rfl, True.intro, fun i hi => ?_, fun i j t hi hn hj ht => ?_⟩
  · show (gR ((p.set a A).set b B) i).length = _
    rw [gR_set _ b B (by simpa using hb), gR_set p a A ha]
    simp only [setN]
    split
    · exact h2
    · split
      · exact h1
      · rfl
  · simp only [setN] at hj
    show VLe _ (vF (gR ((p.set a A).set b B) i) j t)
    rw [gR_set _ b B (by simpa using hb), gR_set p a A ha]
    simp only [setF]
    split
    · rename_i e; rw [if_pos e] at hj; exact h4 j t hj ht
    · rename_i e
      rw [if_neg e] at hj
      split
      · rename_i e; rw [if_pos e] at hj; exact h3 j t hj ht
      · exact VLe.rfl

set_option maxHeartbeats 8000000 in
theorem link_ok (x : Net) (g : G) (hs : g.Small) (hr : ∀ v, (gR g.ports v).length ≤ 1000) (a b : Nat) (ha : a < g.ports.length) (hb : b < g.ports.length) (w : Int) :
    CallF Try.prog 72 [x.v, gV1 g.ids.length g.ports.length, .int .i64 a, .int .i64 b, .int .i64 w] (gOwn g) KS4 fun v own' _ => v = .tup [] ∧ own' = gOwn ⟨g.ids, linkP x.back g.ports a b w⟩ := by
  have hl := linked_ok g hs a b ha
  have ra : lenP g.ports a ≤ 1000 := hr a
  have rb : lenP g.ports b ≤ 1000 := hr b
  refine call_post (call_step ?_)
  by_cases hab : a = b
  · rw [linkP, if_pos (.inl hab)]
    refine fn_rule mixed Try.func72 rfl hc72 hr72 rfl ?_
    repeat' ((conv => whnf); first
        | (refine Br.tt ?_)
        | (refine Br.ff ?_)
        | (refine Br.dec (fun _ => ?_) (fun _ => ?_) <;> first | (exfalso; omega) | skip)
        | (refine Br.beq (fun _ => ?_) (fun _ => ?_) <;> first | (exfalso; omega) | skip)
        | (refine Br.bne (fun _ => ?_) (fun _ => ?_) <;> first | (exfalso; omega) | skip)
        | (refine Br.nbeq (fun _ => ?_) (fun _ => ?_) <;> first | (exfalso; omega) | skip)
        | (refine Br.nble (fun _ => ?_) (fun _ => ?_) <;> first | (exfalso; omega) | skip)
        | (refine Ar.i64 (by omega) (by omega) ?_)
        | (refine Ar.u32 (by omega) (by omega) ?_)
        | (refine Ar.sh1 (by omega) ?_)
        | (refine Ar.u64 (by omega) (by omega) ?_)
        | (refine Sv.mk _ rfl ?_)
        | (refine Nz.mk (by omega) ?_)
        | (refine Nn.mk (by omega) ?_)
        | (refine Ix.nat (by omega) ?_)
        | (refine Ix.ofNat (by omega) ?_)
        | (refine Ix.mk 0 rfl (by omega) ?_)
        | (refine Ix.mk 1 rfl (by omega) ?_)
        | (refine Ix.int (by omega) (by omega) ?_)
        | (refine Bd.nat (by omega) ?_)
        | (refine Bd.mk 0 rfl (by omega) ?_)
        | (refine Bd.mk 1 rfl (by omega) ?_)
        | (refine Bd.int (by omega) (by omega) ?_)
        | (refine Len.mk (by omega) ?_)
        | (refine Len.mk (by simp only [List.length_cons, List.length_nil]; omega) ?_)
        | (refine Ltn.mk (by omega) ?_)
        | (refine Both.mk ?_ ?_)
        | (refine MkS.vec ?_)
        | (refine Br.any (fun _ => ?_) (fun _ => ?_)))
    all_goals (conv => whnf)
    exact ⟨_, OwnStep.refl _, postR_by (fun _ => [(0, some 0), (1, some 1)]) _ _ ⟨rfl, rfl⟩ (VRen.kf rfl) (by repeat' (first | (refine ⟨rfl, rfl, True.intro, fun i hi => rfl, fun i j t hi hn hj ht => VLe.rfl⟩) | exact True.intro | exact VRen.oel rfl rfl | exact VRen.map rfl | exact VRen.yld rfl | (refine VRen.fn ?_) | exact ⟨rfl, rfl⟩ | exact ⟨rfl, rfl, rfl⟩ | (refine ⟨rfl, rfl, rfl, rfl, rfl, ?_⟩) | (refine ⟨⟨_, rfl, ?_⟩, ?_⟩) | exact VRen.kf rfl | exact VRen.int rfl | exact VRen.int (by omega) | exact VRen.loc rfl | exact VRen.vec rfl rfl rfl | exact VRen.vec rfl (by omega) (by omega) | exact VRen.nil rfl rfl | exact VRen.nil rfl (by omega) | exact VRen.fz rfl (fun h => h) (fun _ _ _ _ => VLe.rfl) | (refine ⟨Nat.le_refl _, rfl, fun i j hi hj => ?_⟩) | (refine ⟨by omega, rfl, fun i j hi hj => ?_⟩) | exact VLe.rfl | (refine ⟨⟨_, _, rfl⟩, ?_⟩) | (refine And.intro ?_ ?_))) rfl⟩
  cases hk : lnk g.ports a b with
  | true =>
    rw [hk] at hl
    rw [linkP, if_pos (.inr hk)]
    refine fn_rule mixed Try.func72 rfl hc72 hr72 rfl ?_
    repeat' ((conv => whnf); first
        | (refine Br.tt ?_)
        | (refine Br.ff ?_)
        | (refine Br.dec (fun _ => ?_) (fun _ => ?_) <;> first | (exfalso; omega) | skip)
        | (refine Br.beq (fun _ => ?_) (fun _ => ?_) <;> first | (exfalso; omega) | skip)
        | (refine Br.bne (fun _ => ?_) (fun _ => ?_) <;> first | (exfalso; omega) | skip)
        | (refine Br.nbeq (fun _ => ?_) (fun _ => ?_) <;> first | (exfalso; omega) | skip)
        | (refine Br.nble (fun _ => ?_) (fun _ => ?_) <;> first | (exfalso; omega) | skip)
        | (refine Ar.i64 (by omega) (by omega) ?_)
        | (refine Ar.u32 (by omega) (by omega) ?_)
        | (refine Ar.sh1 (by omega) ?_)
        | (refine Ar.u64 (by omega) (by omega) ?_)
        | (refine Sv.mk _ rfl ?_)
        | (refine Nz.mk (by omega) ?_)
        | (refine Nn.mk (by omega) ?_)
        | (refine Ix.nat (by omega) ?_)
        | (refine Ix.ofNat (by omega) ?_)
        | (refine Ix.mk 0 rfl (by omega) ?_)
        | (refine Ix.mk 1 rfl (by omega) ?_)
        | (refine Ix.int (by omega) (by omega) ?_)
        | (refine Bd.nat (by omega) ?_)
        | (refine Bd.mk 0 rfl (by omega) ?_)
        | (refine Bd.mk 1 rfl (by omega) ?_)
        | (refine Bd.int (by omega) (by omega) ?_)
        | (refine Len.mk (by omega) ?_)
        | (refine Len.mk (by simp only [List.length_cons, List.length_nil]; omega) ?_)
        | (refine Ltn.mk (by omega) ?_)
        | (refine Both.mk ?_ ?_)
        | (refine MkS.vec ?_)
        | (refine call_lend hl rfl ⟨by omega, by omega, lend_g g, VLe.rfl, VLe.rfl, True.intro⟩ ?_)
        | (refine Br.any (fun _ => ?_) (fun _ => ?_)))
    all_goals (conv => whnf)
    exact ⟨_, OwnStep.refl _, postR_by (fun _ => [(0, some 0), (1, some 1)]) _ _ ⟨rfl, rfl⟩ (VRen.kf rfl) (by repeat' (first | (refine ⟨rfl, rfl, True.intro, fun i hi => rfl, fun i j t hi hn hj ht => VLe.rfl⟩) | exact True.intro | exact VRen.oel rfl rfl | exact VRen.map rfl | exact VRen.yld rfl | (refine VRen.fn ?_) | exact ⟨rfl, rfl⟩ | exact ⟨rfl, rfl, rfl⟩ | (refine ⟨rfl, rfl, rfl, rfl, rfl, ?_⟩) | (refine ⟨⟨_, rfl, ?_⟩, ?_⟩) | exact VRen.kf rfl | exact VRen.int rfl | exact VRen.int (by omega) | exact VRen.loc rfl | exact VRen.vec rfl rfl rfl | exact VRen.vec rfl (by omega) (by omega) | exact VRen.nil rfl rfl | exact VRen.nil rfl (by omega) | exact VRen.fz rfl (fun h => h) (fun _ _ _ _ => VLe.rfl) | (refine ⟨Nat.le_refl _, rfl, fun i j hi hj => ?_⟩) | (refine ⟨by omega, rfl, fun i j hi hj => ?_⟩) | exact VLe.rfl | (refine ⟨⟨_, _, rfl⟩, ?_⟩) | (refine And.intro ?_ ?_))) rfl⟩
  | false =>
    rw [hk] at hl
    rw [linkP, if_neg (fun h => h.elim hab (fun h => by rw [hk] at h; cases h))]
    refine call_open 28 1 a rfl rfl ha rfl ?_
    refine call_open 29 1 b rfl rfl hb (look_there hab) ?_
    show CallF Try.prog _ _ [(29, .vec (lenP g.ports b) 2 (rowP g.ports b)), (28, .vec (lenP g.ports a) 2 (rowP g.ports a)), (0, .vec g.ids.length 1 (vI g.ids)), (1, .fam g.ports.length 2 (lenP g.ports) (rowP g.ports) [(b, 29), (a, 28)])] [2, 3, 4, 5, 6, 7, 8, 9, 10, 11, 12, 13, 14, 15, 16, 17, 18, 19, 20, 21, 22, 23, 24, 25, 26, 27] _
    refine fn_rule mixed Try.func72 rfl hc72 hr72 rfl ?_
    obtain ⟨xn, xl, xw, xi, xa, xb⟩ := x
    cases xb
    · repeat' ((conv => whnf); first
          | (refine Br.tt ?_)
          | (refine Br.ff ?_)
          | (refine Br.dec (fun _ => ?_) (fun _ => ?_) <;> first | (exfalso; omega) | skip)
          | (refine Br.beq (fun _ => ?_) (fun _ => ?_) <;> first | (exfalso; omega) | skip)
          | (refine Br.bne (fun _ => ?_) (fun _ => ?_) <;> first | (exfalso; omega) | skip)
          | (refine Br.nbeq (fun _ => ?_) (fun _ => ?_) <;> first | (exfalso; omega) | skip)
          | (refine Br.nble (fun _ => ?_) (fun _ => ?_) <;> first | (exfalso; omega) | skip)
          | (refine Ar.i64 (by omega) (by omega) ?_)
          | (refine Ar.u32 (by omega) (by omega) ?_)
          | (refine Ar.sh1 (by omega) ?_)
          | (refine Ar.u64 (by omega) (by omega) ?_)
          | (refine Sv.mk _ rfl ?_)
          | (refine Nz.mk (by omega) ?_)
          | (refine Nn.mk (by omega) ?_)
          | (refine Ix.nat (by omega) ?_)
          | (refine Ix.ofNat (by omega) ?_)
          | (refine Ix.mk 0 rfl (by omega) ?_)
          | (refine Ix.mk 1 rfl (by omega) ?_)
          | (refine Ix.int (by omega) (by omega) ?_)
          | (refine Bd.nat (by omega) ?_)
          | (refine Bd.mk 0 rfl (by omega) ?_)
          | (refine Bd.mk 1 rfl (by omega) ?_)
          | (refine Bd.int (by omega) (by omega) ?_)
          | (refine Len.mk (by omega) ?_)
          | (refine Len.mk (by simp only [List.length_cons, List.length_nil]; omega) ?_)
          | (refine Ltn.mk (by omega) ?_)
          | (refine Both.mk ?_ ?_)
          | (refine MkS.vec ?_)
          | (refine call_lend hl rfl ⟨by omega, by omega, Nat.le_refl _, Nat.le_refl _, lend_g2 g a b, VLe.rfl, VLe.rfl, True.intro⟩ ?_)
          | (refine Opn.hd (by omega) ?_)
          | (refine Opn.tl (by omega) (Opn.hd (by omega) ?_))
          | (refine And.intro rfl ?_)
          | (refine And.intro (Ltn.mk (by omega) (Opn.hd (by omega) rfl)) ?_)
          | (refine OpnSet.hd (by omega) ?_)
          | (refine OpnSet.tl (by omega) (OpnSet.hd (by omega) ?_))
          | (refine Br.any (fun _ => ?_) (fun _ => ?_)))
      all_goals (conv => whnf)
      all_goals exact ⟨_, close2 hab ha hb rfl rfl rfl rfl (by simp [setN, hab]) (by simp [setN]), postR_by (fun _ => [(0, some 0), (1, some 1)]) _ _ ⟨rfl, rfl⟩ (VRen.kf rfl) ⟨⟨_, rfl, Nat.le_refl _, rfl, fun _ _ _ _ => VLe.rfl⟩, ⟨_, rfl, rows2 ha hb hab (by simp [addP, lenP]) (by simp [addP, lenP]) (fun j t hj ht => vle_appF _ _ _ _ _ hj ht) (fun j t hj ht => vle_appF _ _ _ _ _ hj ht) _⟩, True.intro⟩ rfl⟩
    · repeat' ((conv => whnf); first
          | (refine Br.tt ?_)
          | (refine Br.ff ?_)
          | (refine Br.dec (fun _ => ?_) (fun _ => ?_) <;> first | (exfalso; omega) | skip)
          | (refine Br.beq (fun _ => ?_) (fun _ => ?_) <;> first | (exfalso; omega) | skip)
          | (refine Br.bne (fun _ => ?_) (fun _ => ?_) <;> first | (exfalso; omega) | skip)
          | (refine Br.nbeq (fun _ => ?_) (fun _ => ?_) <;> first | (exfalso; omega) | skip)
          | (refine Br.nble (fun _ => ?_) (fun _ => ?_) <;> first | (exfalso; omega) | skip)
          | (refine Ar.i64 (by omega) (by omega) ?_)
          | (refine Ar.u32 (by omega) (by omega) ?_)
          | (refine Ar.sh1 (by omega) ?_)
          | (refine Ar.u64 (by omega) (by omega) ?_)
          | (refine Sv.mk _ rfl ?_)
          | (refine Nz.mk (by omega) ?_)
          | (refine Nn.mk (by omega) ?_)
          | (refine Ix.nat (by omega) ?_)
          | (refine Ix.ofNat (by omega) ?_)
          | (refine Ix.mk 0 rfl (by omega) ?_)
          | (refine Ix.mk 1 rfl (by omega) ?_)
          | (refine Ix.int (by omega) (by omega) ?_)
          | (refine Bd.nat (by omega) ?_)
          | (refine Bd.mk 0 rfl (by omega) ?_)
          | (refine Bd.mk 1 rfl (by omega) ?_)
          | (refine Bd.int (by omega) (by omega) ?_)
          | (refine Len.mk (by omega) ?_)
          | (refine Len.mk (by simp only [List.length_cons, List.length_nil]; omega) ?_)
          | (refine Ltn.mk (by omega) ?_)
          | (refine Both.mk ?_ ?_)
          | (refine MkS.vec ?_)
          | (refine call_lend hl rfl ⟨by omega, by omega, Nat.le_refl _, Nat.le_refl _, lend_g2 g a b, VLe.rfl, VLe.rfl, True.intro⟩ ?_)
          | (refine Opn.hdl (by omega) (show setN _ _ _ _ = lenP g.ports b from if_neg (by omega)) ?_)
          | (refine Opn.hd (by omega) ?_)
          | (refine Opn.tl (by omega) (Opn.hd (by omega) ?_))
          | (refine And.intro rfl ?_)
          | (refine And.intro (Ltn.mk (by omega) (Opn.hd (by omega) rfl)) ?_)
          | (refine OpnSet.hd (by omega) ?_)
          | (refine OpnSet.tl (by omega) (OpnSet.hd (by omega) ?_))
          | (refine Br.any (fun _ => ?_) (fun _ => ?_)))
      all_goals (conv => whnf)
      all_goals exact ⟨_, close2 hab ha hb rfl rfl rfl rfl (by simp [setN, hab]) (by simp [setN]), postR_by (fun _ => [(0, some 0), (1, some 1)]) _ _ ⟨rfl, rfl⟩ (VRen.kf rfl) ⟨⟨_, rfl, Nat.le_refl _, rfl, fun _ _ _ _ => VLe.rfl⟩, ⟨_, rfl, rows2 ha hb hab (by simp [addP, lenP]; omega) (by simp [addP, lenP]; omega) (fun j t hj ht => vle_preF _ _ _ _ _ hj ht) (fun j t hj ht => vle_preF _ _ _ _ _ hj ht) _⟩, True.intro⟩ rfl⟩
end Go.Proofs.Ytjadlpflhmooaaa
