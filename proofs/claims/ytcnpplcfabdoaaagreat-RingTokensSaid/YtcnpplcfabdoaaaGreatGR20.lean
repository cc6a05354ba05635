import Derived.Test.YtcnpplcfabdoaaaGreatGR10
import Derived.Test.YtcnpplcfabdoaaaGreatEngZ
namespace Go.Proofs.YtcnpplcfabdoaaaGreat
open Go.Eng
set_option maxRecDepth 100000
set_option linter.unusedVariables false

/-! ## nets -/

structure Net where
  n : Int
  links : List Int
  weights : List Int
  ids : List Int
  apart : Bool
  back : Bool
def Net.v (x : Net) : V := .agg [.int .i64 x.n, .fz x.links.length 1 false (vI x.links), .fz x.weights.length 1 false (vI x.weights), .fz x.ids.length 1 false (vI x.ids), .bool x.apart, .bool x.back]
structure Net.Small (x : Net) : Prop where
  links : x.links.length ≤ 9223372036854775807
  weights : x.weights.length ≤ 9223372036854775807
  ids : x.ids.length ≤ 9223372036854775807

abbrev Ps := List (List (Int × Int))
def lenP (p : Ps) (i : Nat) : Nat := (gR p i).length
def rowP (p : Ps) (i : Nat) : Nat → Nat → V := vF (gR p i)
abbrev famP (p : Ps) : Blk := .fam p.length 2 (lenP p) (rowP p) []
abbrev gV1 (i n : Nat) : V := .agg [.vec 0 1 0 i, .vec 1 1 0 n]

theorem gR_set (p : Ps) (a : Nat) (A : List (Int × Int)) (ha : a < p.length) (i : Nat) : gR (p.set a A) i = if i = a then A else gR p i := by
  simp only [gR, List.getD, List.getElem?_set]
  by_cases h : a = i
  · subst h; simp [ha]
  · have : ¬ i = a := fun e => h e.symm
    simp [h, this]
theorem rows2 {p : Ps} {a b : Nat} (ha : a < p.length) (hb : b < p.length) (hab : a ≠ b) {A B : List (Int × Int)} {fa fb : Nat → Nat → V} {la lb : Nat} (h1 : A.length = la) (h2 : B.length = lb)
    (h3 : ∀ j t, j < la → t < 2 → VLe (fa j t) (vF A j t)) (h4 : ∀ j t, j < lb → t < 2 → VLe (fb j t) (vF B j t)) (ρ : Rn) :
    BRen ρ (.fam p.length 2 (setN (setN (lenP p) a la) b lb) (setF (setF (rowP p) a fa) b fb) []) (famP ((p.set a A).set b B)) := by
  refine ⟨by simp, rfl, True.intro, fun i hi => ?_, fun i j t hi hn hj ht => ?_⟩
  · show (gR ((p.set a A).set b B) i).length = _
    rw [gR_set _ b B (by simpa using hb), gR_set p a A ha]
    simp only [setN]
    split
    · exact h2
    · split
      · exact h1
      · rfl
  · simp only [setN] at hj
    show VLe _ (vF (gR ((p.set a A).set b B) i) j t)
    rw [gR_set _ b B (by simpa using hb), gR_set p a A ha]
    simp only [setF]
    split
    · rename_i e; rw [if_pos e] at hj; exact h4 j t hj ht
    · rename_i e
      rw [if_neg e] at hj
      split
      · rename_i e; rw [if_pos e] at hj; exact h3 j t hj ht
      · exact VLe.rfl

end Go.Proofs.YtcnpplcfabdoaaaGreat
