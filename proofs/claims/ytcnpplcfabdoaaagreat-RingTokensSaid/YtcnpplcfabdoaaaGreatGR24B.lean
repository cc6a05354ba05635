import Derived.Test.YtcnpplcfabdoaaaGreatGR21
namespace Go.Proofs.YtcnpplcfabdoaaaGreat
open Go.Eng
set_option maxRecDepth 100000
set_option linter.unusedVariables false

/-! ## configurations made of numbers -/
def cfgE (g : G) (vs : List Vr) (raw : List Int) (v i : Nat) : Int := (bV g vs v i).1 + within (gI raw (v * vs.length + i)) ((bV g vs v i).2 - (bV g vs v i).1 + 1)
def cfgR (g : G) (vs : List Vr) (raw : List Int) (v k : Nat) : List Int := (List.range k).map (cfgE g vs raw v)
def cfgC (g : G) (vs : List Vr) (raw : List Int) (k : Nat) : Cf := (List.range k).map fun v => cfgR g vs raw v vs.length
def cfg (g : G) (vs : List Vr) (raw : List Int) : Cf := cfgC g vs raw g.ports.length
theorem cfgR_len (g : G) (vs : List Vr) (raw : List Int) (v k : Nat) : (cfgR g vs raw v k).length = k := by simp [cfgR]
theorem cfgC_len (g : G) (vs : List Vr) (raw : List Int) (k : Nat) : (cfgC g vs raw k).length = k := by simp [cfgC]
theorem cfgR_succ (g : G) (vs : List Vr) (raw : List Int) (v k : Nat) : cfgR g vs raw v (k + 1) = cfgR g vs raw v k ++ [cfgE g vs raw v k] := by simp [cfgR, List.range_succ]
theorem cfgC_succ (g : G) (vs : List Vr) (raw : List Int) (k : Nat) : cfgC g vs raw (k + 1) = cfgC g vs raw k ++ [cfgR g vs raw k vs.length] := by simp [cfgC, List.range_succ]
theorem gC_snoc (c : Cf) (r : List Int) (i : Nat) : gC (c ++ [r]) i = if i < c.length then gC c i else if i = c.length then r else [] := by
  by_cases h : i < c.length
  · simp only [gC, List.getD, List.getElem?_append_left h, if_pos h]
  · rw [if_neg h]
    by_cases h2 : i = c.length
    · subst h2; simp [gC]
    · simp [gC, h2, List.getElem?_eq_none (by simp; omega : (c ++ [r]).length ≤ i)]
theorem vle_appC (c : Cf) (r : List Int) (n m : Nat) (hn : c.length = n) (hr : r.length = m) (F : Nat → Nat → V) (hF : F 0 0 = .fz m 1 false (shiftF 0 (vI r))) (i j : Nat) (hi : i < n + 1) (hj : j < 1) :
    VLe (fapp (shiftF 0 (vC c)) n F i j) (vC (c ++ [r]) i j) := by
  subst hn hr
  obtain rfl : j = 0 := by omega
  by_cases h : i < c.length
  · rw [fapp_lt h]
    apply VLe.of_eq
    simp only [shiftF, vC, gC_snoc, if_pos h, Nat.zero_add]
  · rw [fapp_ge h]
    have : i = c.length := by omega
    subst this
    rw [Nat.sub_self, hF]
    simp only [vC, gC_snoc, Nat.lt_irrefl, if_false, if_true]
    exact VLe.fz rfl (fun h => h) (fun i j hi hj => VLe.of_eq (by simp [shiftF]))
end Go.Proofs.YtcnpplcfabdoaaaGreat
