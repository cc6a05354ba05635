/-
 Closed runs: the scanner.
-/
import Derived.Test.YtefdkgkojlflaaaGreatDoorTabS
namespace Go.Proofs.YtefdkgkojlflaaaGreatDoor
open Go.Eng
set_option maxRecDepth 100000
theorem X4L:evX ts 10000 100 94 [J9X]=some X5V:=by kernel_rfl
noncomputable def X52:List C->Option C:=Q1P [([J9X],X5V)]
theorem Q9O:Q5e Tryz.prog 94 (.ext X52):=J7p (by kernel_rfl) _ (Q3i (J7r mixed X8c X4L))
end Go.Proofs.YtefdkgkojlflaaaGreatDoor
