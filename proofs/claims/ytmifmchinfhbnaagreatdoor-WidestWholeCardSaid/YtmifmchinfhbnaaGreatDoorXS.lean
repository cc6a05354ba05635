/-
 Closed parts that are run: the scanner.
-/
import Derived.Test.YtmifmchinfhbnaaGreatDoorTabS
import Derived.KernelRfl
namespace Go.Proofs.YtmifmchinfhbnaaGreatDoor
open Go.Eng
set_option maxRecDepth 100000
theorem X5j:evX ts 10000 100 53 [Q0q]=some X6F:=by kernel_rfl
noncomputable def X6M:List C->Option C:=Q2z [([Q0q],X6F)]
theorem X0s:Q5R Tryz.prog 53 (.ext X6M):=J7l (by kernel_rfl) _ (Q31 (J7o J0b X8S X5j))
end Go.Proofs.YtmifmchinfhbnaaGreatDoor
