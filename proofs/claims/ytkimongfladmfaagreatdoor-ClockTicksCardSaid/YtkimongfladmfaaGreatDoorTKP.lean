/-
 Closed parts that are run: the parser.
-/
import Derived.Test.YtkimongfladmfaaGreatDoorTabB
import Derived.KernelRfl
namespace Go.Proofs.YtkimongfladmfaaGreatDoor
open Go.Eng
set_option maxRecDepth 100000
theorem ev_parse:evX tp 10000 100 53 [textC] = some progC:=by kernel_rfl
end Go.Proofs.YtkimongfladmfaaGreatDoor
