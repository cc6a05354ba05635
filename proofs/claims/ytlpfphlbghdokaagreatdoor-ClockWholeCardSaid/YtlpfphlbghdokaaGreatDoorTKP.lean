/-
 Closed parts that are run: the parser.
-/
import Derived.Test.YtlpfphlbghdokaaGreatDoorTabB
import Derived.KernelRfl
namespace Go.Proofs.YtlpfphlbghdokaaGreatDoor
open Go.Eng
set_option maxRecDepth 100000
theorem X0k:evX tp 10000 100 23 [Q1z]=some X5y:=by kernel_rfl
end Go.Proofs.YtlpfphlbghdokaaGreatDoor
