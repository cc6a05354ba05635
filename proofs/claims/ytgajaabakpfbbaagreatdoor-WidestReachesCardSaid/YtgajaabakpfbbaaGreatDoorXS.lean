/-
 Closed parts that are run: the scanner.
-/
import Derived.Test.YtgajaabakpfbbaaGreatDoorTabS
import Derived.KernelRfl
namespace Go.Proofs.YtgajaabakpfbbaaGreatDoor
open Go.Eng
set_option maxRecDepth 100000
theorem ev_scan:evX ts 10000 100 87 [textC] = some toksC:=by kernel_rfl
noncomputable def scanG:List C→Option C:=memoG [([textC],toksC)]
theorem scan_ext:FdOk Tryz.prog 87 (.ext scanG):=J6V (by kernel_rfl) _ (memo_one (J6X J0a ts_ok ev_scan))
end Go.Proofs.YtgajaabakpfbbaaGreatDoor
