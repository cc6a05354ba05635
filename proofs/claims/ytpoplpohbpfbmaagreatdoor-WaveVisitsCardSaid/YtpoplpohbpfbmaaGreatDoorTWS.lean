/-
 Closed runs: the scanner.
-/
import Derived.Test.YtpoplpohbpfbmaaGreatDoorTabS
import Derived.KernelRfl
namespace Go.Proofs.YtpoplpohbpfbmaaGreatDoor
open Go.Eng
set_option maxRecDepth 100000
theorem ev_scan:evX ts 10000 100 50 [textC]=some toksC:=by kernel_rfl
noncomputable def scanG:List C->Option C:=memoG [([textC],toksC)]
theorem scan_ext:FdOk Tryz.prog 50 (.ext scanG):=fd_memo (by kernel_rfl) _ (memo_one (ev_ret mixed ts_ok ev_scan))
end Go.Proofs.YtpoplpohbpfbmaaGreatDoor
