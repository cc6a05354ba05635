/-
  Closed parts that are run: the parser.
-/
import Derived.Test.YtinmenifoebfmaaGreatTabB
import Derived.KernelRfl
namespace Go.Proofs.YtinmenifoebfmaaGreat
open Go.Eng
set_option maxRecDepth 100000

theorem ev_parse : evX tp 10000 100 9 [textC] = some progC := by kernel_rfl
noncomputable def parseG : List C → Option C := memoG [([textC], progC)]
theorem parse_ext : FdOk Tryz.prog 9 (.ext parseG) := fd_memo (by kernel_rfl) _ (memo_one (ev_ret mixed tp_ok ev_parse))
end Go.Proofs.YtinmenifoebfmaaGreat

