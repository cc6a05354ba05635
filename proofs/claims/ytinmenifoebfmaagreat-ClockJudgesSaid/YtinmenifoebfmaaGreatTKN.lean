/-
  Closed parts that are run: the examples.
-/
import Derived.Test.YtinmenifoebfmaaGreatTabD
import Derived.KernelRfl
namespace Go.Proofs.YtinmenifoebfmaaGreat
open Go.Eng
set_option maxRecDepth 100000

theorem ev_known : evX tn 10000 100 25 [] = some (.bool true) := by kernel_rfl
end Go.Proofs.YtinmenifoebfmaaGreat

