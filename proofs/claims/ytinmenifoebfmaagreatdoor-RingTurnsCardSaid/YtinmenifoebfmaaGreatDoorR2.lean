import Derived.Test.YtinmenifoebfmaaGreatDoorR1
namespace Go.Proofs.YtinmenifoebfmaaGreatDoor
open Go.Eng
set_option maxRecDepth 100000

theorem ev_types : evX tb 10000 100 118 [aggC] = some (.bool true) := by kernel_rfl
end Go.Proofs.YtinmenifoebfmaaGreatDoor

