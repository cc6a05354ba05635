import Derived.Test.YthbiicpcbnijiaaGreatDoorCA1
namespace Go.Proofs.YthbiicpcbnijiaaGreatDoor
open Go.Eng
set_option maxRecDepth 100000
theorem ev_types:evX tb 10000 100 81 [aggC] = some (.bool true):=by kernel_rfl
end Go.Proofs.YthbiicpcbnijiaaGreatDoor
