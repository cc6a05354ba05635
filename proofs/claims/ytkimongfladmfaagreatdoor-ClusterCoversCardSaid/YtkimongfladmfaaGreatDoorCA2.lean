import Derived.Test.YtkimongfladmfaaGreatDoorCA1
namespace Go.Proofs.YtkimongfladmfaaGreatDoor
open Go.Eng
set_option maxRecDepth 100000
theorem ev_types:evX tb 10000 100 140 [aggC] = some (.bool true):=by kernel_rfl
end Go.Proofs.YtkimongfladmfaaGreatDoor
