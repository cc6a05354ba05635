/-
 The tables of functions that the evaluator runs, printed by a program (wip/tools/evtab.py).
-/
import Derived.KernelRfl
import Derived.Test.YtmifmchinfhbnaaGreatDoorGRCode
import Derived.Test.YtmifmchinfhbnaaGreatDoorEvG
import Derived.Test.YtmifmchinfhbnaaGreatDoorXN
namespace Go.Proofs.YtmifmchinfhbnaaGreatDoor
open Go.Eng
set_option maxRecDepth 100000
noncomputable def ts:List (Nat×J71):=[(84,.ext X7g),(83,.ext (evX ta1 10000 60 83)),(53,.code (cs Tryz.f53) 41 (cr Tryz.f53))]
theorem X8S:Q1W Tryz.prog ts :=
 ⟨X0K,
 ⟨J0N J0b Q0s rfl,
 ⟨J0e Tryz.func53 rfl rfl rfl (by kernel_rfl),
 trivial⟩⟩⟩
end Go.Proofs.YtmifmchinfhbnaaGreatDoor
