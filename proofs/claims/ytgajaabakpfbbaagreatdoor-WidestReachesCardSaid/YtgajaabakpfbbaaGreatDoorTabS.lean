/-
 The tables of functions that the evaluator runs, printed by a program (wip/tools/evtab.py).
-/
import Derived.KernelRfl
import Derived.Test.YtgajaabakpfbbaaGreatDoorGRCode
import Derived.Test.YtgajaabakpfbbaaGreatDoorEvG
import Derived.Test.YtgajaabakpfbbaaGreatDoorXN
namespace Go.Proofs.YtgajaabakpfbbaaGreatDoor
open Go.Eng
set_option maxRecDepth 100000
noncomputable def ts:List (Nat × J7t):=[(113,.ext nextG),(112,.ext (evX ta1 10000 60 112)),(87,.code (cs Tryz.f87) 41 (cr Tryz.f87))]
theorem ts_ok:TbOk Tryz.prog ts :=
 ⟨next_ext,
 ⟨J0I J0a ta1_ok rfl,
 ⟨J0c Tryz.func87 rfl rfl rfl (by kernel_rfl),
 trivial⟩⟩⟩
end Go.Proofs.YtgajaabakpfbbaaGreatDoor
