/-
 The tables of functions that the evaluator runs, printed by a program (wip/tools/evtab.py).
-/
import Derived.KernelRfl
import Derived.Test.YtgajaabakpfbbaaGreatDoorGRCode
import Derived.Test.YtgajaabakpfbbaaGreatDoorEvG
import Derived.Test.YtgajaabakpfbbaaGreatDoorXO
namespace Go.Proofs.YtgajaabakpfbbaaGreatDoor
open Go.Eng
set_option maxRecDepth 100000
noncomputable def tc:List (Nat × J7t):=[(167,.ext ofG),(166,.ext validG),(165,.code (cs Tryz.f165) 15 (cr Tryz.f165)),(164,.code (cs Tryz.f164) 13 (cr Tryz.f164)),(158,.ext (evX tc1 10000 60 158)),(127,.code (cs Tryz.f127) 42 (cr Tryz.f127)),(126,.code (cs Tryz.f126) 25 (cr Tryz.f126)),(125,.code (cs Tryz.f125) 56 (cr Tryz.f125)),(124,.code (cs Tryz.f124) 68 (cr Tryz.f124)),(123,.code (cs Tryz.f123) 57 (cr Tryz.f123)),(90,.code (cs Tryz.f90) 68 (cr Tryz.f90))]
theorem tc_ok:TbOk Tryz.prog tc :=
 ⟨of_ext,
 ⟨valid_ext,
 ⟨J0c Tryz.func165 rfl rfl rfl (by kernel_rfl),
 ⟨J0c Tryz.func164 rfl rfl rfl (by kernel_rfl),
 ⟨J0I J0a J6b rfl,
 ⟨J0c Tryz.func127 rfl rfl rfl (by kernel_rfl),
 ⟨J0c Tryz.func126 rfl rfl rfl (by kernel_rfl),
 ⟨J0c Tryz.func125 rfl rfl rfl (by kernel_rfl),
 ⟨J0c Tryz.func124 rfl rfl rfl (by kernel_rfl),
 ⟨J0c Tryz.func123 rfl rfl rfl (by kernel_rfl),
 ⟨J0c Tryz.func90 rfl rfl rfl (by kernel_rfl),
 trivial⟩⟩⟩⟩⟩⟩⟩⟩⟩⟩⟩
end Go.Proofs.YtgajaabakpfbbaaGreatDoor
