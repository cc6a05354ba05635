/-
 The tables of functions that the evaluator runs, printed by a program (wip/tools/evtab.py).
-/
import Derived.KernelRfl
import Derived.Test.YtgajaabakpfbbaaGreatDoorGRCode
import Derived.Test.YtgajaabakpfbbaaGreatDoorEvG
import Derived.Test.YtgajaabakpfbbaaGreatDoorXV
namespace Go.Proofs.YtgajaabakpfbbaaGreatDoor
open Go.Eng
set_option maxRecDepth 100000
noncomputable def tc2:List (Nat × J7t):=[(225,.code (cs Tryz.f225) 7 (cr Tryz.f225)),(214,.code (cs Tryz.f214) 98 (cr Tryz.f214)),(211,.ext (evX tc0 10000 60 211)),(213,.code (cs Tryz.f213) 25 (cr Tryz.f213)),(212,.ext (evX tc0 10000 60 212)),(207,.ext (evX tc0 10000 60 207)),(193,.code (cs Tryz.f193) 62 (cr Tryz.f193)),(166,.ext validG),(164,.code (cs Tryz.f164) 13 (cr Tryz.f164)),(167,.code (cs Tryz.f167) 43 (cr Tryz.f167))]
theorem J7D:TbOk Tryz.prog tc2 :=
 ⟨J0c Tryz.func225 rfl rfl rfl (by kernel_rfl),
 ⟨J0c Tryz.func214 rfl rfl rfl (by kernel_rfl),
 ⟨J0I J0a J5h rfl,
 ⟨J0c Tryz.func213 rfl rfl rfl (by kernel_rfl),
 ⟨J0I J0a J5h rfl,
 ⟨J0I J0a J5h rfl,
 ⟨J0c Tryz.func193 rfl rfl rfl (by kernel_rfl),
 ⟨valid_ext,
 ⟨J0c Tryz.func164 rfl rfl rfl (by kernel_rfl),
 ⟨J0c Tryz.func167 rfl rfl rfl (by kernel_rfl),
 trivial⟩⟩⟩⟩⟩⟩⟩⟩⟩⟩
end Go.Proofs.YtgajaabakpfbbaaGreatDoor
