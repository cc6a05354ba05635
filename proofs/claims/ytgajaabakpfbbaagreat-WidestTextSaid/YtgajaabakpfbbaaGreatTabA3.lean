/-
 The tables of functions that the evaluator runs, printed by a program (wip/tools/evtab.py).
-/
import Derived.KernelRfl
import Derived.Test.YtgajaabakpfbbaaGreatGRCode
import Derived.Test.YtgajaabakpfbbaaGreatEvG
import Derived.Test.YtgajaabakpfbbaaGreatXV
namespace Go.Proofs.YtgajaabakpfbbaaGreat
open Go.Eng
set_option maxRecDepth 100000
noncomputable def tc2:List (Nat × FDef):=[(132,.code (cs Tryz.f132) 7 (cr Tryz.f132)),(117,.code (cs Tryz.f117) 98 (cr Tryz.f117)),(114,.ext (evX tc0 10000 60 114)),(116,.code (cs Tryz.f116) 25 (cr Tryz.f116)),(115,.ext (evX tc0 10000 60 115)),(110,.ext (evX tc0 10000 60 110)),(94,.code (cs Tryz.f94) 62 (cr Tryz.f94)),(68,.ext validG),(66,.code (cs Tryz.f66) 13 (cr Tryz.f66)),(69,.code (cs Tryz.f69) 43 (cr Tryz.f69))]
theorem tc2_ok:TbOk Tryz.prog tc2 :=
 ⟨fd_codeC Tryz.func132 rfl rfl rfl (by kernel_rfl),
 ⟨fd_codeC Tryz.func117 rfl rfl rfl (by kernel_rfl),
 ⟨fd_pure mixed tc0_ok rfl,
 ⟨fd_codeC Tryz.func116 rfl rfl rfl (by kernel_rfl),
 ⟨fd_pure mixed tc0_ok rfl,
 ⟨fd_pure mixed tc0_ok rfl,
 ⟨fd_codeC Tryz.func94 rfl rfl rfl (by kernel_rfl),
 ⟨valid_ext,
 ⟨fd_codeC Tryz.func66 rfl rfl rfl (by kernel_rfl),
 ⟨fd_codeC Tryz.func69 rfl rfl rfl (by kernel_rfl),
 trivial⟩⟩⟩⟩⟩⟩⟩⟩⟩⟩
end Go.Proofs.YtgajaabakpfbbaaGreat
