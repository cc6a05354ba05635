/-
 The tables of functions that the evaluator runs, printed by a program (wip/tools/evtab.py).
-/
import Derived.KernelRfl
import Derived.Test.YtgajaabakpfbbaaGreatGRCode
import Derived.Test.YtgajaabakpfbbaaGreatEvG
import Derived.Test.YtgajaabakpfbbaaGreatXO
namespace Go.Proofs.YtgajaabakpfbbaaGreat
open Go.Eng
set_option maxRecDepth 100000
noncomputable def tc:List (Nat × FDef):=[(69,.ext ofG),(68,.ext validG),(67,.code (cs Tryz.f67) 15 (cr Tryz.f67)),(66,.code (cs Tryz.f66) 13 (cr Tryz.f66)),(60,.ext (evX tc1 10000 60 60)),(36,.code (cs Tryz.f36) 42 (cr Tryz.f36)),(35,.code (cs Tryz.f35) 25 (cr Tryz.f35)),(34,.code (cs Tryz.f34) 56 (cr Tryz.f34)),(33,.code (cs Tryz.f33) 68 (cr Tryz.f33)),(32,.code (cs Tryz.f32) 57 (cr Tryz.f32)),(13,.code (cs Tryz.f13) 68 (cr Tryz.f13))]
theorem tc_ok:TbOk Tryz.prog tc :=
 ⟨of_ext,
 ⟨valid_ext,
 ⟨fd_codeC Tryz.func67 rfl rfl rfl (by kernel_rfl),
 ⟨fd_codeC Tryz.func66 rfl rfl rfl (by kernel_rfl),
 ⟨fd_pure mixed tc1_ok rfl,
 ⟨fd_codeC Tryz.func36 rfl rfl rfl (by kernel_rfl),
 ⟨fd_codeC Tryz.func35 rfl rfl rfl (by kernel_rfl),
 ⟨fd_codeC Tryz.func34 rfl rfl rfl (by kernel_rfl),
 ⟨fd_codeC Tryz.func33 rfl rfl rfl (by kernel_rfl),
 ⟨fd_codeC Tryz.func32 rfl rfl rfl (by kernel_rfl),
 ⟨fd_codeC Tryz.func13 rfl rfl rfl (by kernel_rfl),
 trivial⟩⟩⟩⟩⟩⟩⟩⟩⟩⟩⟩
end Go.Proofs.YtgajaabakpfbbaaGreat
