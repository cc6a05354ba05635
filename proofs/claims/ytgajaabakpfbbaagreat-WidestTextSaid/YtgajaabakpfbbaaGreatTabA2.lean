/-
 The tables of functions that the evaluator runs, printed by a program (wip/tools/evtab.py).
-/
import Derived.KernelRfl
import Derived.Test.YtgajaabakpfbbaaGreatGRCode
import Derived.Test.YtgajaabakpfbbaaGreatEvG
import Derived.Test.YtgajaabakpfbbaaGreatXS
namespace Go.Proofs.YtgajaabakpfbbaaGreat
open Go.Eng
set_option maxRecDepth 100000
noncomputable def tc0:List (Nat × FDef):=[(115,.code (cs Tryz.f115) 9 (cr Tryz.f115)),(114,.code (cs Tryz.f114) 9 (cr Tryz.f114)),(110,.code (cs Tryz.f110) 19 (cr Tryz.f110)),(85,.code (cs Tryz.f85) 33 (cr Tryz.f85)),(54,.code (cs Tryz.f54) 9 (cr Tryz.f54)),(53,.code (cs Tryz.f53) 13 (cr Tryz.f53)),(52,.code (cs Tryz.f52) 17 (cr Tryz.f52))]
theorem tc0_ok:TbOk Tryz.prog tc0 :=
 ⟨fd_codeC Tryz.func115 rfl rfl rfl (by kernel_rfl),
 ⟨fd_codeC Tryz.func114 rfl rfl rfl (by kernel_rfl),
 ⟨fd_codeC Tryz.func110 rfl rfl rfl (by kernel_rfl),
 ⟨fd_codeC Tryz.func85 rfl rfl rfl (by kernel_rfl),
 ⟨fd_codeC Tryz.func54 rfl rfl rfl (by kernel_rfl),
 ⟨fd_codeC Tryz.func53 rfl rfl rfl (by kernel_rfl),
 ⟨fd_codeC Tryz.func52 rfl rfl rfl (by kernel_rfl),
 trivial⟩⟩⟩⟩⟩⟩⟩
noncomputable def tc1:List (Nat × FDef):=[(114,.ext (evX tc0 10000 60 114)),(113,.code (cs Tryz.f113) 10 (cr Tryz.f113)),(112,.code (cs Tryz.f112) 7 (cr Tryz.f112)),(111,.code (cs Tryz.f111) 61 (cr Tryz.f111)),(110,.ext (evX tc0 10000 60 110)),(93,.code (cs Tryz.f93) 11 (cr Tryz.f93)),(92,.code (cs Tryz.f92) 11 (cr Tryz.f92)),(91,.code (cs Tryz.f91) 32 (cr Tryz.f91)),(90,.code (cs Tryz.f90) 37 (cr Tryz.f90)),(85,.ext (evX tc0 10000 60 85)),(53,.ext (evX tc0 10000 60 53)),(52,.ext (evX tc0 10000 60 52)),(68,.code (cs Tryz.f68) 36 (cr Tryz.f68)),(60,.code (cs Tryz.f60) 32 (cr Tryz.f60))]
theorem tc1_ok:TbOk Tryz.prog tc1 :=
 ⟨fd_pure mixed tc0_ok rfl,
 ⟨fd_codeC Tryz.func113 rfl rfl rfl (by kernel_rfl),
 ⟨fd_codeC Tryz.func112 rfl rfl rfl (by kernel_rfl),
 ⟨fd_codeC Tryz.func111 rfl rfl rfl (by kernel_rfl),
 ⟨fd_pure mixed tc0_ok rfl,
 ⟨fd_codeC Tryz.func93 rfl rfl rfl (by kernel_rfl),
 ⟨fd_codeC Tryz.func92 rfl rfl rfl (by kernel_rfl),
 ⟨fd_codeC Tryz.func91 rfl rfl rfl (by kernel_rfl),
 ⟨fd_codeC Tryz.func90 rfl rfl rfl (by kernel_rfl),
 ⟨fd_pure mixed tc0_ok rfl,
 ⟨fd_pure mixed tc0_ok rfl,
 ⟨fd_pure mixed tc0_ok rfl,
 ⟨fd_codeC Tryz.func68 rfl rfl rfl (by kernel_rfl),
 ⟨fd_codeC Tryz.func60 rfl rfl rfl (by kernel_rfl),
 trivial⟩⟩⟩⟩⟩⟩⟩⟩⟩⟩⟩⟩⟩⟩
end Go.Proofs.YtgajaabakpfbbaaGreat
