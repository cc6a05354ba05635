/-
 The tables of functions that the evaluator runs, printed by a program (wip/tools/evtab.py).
-/
import Derived.KernelRfl
import Derived.Test.YtgajaabakpfbbaaGreatGRCode
import Derived.Test.YtgajaabakpfbbaaGreatEvG
namespace Go.Proofs.YtgajaabakpfbbaaGreat
open Go.Eng
set_option maxRecDepth 100000
noncomputable def ta0:List (Nat × FDef):=[(130,.code (cs Tryz.f130) 25 (cr Tryz.f130)),(131,.code (cs Tryz.f131) 2 (cr Tryz.f131)),(103,.code (cs Tryz.f103) 18 (cr Tryz.f103)),(115,.code (cs Tryz.f115) 9 (cr Tryz.f115)),(114,.code (cs Tryz.f114) 9 (cr Tryz.f114)),(110,.code (cs Tryz.f110) 19 (cr Tryz.f110)),(108,.code (cs Tryz.f108) 27 (cr Tryz.f108)),(107,.code (cs Tryz.f107) 6 (cr Tryz.f107)),(85,.code (cs Tryz.f85) 33 (cr Tryz.f85)),(83,.code (cs Tryz.f83) 8 (cr Tryz.f83)),(54,.code (cs Tryz.f54) 9 (cr Tryz.f54)),(53,.code (cs Tryz.f53) 13 (cr Tryz.f53)),(52,.code (cs Tryz.f52) 17 (cr Tryz.f52))]
theorem ta0_ok:TbOk Tryz.prog ta0 :=
 ⟨fd_codeC Tryz.func130 rfl rfl rfl (by kernel_rfl),
 ⟨fd_codeC Tryz.func131 rfl rfl rfl (by kernel_rfl),
 ⟨fd_codeC Tryz.func103 rfl rfl rfl (by kernel_rfl),
 ⟨fd_codeC Tryz.func115 rfl rfl rfl (by kernel_rfl),
 ⟨fd_codeC Tryz.func114 rfl rfl rfl (by kernel_rfl),
 ⟨fd_codeC Tryz.func110 rfl rfl rfl (by kernel_rfl),
 ⟨fd_codeC Tryz.func108 rfl rfl rfl (by kernel_rfl),
 ⟨fd_codeC Tryz.func107 rfl rfl rfl (by kernel_rfl),
 ⟨fd_codeC Tryz.func85 rfl rfl rfl (by kernel_rfl),
 ⟨fd_codeC Tryz.func83 rfl rfl rfl (by kernel_rfl),
 ⟨fd_codeC Tryz.func54 rfl rfl rfl (by kernel_rfl),
 ⟨fd_codeC Tryz.func53 rfl rfl rfl (by kernel_rfl),
 ⟨fd_codeC Tryz.func52 rfl rfl rfl (by kernel_rfl),
 trivial⟩⟩⟩⟩⟩⟩⟩⟩⟩⟩⟩⟩⟩
noncomputable def ta1:List (Nat × FDef):=[(104,.ext idxg),(84,.code (cs Tryz.f84) 8 (cr Tryz.f84)),(83,.ext (evX ta0 10000 60 83)),(85,.ext (evX ta0 10000 60 85)),(53,.ext (evX ta0 10000 60 53)),(52,.ext (evX ta0 10000 60 52)),(21,.code (cs Tryz.f21) 35 (cr Tryz.f21)),(56,.code (cs Tryz.f56) 19 (cr Tryz.f56)),(60,.code (cs Tryz.f60) 32 (cr Tryz.f60))]
theorem ta1_ok:TbOk Tryz.prog ta1 :=
 ⟨idx_ok,
 ⟨fd_codeC Tryz.func84 rfl rfl rfl (by kernel_rfl),
 ⟨fd_pure mixed ta0_ok rfl,
 ⟨fd_pure mixed ta0_ok rfl,
 ⟨fd_pure mixed ta0_ok rfl,
 ⟨fd_pure mixed ta0_ok rfl,
 ⟨fd_codeC Tryz.func21 rfl rfl rfl (by kernel_rfl),
 ⟨fd_codeC Tryz.func56 rfl rfl rfl (by kernel_rfl),
 ⟨fd_codeC Tryz.func60 rfl rfl rfl (by kernel_rfl),
 trivial⟩⟩⟩⟩⟩⟩⟩⟩⟩
noncomputable def ta:List (Nat × FDef):=[(132,.code (cs Tryz.f132) 7 (cr Tryz.f132)),(117,.code (cs Tryz.f117) 98 (cr Tryz.f117)),(114,.ext (evX ta0 10000 60 114)),(116,.code (cs Tryz.f116) 25 (cr Tryz.f116)),(115,.ext (evX ta0 10000 60 115)),(113,.code (cs Tryz.f113) 10 (cr Tryz.f113)),(112,.code (cs Tryz.f112) 7 (cr Tryz.f112)),(111,.code (cs Tryz.f111) 61 (cr Tryz.f111)),(110,.ext (evX ta0 10000 60 110)),(94,.code (cs Tryz.f94) 62 (cr Tryz.f94)),(93,.code (cs Tryz.f93) 11 (cr Tryz.f93)),(92,.code (cs Tryz.f92) 11 (cr Tryz.f92)),(91,.code (cs Tryz.f91) 32 (cr Tryz.f91)),(90,.code (cs Tryz.f90) 37 (cr Tryz.f90)),(15,.code sc15 5 rv15),(69,.code (cs Tryz.f69) 43 (cr Tryz.f69)),(68,.code (cs Tryz.f68) 36 (cr Tryz.f68)),(67,.code (cs Tryz.f67) 15 (cr Tryz.f67)),(66,.code (cs Tryz.f66) 13 (cr Tryz.f66)),(60,.ext (evX ta1 10000 60 60)),(56,.ext (evX ta1 10000 60 56)),(55,.code (cs Tryz.f55) 31 (cr Tryz.f55)),(54,.ext (evX ta0 10000 60 54)),(53,.ext (evX ta0 10000 60 53)),(52,.ext (evX ta0 10000 60 52)),(51,.code (cs Tryz.f51) 21 (cr Tryz.f51)),(14,.code sc14 14 rv14),(36,.code (cs Tryz.f36) 42 (cr Tryz.f36)),(35,.code (cs Tryz.f35) 25 (cr Tryz.f35)),(34,.code (cs Tryz.f34) 56 (cr Tryz.f34)),(33,.code (cs Tryz.f33) 68 (cr Tryz.f33)),(32,.code (cs Tryz.f32) 57 (cr Tryz.f32)),(22,.code (cs Tryz.f22) 62 (cr Tryz.f22)),(21,.ext (evX ta1 10000 60 21)),(9,.code (cs Tryz.f9) 1 (cr Tryz.f9)),(5,.code (cs Tryz.f5) 1 (cr Tryz.f5)),(13,.code (cs Tryz.f13) 68 (cr Tryz.f13)),(10,.code (cs Tryz.f10) 41 (cr Tryz.f10))]
theorem ta_ok:TbOk Tryz.prog ta :=
 ⟨fd_codeC Tryz.func132 rfl rfl rfl (by kernel_rfl),
 ⟨fd_codeC Tryz.func117 rfl rfl rfl (by kernel_rfl),
 ⟨fd_pure mixed ta0_ok rfl,
 ⟨fd_codeC Tryz.func116 rfl rfl rfl (by kernel_rfl),
 ⟨fd_pure mixed ta0_ok rfl,
 ⟨fd_codeC Tryz.func113 rfl rfl rfl (by kernel_rfl),
 ⟨fd_codeC Tryz.func112 rfl rfl rfl (by kernel_rfl),
 ⟨fd_codeC Tryz.func111 rfl rfl rfl (by kernel_rfl),
 ⟨fd_pure mixed ta0_ok rfl,
 ⟨fd_codeC Tryz.func94 rfl rfl rfl (by kernel_rfl),
 ⟨fd_codeC Tryz.func93 rfl rfl rfl (by kernel_rfl),
 ⟨fd_codeC Tryz.func92 rfl rfl rfl (by kernel_rfl),
 ⟨fd_codeC Tryz.func91 rfl rfl rfl (by kernel_rfl),
 ⟨fd_codeC Tryz.func90 rfl rfl rfl (by kernel_rfl),
 ⟨fd_code Tryz.func15 rfl rfl rfl hc15 hr15,
 ⟨fd_codeC Tryz.func69 rfl rfl rfl (by kernel_rfl),
 ⟨fd_codeC Tryz.func68 rfl rfl rfl (by kernel_rfl),
 ⟨fd_codeC Tryz.func67 rfl rfl rfl (by kernel_rfl),
 ⟨fd_codeC Tryz.func66 rfl rfl rfl (by kernel_rfl),
 ⟨fd_pure mixed ta1_ok rfl,
 ⟨fd_pure mixed ta1_ok rfl,
 ⟨fd_codeC Tryz.func55 rfl rfl rfl (by kernel_rfl),
 ⟨fd_pure mixed ta0_ok rfl,
 ⟨fd_pure mixed ta0_ok rfl,
 ⟨fd_pure mixed ta0_ok rfl,
 ⟨fd_codeC Tryz.func51 rfl rfl rfl (by kernel_rfl),
 ⟨fd_code Tryz.func14 rfl rfl rfl hc14 hr14,
 ⟨fd_codeC Tryz.func36 rfl rfl rfl (by kernel_rfl),
 ⟨fd_codeC Tryz.func35 rfl rfl rfl (by kernel_rfl),
 ⟨fd_codeC Tryz.func34 rfl rfl rfl (by kernel_rfl),
 ⟨fd_codeC Tryz.func33 rfl rfl rfl (by kernel_rfl),
 ⟨fd_codeC Tryz.func32 rfl rfl rfl (by kernel_rfl),
 ⟨fd_codeC Tryz.func22 rfl rfl rfl (by kernel_rfl),
 ⟨fd_pure mixed ta1_ok rfl,
 ⟨fd_codeC Tryz.func9 rfl rfl rfl (by kernel_rfl),
 ⟨fd_codeC Tryz.func5 rfl rfl rfl (by kernel_rfl),
 ⟨fd_codeC Tryz.func13 rfl rfl rfl (by kernel_rfl),
 ⟨fd_codeC Tryz.func10 rfl rfl rfl (by kernel_rfl),
 trivial⟩⟩⟩⟩⟩⟩⟩⟩⟩⟩⟩⟩⟩⟩⟩⟩⟩⟩⟩⟩⟩⟩⟩⟩⟩⟩⟩⟩⟩⟩⟩⟩⟩⟩⟩⟩⟩⟩
end Go.Proofs.YtgajaabakpfbbaaGreat
