/-
 Tables, printed by a program.
-/
import Derived.KernelRfl
import Derived.Test.YtpoplpohbpfbmaaGreatDoorGRCode
import Derived.Test.YtpoplpohbpfbmaaGreatDoorEvG
import Derived.Test.YtpoplpohbpfbmaaGreatDoorTWS
namespace Go.Proofs.YtpoplpohbpfbmaaGreatDoor
open Go.Eng
set_option maxRecDepth 100000
noncomputable def tc0:List (Nat×FDef):=[(168,.code (cs Tryz.f168) 9 (cr Tryz.f168)),(167,.code (cs Tryz.f167) 9 (cr Tryz.f167)),(163,.code sc163 19 rv163),(145,.code (cs Tryz.f145) 33 (cr Tryz.f145)),(118,.code (cs Tryz.f118) 9 (cr Tryz.f118)),(117,.code (cs Tryz.f117) 13 (cr Tryz.f117)),(116,.code (cs Tryz.f116) 17 (cr Tryz.f116))]
theorem tc0_ok:TbOk Tryz.prog tc0 :=
 ⟨fd_codeC Tryz.func168 rfl rfl rfl (by kernel_rfl),
 ⟨fd_codeC Tryz.func167 rfl rfl rfl (by kernel_rfl),
 ⟨fd_code Tryz.func163 rfl rfl rfl hc163 hr163,
 ⟨fd_codeC Tryz.func145 rfl rfl rfl (by kernel_rfl),
 ⟨fd_codeC Tryz.func118 rfl rfl rfl (by kernel_rfl),
 ⟨fd_codeC Tryz.func117 rfl rfl rfl (by kernel_rfl),
 ⟨fd_codeC Tryz.func116 rfl rfl rfl (by kernel_rfl),
 trivial⟩⟩⟩⟩⟩⟩⟩
noncomputable def tc1:List (Nat×FDef):=[(167,.ext (evX tc0 10000 60 167)),(166,.code (cs Tryz.f166) 10 (cr Tryz.f166)),(165,.code (cs Tryz.f165) 7 (cr Tryz.f165)),(164,.code (cs Tryz.f164) 61 (cr Tryz.f164)),(163,.ext (evX tc0 10000 60 163)),(153,.code (cs Tryz.f153) 11 (cr Tryz.f153)),(152,.code (cs Tryz.f152) 11 (cr Tryz.f152)),(151,.code (cs Tryz.f151) 32 (cr Tryz.f151)),(150,.code sc150 37 rv150),(145,.ext (evX tc0 10000 60 145)),(117,.ext (evX tc0 10000 60 117)),(116,.ext (evX tc0 10000 60 116)),(132,.code (cs Tryz.f132) 36 (cr Tryz.f132)),(124,.code (cs Tryz.f124) 32 (cr Tryz.f124))]
theorem tc1_ok:TbOk Tryz.prog tc1 :=
 ⟨fd_pure mixed tc0_ok rfl,
 ⟨fd_codeC Tryz.func166 rfl rfl rfl (by kernel_rfl),
 ⟨fd_codeC Tryz.func165 rfl rfl rfl (by kernel_rfl),
 ⟨fd_codeC Tryz.func164 rfl rfl rfl (by kernel_rfl),
 ⟨fd_pure mixed tc0_ok rfl,
 ⟨fd_codeC Tryz.func153 rfl rfl rfl (by kernel_rfl),
 ⟨fd_codeC Tryz.func152 rfl rfl rfl (by kernel_rfl),
 ⟨fd_codeC Tryz.func151 rfl rfl rfl (by kernel_rfl),
 ⟨fd_code Tryz.func150 rfl rfl rfl hc150 hr150,
 ⟨fd_pure mixed tc0_ok rfl,
 ⟨fd_pure mixed tc0_ok rfl,
 ⟨fd_pure mixed tc0_ok rfl,
 ⟨fd_codeC Tryz.func132 rfl rfl rfl (by kernel_rfl),
 ⟨fd_codeC Tryz.func124 rfl rfl rfl (by kernel_rfl),
 trivial⟩⟩⟩⟩⟩⟩⟩⟩⟩⟩⟩⟩⟩⟩
noncomputable def tc2:List (Nat×FDef):=[(179,.code (cs Tryz.f179) 7 (cr Tryz.f179)),(170,.code (cs Tryz.f170) 98 (cr Tryz.f170)),(167,.ext (evX tc0 10000 60 167)),(169,.code (cs Tryz.f169) 25 (cr Tryz.f169)),(168,.ext (evX tc0 10000 60 168)),(163,.ext (evX tc0 10000 60 163)),(154,.code (cs Tryz.f154) 62 (cr Tryz.f154)),(132,.ext (evX tc1 10000 60 132)),(130,.code (cs Tryz.f130) 13 (cr Tryz.f130)),(133,.code (cs Tryz.f133) 43 (cr Tryz.f133))]
theorem tc2_ok:TbOk Tryz.prog tc2 :=
 ⟨fd_codeC Tryz.func179 rfl rfl rfl (by kernel_rfl),
 ⟨fd_codeC Tryz.func170 rfl rfl rfl (by kernel_rfl),
 ⟨fd_pure mixed tc0_ok rfl,
 ⟨fd_codeC Tryz.func169 rfl rfl rfl (by kernel_rfl),
 ⟨fd_pure mixed tc0_ok rfl,
 ⟨fd_pure mixed tc0_ok rfl,
 ⟨fd_codeC Tryz.func154 rfl rfl rfl (by kernel_rfl),
 ⟨fd_pure mixed tc1_ok rfl,
 ⟨fd_codeC Tryz.func130 rfl rfl rfl (by kernel_rfl),
 ⟨fd_codeC Tryz.func133 rfl rfl rfl (by kernel_rfl),
 trivial⟩⟩⟩⟩⟩⟩⟩⟩⟩⟩
noncomputable def tc:List (Nat×FDef):=[(133,.ext (evX tc2 10000 60 133)),(132,.ext (evX tc1 10000 60 132)),(131,.code (cs Tryz.f131) 15 (cr Tryz.f131)),(130,.code (cs Tryz.f130) 13 (cr Tryz.f130)),(124,.ext (evX tc1 10000 60 124)),(92,.code (cs Tryz.f92) 42 (cr Tryz.f92)),(91,.code (cs Tryz.f91) 25 (cr Tryz.f91)),(90,.code (cs Tryz.f90) 56 (cr Tryz.f90)),(89,.code (cs Tryz.f89) 68 (cr Tryz.f89)),(88,.code (cs Tryz.f88) 57 (cr Tryz.f88)),(53,.code (cs Tryz.f53) 68 (cr Tryz.f53))]
theorem tc_ok:TbOk Tryz.prog tc :=
 ⟨fd_pure mixed tc2_ok rfl,
 ⟨fd_pure mixed tc1_ok rfl,
 ⟨fd_codeC Tryz.func131 rfl rfl rfl (by kernel_rfl),
 ⟨fd_codeC Tryz.func130 rfl rfl rfl (by kernel_rfl),
 ⟨fd_pure mixed tc1_ok rfl,
 ⟨fd_codeC Tryz.func92 rfl rfl rfl (by kernel_rfl),
 ⟨fd_codeC Tryz.func91 rfl rfl rfl (by kernel_rfl),
 ⟨fd_codeC Tryz.func90 rfl rfl rfl (by kernel_rfl),
 ⟨fd_codeC Tryz.func89 rfl rfl rfl (by kernel_rfl),
 ⟨fd_codeC Tryz.func88 rfl rfl rfl (by kernel_rfl),
 ⟨fd_codeC Tryz.func53 rfl rfl rfl (by kernel_rfl),
 trivial⟩⟩⟩⟩⟩⟩⟩⟩⟩⟩⟩
end Go.Proofs.YtpoplpohbpfbmaaGreatDoor
