/-
 Tables, printed by a program.
-/
import Derived.KernelRfl
import Derived.Test.YtpoplpohbpfbmaaGreatDoorGRCode
import Derived.Test.YtpoplpohbpfbmaaGreatDoorEvG
namespace Go.Proofs.YtpoplpohbpfbmaaGreatDoor
open Go.Eng
set_option maxRecDepth 100000
noncomputable def ta0:List (Nat×FDef):=[(177,.code (cs Tryz.f177) 25 (cr Tryz.f177)),(178,.code (cs Tryz.f178) 2 (cr Tryz.f178)),(156,.code (cs Tryz.f156) 18 (cr Tryz.f156)),(168,.code (cs Tryz.f168) 9 (cr Tryz.f168)),(167,.code (cs Tryz.f167) 9 (cr Tryz.f167)),(163,.code sc163 19 rv163),(161,.code (cs Tryz.f161) 27 (cr Tryz.f161)),(160,.code (cs Tryz.f160) 6 (cr Tryz.f160)),(145,.code (cs Tryz.f145) 33 (cr Tryz.f145)),(143,.code (cs Tryz.f143) 8 (cr Tryz.f143)),(118,.code (cs Tryz.f118) 9 (cr Tryz.f118)),(117,.code (cs Tryz.f117) 13 (cr Tryz.f117)),(116,.code (cs Tryz.f116) 17 (cr Tryz.f116))]
theorem ta0_ok:TbOk Tryz.prog ta0 :=
 ⟨fd_codeC Tryz.func177 rfl rfl rfl (by kernel_rfl),
 ⟨fd_codeC Tryz.func178 rfl rfl rfl (by kernel_rfl),
 ⟨fd_codeC Tryz.func156 rfl rfl rfl (by kernel_rfl),
 ⟨fd_codeC Tryz.func168 rfl rfl rfl (by kernel_rfl),
 ⟨fd_codeC Tryz.func167 rfl rfl rfl (by kernel_rfl),
 ⟨fd_code Tryz.func163 rfl rfl rfl hc163 hr163,
 ⟨fd_codeC Tryz.func161 rfl rfl rfl (by kernel_rfl),
 ⟨fd_codeC Tryz.func160 rfl rfl rfl (by kernel_rfl),
 ⟨fd_codeC Tryz.func145 rfl rfl rfl (by kernel_rfl),
 ⟨fd_codeC Tryz.func143 rfl rfl rfl (by kernel_rfl),
 ⟨fd_codeC Tryz.func118 rfl rfl rfl (by kernel_rfl),
 ⟨fd_codeC Tryz.func117 rfl rfl rfl (by kernel_rfl),
 ⟨fd_codeC Tryz.func116 rfl rfl rfl (by kernel_rfl),
 trivial⟩⟩⟩⟩⟩⟩⟩⟩⟩⟩⟩⟩⟩
noncomputable def ta1:List (Nat×FDef):=[(157,.ext idxg),(144,.code (cs Tryz.f144) 8 (cr Tryz.f144)),(143,.ext (evX ta0 10000 60 143)),(145,.ext (evX ta0 10000 60 145)),(117,.ext (evX ta0 10000 60 117)),(116,.ext (evX ta0 10000 60 116)),(77,.code (cs Tryz.f77) 35 (cr Tryz.f77)),(120,.code (cs Tryz.f120) 19 (cr Tryz.f120)),(124,.code (cs Tryz.f124) 32 (cr Tryz.f124))]
theorem ta1_ok:TbOk Tryz.prog ta1 :=
 ⟨idx_ok,
 ⟨fd_codeC Tryz.func144 rfl rfl rfl (by kernel_rfl),
 ⟨fd_pure mixed ta0_ok rfl,
 ⟨fd_pure mixed ta0_ok rfl,
 ⟨fd_pure mixed ta0_ok rfl,
 ⟨fd_pure mixed ta0_ok rfl,
 ⟨fd_codeC Tryz.func77 rfl rfl rfl (by kernel_rfl),
 ⟨fd_codeC Tryz.func120 rfl rfl rfl (by kernel_rfl),
 ⟨fd_codeC Tryz.func124 rfl rfl rfl (by kernel_rfl),
 trivial⟩⟩⟩⟩⟩⟩⟩⟩⟩
noncomputable def ta:List (Nat×FDef):=[(179,.code (cs Tryz.f179) 7 (cr Tryz.f179)),(170,.code (cs Tryz.f170) 98 (cr Tryz.f170)),(167,.ext (evX ta0 10000 60 167)),(169,.code (cs Tryz.f169) 25 (cr Tryz.f169)),(168,.ext (evX ta0 10000 60 168)),(166,.code (cs Tryz.f166) 10 (cr Tryz.f166)),(165,.code (cs Tryz.f165) 7 (cr Tryz.f165)),(164,.code (cs Tryz.f164) 61 (cr Tryz.f164)),(163,.ext (evX ta0 10000 60 163)),(154,.code (cs Tryz.f154) 62 (cr Tryz.f154)),(153,.code (cs Tryz.f153) 11 (cr Tryz.f153)),(152,.code (cs Tryz.f152) 11 (cr Tryz.f152)),(151,.code (cs Tryz.f151) 32 (cr Tryz.f151)),(150,.code sc150 37 rv150),(66,.code sc66 5 rv66),(133,.code (cs Tryz.f133) 43 (cr Tryz.f133)),(132,.code (cs Tryz.f132) 36 (cr Tryz.f132)),(131,.code (cs Tryz.f131) 15 (cr Tryz.f131)),(130,.code (cs Tryz.f130) 13 (cr Tryz.f130)),(124,.ext (evX ta1 10000 60 124)),(120,.ext (evX ta1 10000 60 120)),(119,.code (cs Tryz.f119) 31 (cr Tryz.f119)),(118,.ext (evX ta0 10000 60 118)),(117,.ext (evX ta0 10000 60 117)),(116,.ext (evX ta0 10000 60 116)),(115,.code (cs Tryz.f115) 21 (cr Tryz.f115)),(65,.code sc65 14 rv65),(40,.code sc40 4 rv40),(92,.code (cs Tryz.f92) 42 (cr Tryz.f92)),(91,.code (cs Tryz.f91) 25 (cr Tryz.f91)),(90,.code (cs Tryz.f90) 56 (cr Tryz.f90)),(89,.code (cs Tryz.f89) 68 (cr Tryz.f89)),(88,.code (cs Tryz.f88) 57 (cr Tryz.f88)),(78,.code (cs Tryz.f78) 62 (cr Tryz.f78)),(77,.ext (evX ta1 10000 60 77)),(8,.code (cs Tryz.f8) 1 (cr Tryz.f8)),(53,.code (cs Tryz.f53) 68 (cr Tryz.f53)),(50,.code (cs Tryz.f50) 41 (cr Tryz.f50))]
theorem ta_ok:TbOk Tryz.prog ta :=
 ⟨fd_codeC Tryz.func179 rfl rfl rfl (by kernel_rfl),
 ⟨fd_codeC Tryz.func170 rfl rfl rfl (by kernel_rfl),
 ⟨fd_pure mixed ta0_ok rfl,
 ⟨fd_codeC Tryz.func169 rfl rfl rfl (by kernel_rfl),
 ⟨fd_pure mixed ta0_ok rfl,
 ⟨fd_codeC Tryz.func166 rfl rfl rfl (by kernel_rfl),
 ⟨fd_codeC Tryz.func165 rfl rfl rfl (by kernel_rfl),
 ⟨fd_codeC Tryz.func164 rfl rfl rfl (by kernel_rfl),
 ⟨fd_pure mixed ta0_ok rfl,
 ⟨fd_codeC Tryz.func154 rfl rfl rfl (by kernel_rfl),
 ⟨fd_codeC Tryz.func153 rfl rfl rfl (by kernel_rfl),
 ⟨fd_codeC Tryz.func152 rfl rfl rfl (by kernel_rfl),
 ⟨fd_codeC Tryz.func151 rfl rfl rfl (by kernel_rfl),
 ⟨fd_code Tryz.func150 rfl rfl rfl hc150 hr150,
 ⟨fd_code Tryz.func66 rfl rfl rfl hc66 hr66,
 ⟨fd_codeC Tryz.func133 rfl rfl rfl (by kernel_rfl),
 ⟨fd_codeC Tryz.func132 rfl rfl rfl (by kernel_rfl),
 ⟨fd_codeC Tryz.func131 rfl rfl rfl (by kernel_rfl),
 ⟨fd_codeC Tryz.func130 rfl rfl rfl (by kernel_rfl),
 ⟨fd_pure mixed ta1_ok rfl,
 ⟨fd_pure mixed ta1_ok rfl,
 ⟨fd_codeC Tryz.func119 rfl rfl rfl (by kernel_rfl),
 ⟨fd_pure mixed ta0_ok rfl,
 ⟨fd_pure mixed ta0_ok rfl,
 ⟨fd_pure mixed ta0_ok rfl,
 ⟨fd_codeC Tryz.func115 rfl rfl rfl (by kernel_rfl),
 ⟨fd_code Tryz.func65 rfl rfl rfl hc65 hr65,
 ⟨fd_code Tryz.func40 rfl rfl rfl hc40 hr40,
 ⟨fd_codeC Tryz.func92 rfl rfl rfl (by kernel_rfl),
 ⟨fd_codeC Tryz.func91 rfl rfl rfl (by kernel_rfl),
 ⟨fd_codeC Tryz.func90 rfl rfl rfl (by kernel_rfl),
 ⟨fd_codeC Tryz.func89 rfl rfl rfl (by kernel_rfl),
 ⟨fd_codeC Tryz.func88 rfl rfl rfl (by kernel_rfl),
 ⟨fd_codeC Tryz.func78 rfl rfl rfl (by kernel_rfl),
 ⟨fd_pure mixed ta1_ok rfl,
 ⟨fd_codeC Tryz.func8 rfl rfl rfl (by kernel_rfl),
 ⟨fd_codeC Tryz.func53 rfl rfl rfl (by kernel_rfl),
 ⟨fd_codeC Tryz.func50 rfl rfl rfl (by kernel_rfl),
 trivial⟩⟩⟩⟩⟩⟩⟩⟩⟩⟩⟩⟩⟩⟩⟩⟩⟩⟩⟩⟩⟩⟩⟩⟩⟩⟩⟩⟩⟩⟩⟩⟩⟩⟩⟩⟩⟩⟩
end Go.Proofs.YtpoplpohbpfbmaaGreatDoor
