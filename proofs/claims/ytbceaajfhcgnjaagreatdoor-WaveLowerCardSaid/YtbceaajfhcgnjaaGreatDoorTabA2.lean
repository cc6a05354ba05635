/-
 Tables, printed by a program.
-/
import Derived.KernelRfl
import Derived.Test.YtbceaajfhcgnjaaGreatDoorGRCode
import Derived.Test.YtbceaajfhcgnjaaGreatDoorEvG
import Derived.Test.YtbceaajfhcgnjaaGreatDoorTWS
namespace Go.Proofs.YtbceaajfhcgnjaaGreatDoor
open Go.Eng
set_option maxRecDepth 100000
noncomputable def tc0:List (Nat×FDef):=[(189,.code (cs Tryz.f189) 9 (cr Tryz.f189)),(177,.code (cs Tryz.f177) 9 (cr Tryz.f177)),(173,.code sc173 19 rv173),(167,.code (cs Tryz.f167) 33 (cr Tryz.f167)),(139,.code (cs Tryz.f139) 9 (cr Tryz.f139)),(138,.code (cs Tryz.f138) 13 (cr Tryz.f138)),(137,.code (cs Tryz.f137) 17 (cr Tryz.f137))]
theorem tc0_ok:TbOk Tryz.prog tc0 :=
 ⟨fd_codeC Tryz.func189 rfl rfl rfl (by kernel_rfl),
 ⟨fd_codeC Tryz.func177 rfl rfl rfl (by kernel_rfl),
 ⟨fd_code Tryz.func173 rfl rfl rfl hc173 hr173,
 ⟨fd_codeC Tryz.func167 rfl rfl rfl (by kernel_rfl),
 ⟨fd_codeC Tryz.func139 rfl rfl rfl (by kernel_rfl),
 ⟨fd_codeC Tryz.func138 rfl rfl rfl (by kernel_rfl),
 ⟨fd_codeC Tryz.func137 rfl rfl rfl (by kernel_rfl),
 trivial⟩⟩⟩⟩⟩⟩⟩
noncomputable def tc1:List (Nat×FDef):=[(177,.ext (evX tc0 10000 60 177)),(176,.code (cs Tryz.f176) 10 (cr Tryz.f176)),(175,.code (cs Tryz.f175) 7 (cr Tryz.f175)),(174,.code (cs Tryz.f174) 61 (cr Tryz.f174)),(173,.ext (evX tc0 10000 60 173)),(159,.code (cs Tryz.f159) 11 (cr Tryz.f159)),(158,.code (cs Tryz.f158) 11 (cr Tryz.f158)),(157,.code (cs Tryz.f157) 32 (cr Tryz.f157)),(156,.code sc156 37 rv156),(167,.ext (evX tc0 10000 60 167)),(138,.ext (evX tc0 10000 60 138)),(137,.ext (evX tc0 10000 60 137)),(124,.code (cs Tryz.f124) 36 (cr Tryz.f124)),(145,.code (cs Tryz.f145) 32 (cr Tryz.f145))]
theorem tc1_ok:TbOk Tryz.prog tc1 :=
 ⟨fd_pure mixed tc0_ok rfl,
 ⟨fd_codeC Tryz.func176 rfl rfl rfl (by kernel_rfl),
 ⟨fd_codeC Tryz.func175 rfl rfl rfl (by kernel_rfl),
 ⟨fd_codeC Tryz.func174 rfl rfl rfl (by kernel_rfl),
 ⟨fd_pure mixed tc0_ok rfl,
 ⟨fd_codeC Tryz.func159 rfl rfl rfl (by kernel_rfl),
 ⟨fd_codeC Tryz.func158 rfl rfl rfl (by kernel_rfl),
 ⟨fd_codeC Tryz.func157 rfl rfl rfl (by kernel_rfl),
 ⟨fd_code Tryz.func156 rfl rfl rfl hc156 hr156,
 ⟨fd_pure mixed tc0_ok rfl,
 ⟨fd_pure mixed tc0_ok rfl,
 ⟨fd_pure mixed tc0_ok rfl,
 ⟨fd_codeC Tryz.func124 rfl rfl rfl (by kernel_rfl),
 ⟨fd_codeC Tryz.func145 rfl rfl rfl (by kernel_rfl),
 trivial⟩⟩⟩⟩⟩⟩⟩⟩⟩⟩⟩⟩⟩⟩
noncomputable def tc2:List (Nat×FDef):=[(202,.code (cs Tryz.f202) 7 (cr Tryz.f202)),(191,.code (cs Tryz.f191) 98 (cr Tryz.f191)),(177,.ext (evX tc0 10000 60 177)),(190,.code (cs Tryz.f190) 25 (cr Tryz.f190)),(189,.ext (evX tc0 10000 60 189)),(173,.ext (evX tc0 10000 60 173)),(172,.code (cs Tryz.f172) 62 (cr Tryz.f172)),(124,.ext (evX tc1 10000 60 124)),(151,.code (cs Tryz.f151) 13 (cr Tryz.f151)),(153,.code (cs Tryz.f153) 43 (cr Tryz.f153))]
theorem tc2_ok:TbOk Tryz.prog tc2 :=
 ⟨fd_codeC Tryz.func202 rfl rfl rfl (by kernel_rfl),
 ⟨fd_codeC Tryz.func191 rfl rfl rfl (by kernel_rfl),
 ⟨fd_pure mixed tc0_ok rfl,
 ⟨fd_codeC Tryz.func190 rfl rfl rfl (by kernel_rfl),
 ⟨fd_pure mixed tc0_ok rfl,
 ⟨fd_pure mixed tc0_ok rfl,
 ⟨fd_codeC Tryz.func172 rfl rfl rfl (by kernel_rfl),
 ⟨fd_pure mixed tc1_ok rfl,
 ⟨fd_codeC Tryz.func151 rfl rfl rfl (by kernel_rfl),
 ⟨fd_codeC Tryz.func153 rfl rfl rfl (by kernel_rfl),
 trivial⟩⟩⟩⟩⟩⟩⟩⟩⟩⟩
noncomputable def tc:List (Nat×FDef):=[(153,.ext (evX tc2 10000 60 153)),(124,.ext (evX tc1 10000 60 124)),(152,.code (cs Tryz.f152) 15 (cr Tryz.f152)),(151,.code (cs Tryz.f151) 13 (cr Tryz.f151)),(145,.ext (evX tc1 10000 60 145)),(114,.code (cs Tryz.f114) 42 (cr Tryz.f114)),(113,.code (cs Tryz.f113) 25 (cr Tryz.f113)),(112,.code (cs Tryz.f112) 56 (cr Tryz.f112)),(111,.code (cs Tryz.f111) 68 (cr Tryz.f111)),(110,.code (cs Tryz.f110) 57 (cr Tryz.f110)),(71,.code (cs Tryz.f71) 68 (cr Tryz.f71))]
theorem tc_ok:TbOk Tryz.prog tc :=
 ⟨fd_pure mixed tc2_ok rfl,
 ⟨fd_pure mixed tc1_ok rfl,
 ⟨fd_codeC Tryz.func152 rfl rfl rfl (by kernel_rfl),
 ⟨fd_codeC Tryz.func151 rfl rfl rfl (by kernel_rfl),
 ⟨fd_pure mixed tc1_ok rfl,
 ⟨fd_codeC Tryz.func114 rfl rfl rfl (by kernel_rfl),
 ⟨fd_codeC Tryz.func113 rfl rfl rfl (by kernel_rfl),
 ⟨fd_codeC Tryz.func112 rfl rfl rfl (by kernel_rfl),
 ⟨fd_codeC Tryz.func111 rfl rfl rfl (by kernel_rfl),
 ⟨fd_codeC Tryz.func110 rfl rfl rfl (by kernel_rfl),
 ⟨fd_codeC Tryz.func71 rfl rfl rfl (by kernel_rfl),
 trivial⟩⟩⟩⟩⟩⟩⟩⟩⟩⟩⟩
end Go.Proofs.YtbceaajfhcgnjaaGreatDoor
