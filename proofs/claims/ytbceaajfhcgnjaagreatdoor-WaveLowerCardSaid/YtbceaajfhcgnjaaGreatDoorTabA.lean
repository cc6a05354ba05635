/-
 Tables, printed by a program.
-/
import Derived.KernelRfl
import Derived.Test.YtbceaajfhcgnjaaGreatDoorGRCode
import Derived.Test.YtbceaajfhcgnjaaGreatDoorEvG
namespace Go.Proofs.YtbceaajfhcgnjaaGreatDoor
open Go.Eng
set_option maxRecDepth 100000
noncomputable def ta0:List (Nat×FDef):=[(200,.code (cs Tryz.f200) 25 (cr Tryz.f200)),(201,.code (cs Tryz.f201) 2 (cr Tryz.f201)),(182,.code (cs Tryz.f182) 18 (cr Tryz.f182)),(189,.code (cs Tryz.f189) 9 (cr Tryz.f189)),(177,.code (cs Tryz.f177) 9 (cr Tryz.f177)),(173,.code sc173 19 rv173),(187,.code (cs Tryz.f187) 27 (cr Tryz.f187)),(186,.code (cs Tryz.f186) 6 (cr Tryz.f186)),(167,.code (cs Tryz.f167) 33 (cr Tryz.f167)),(165,.code (cs Tryz.f165) 8 (cr Tryz.f165)),(139,.code (cs Tryz.f139) 9 (cr Tryz.f139)),(138,.code (cs Tryz.f138) 13 (cr Tryz.f138)),(137,.code (cs Tryz.f137) 17 (cr Tryz.f137))]
theorem ta0_ok:TbOk Tryz.prog ta0 :=
 ⟨fd_codeC Tryz.func200 rfl rfl rfl (by kernel_rfl),
 ⟨fd_codeC Tryz.func201 rfl rfl rfl (by kernel_rfl),
 ⟨fd_codeC Tryz.func182 rfl rfl rfl (by kernel_rfl),
 ⟨fd_codeC Tryz.func189 rfl rfl rfl (by kernel_rfl),
 ⟨fd_codeC Tryz.func177 rfl rfl rfl (by kernel_rfl),
 ⟨fd_code Tryz.func173 rfl rfl rfl hc173 hr173,
 ⟨fd_codeC Tryz.func187 rfl rfl rfl (by kernel_rfl),
 ⟨fd_codeC Tryz.func186 rfl rfl rfl (by kernel_rfl),
 ⟨fd_codeC Tryz.func167 rfl rfl rfl (by kernel_rfl),
 ⟨fd_codeC Tryz.func165 rfl rfl rfl (by kernel_rfl),
 ⟨fd_codeC Tryz.func139 rfl rfl rfl (by kernel_rfl),
 ⟨fd_codeC Tryz.func138 rfl rfl rfl (by kernel_rfl),
 ⟨fd_codeC Tryz.func137 rfl rfl rfl (by kernel_rfl),
 trivial⟩⟩⟩⟩⟩⟩⟩⟩⟩⟩⟩⟩⟩
noncomputable def ta1:List (Nat×FDef):=[(183,.ext idxg),(166,.code (cs Tryz.f166) 8 (cr Tryz.f166)),(165,.ext (evX ta0 10000 60 165)),(167,.ext (evX ta0 10000 60 167)),(138,.ext (evX ta0 10000 60 138)),(137,.ext (evX ta0 10000 60 137)),(99,.code (cs Tryz.f99) 35 (cr Tryz.f99)),(141,.code (cs Tryz.f141) 19 (cr Tryz.f141)),(145,.code (cs Tryz.f145) 32 (cr Tryz.f145))]
theorem ta1_ok:TbOk Tryz.prog ta1 :=
 ⟨idx_ok,
 ⟨fd_codeC Tryz.func166 rfl rfl rfl (by kernel_rfl),
 ⟨fd_pure mixed ta0_ok rfl,
 ⟨fd_pure mixed ta0_ok rfl,
 ⟨fd_pure mixed ta0_ok rfl,
 ⟨fd_pure mixed ta0_ok rfl,
 ⟨fd_codeC Tryz.func99 rfl rfl rfl (by kernel_rfl),
 ⟨fd_codeC Tryz.func141 rfl rfl rfl (by kernel_rfl),
 ⟨fd_codeC Tryz.func145 rfl rfl rfl (by kernel_rfl),
 trivial⟩⟩⟩⟩⟩⟩⟩⟩⟩
noncomputable def ta:List (Nat×FDef):=[(202,.code (cs Tryz.f202) 7 (cr Tryz.f202)),(191,.code (cs Tryz.f191) 98 (cr Tryz.f191)),(177,.ext (evX ta0 10000 60 177)),(190,.code (cs Tryz.f190) 25 (cr Tryz.f190)),(189,.ext (evX ta0 10000 60 189)),(176,.code (cs Tryz.f176) 10 (cr Tryz.f176)),(175,.code (cs Tryz.f175) 7 (cr Tryz.f175)),(174,.code (cs Tryz.f174) 61 (cr Tryz.f174)),(173,.ext (evX ta0 10000 60 173)),(172,.code (cs Tryz.f172) 62 (cr Tryz.f172)),(159,.code (cs Tryz.f159) 11 (cr Tryz.f159)),(158,.code (cs Tryz.f158) 11 (cr Tryz.f158)),(157,.code (cs Tryz.f157) 32 (cr Tryz.f157)),(156,.code sc156 37 rv156),(83,.code sc83 5 rv83),(153,.code (cs Tryz.f153) 43 (cr Tryz.f153)),(124,.code (cs Tryz.f124) 36 (cr Tryz.f124)),(152,.code (cs Tryz.f152) 15 (cr Tryz.f152)),(151,.code (cs Tryz.f151) 13 (cr Tryz.f151)),(145,.ext (evX ta1 10000 60 145)),(141,.ext (evX ta1 10000 60 141)),(140,.code (cs Tryz.f140) 31 (cr Tryz.f140)),(139,.ext (evX ta0 10000 60 139)),(138,.ext (evX ta0 10000 60 138)),(137,.ext (evX ta0 10000 60 137)),(136,.code (cs Tryz.f136) 21 (cr Tryz.f136)),(82,.code sc82 14 rv82),(50,.code sc50 4 rv50),(114,.code (cs Tryz.f114) 42 (cr Tryz.f114)),(113,.code (cs Tryz.f113) 25 (cr Tryz.f113)),(112,.code (cs Tryz.f112) 56 (cr Tryz.f112)),(111,.code (cs Tryz.f111) 68 (cr Tryz.f111)),(110,.code (cs Tryz.f110) 57 (cr Tryz.f110)),(100,.code (cs Tryz.f100) 62 (cr Tryz.f100)),(99,.ext (evX ta1 10000 60 99)),(9,.code (cs Tryz.f9) 1 (cr Tryz.f9)),(71,.code (cs Tryz.f71) 68 (cr Tryz.f71)),(68,.code (cs Tryz.f68) 41 (cr Tryz.f68))]
theorem ta_ok:TbOk Tryz.prog ta :=
 ⟨fd_codeC Tryz.func202 rfl rfl rfl (by kernel_rfl),
 ⟨fd_codeC Tryz.func191 rfl rfl rfl (by kernel_rfl),
 ⟨fd_pure mixed ta0_ok rfl,
 ⟨fd_codeC Tryz.func190 rfl rfl rfl (by kernel_rfl),
 ⟨fd_pure mixed ta0_ok rfl,
 ⟨fd_codeC Tryz.func176 rfl rfl rfl (by kernel_rfl),
 ⟨fd_codeC Tryz.func175 rfl rfl rfl (by kernel_rfl),
 ⟨fd_codeC Tryz.func174 rfl rfl rfl (by kernel_rfl),
 ⟨fd_pure mixed ta0_ok rfl,
 ⟨fd_codeC Tryz.func172 rfl rfl rfl (by kernel_rfl),
 ⟨fd_codeC Tryz.func159 rfl rfl rfl (by kernel_rfl),
 ⟨fd_codeC Tryz.func158 rfl rfl rfl (by kernel_rfl),
 ⟨fd_codeC Tryz.func157 rfl rfl rfl (by kernel_rfl),
 ⟨fd_code Tryz.func156 rfl rfl rfl hc156 hr156,
 ⟨fd_code Tryz.func83 rfl rfl rfl hc83 hr83,
 ⟨fd_codeC Tryz.func153 rfl rfl rfl (by kernel_rfl),
 ⟨fd_codeC Tryz.func124 rfl rfl rfl (by kernel_rfl),
 ⟨fd_codeC Tryz.func152 rfl rfl rfl (by kernel_rfl),
 ⟨fd_codeC Tryz.func151 rfl rfl rfl (by kernel_rfl),
 ⟨fd_pure mixed ta1_ok rfl,
 ⟨fd_pure mixed ta1_ok rfl,
 ⟨fd_codeC Tryz.func140 rfl rfl rfl (by kernel_rfl),
 ⟨fd_pure mixed ta0_ok rfl,
 ⟨fd_pure mixed ta0_ok rfl,
 ⟨fd_pure mixed ta0_ok rfl,
 ⟨fd_codeC Tryz.func136 rfl rfl rfl (by kernel_rfl),
 ⟨fd_code Tryz.func82 rfl rfl rfl hc82 hr82,
 ⟨fd_code Tryz.func50 rfl rfl rfl hc50 hr50,
 ⟨fd_codeC Tryz.func114 rfl rfl rfl (by kernel_rfl),
 ⟨fd_codeC Tryz.func113 rfl rfl rfl (by kernel_rfl),
 ⟨fd_codeC Tryz.func112 rfl rfl rfl (by kernel_rfl),
 ⟨fd_codeC Tryz.func111 rfl rfl rfl (by kernel_rfl),
 ⟨fd_codeC Tryz.func110 rfl rfl rfl (by kernel_rfl),
 ⟨fd_codeC Tryz.func100 rfl rfl rfl (by kernel_rfl),
 ⟨fd_pure mixed ta1_ok rfl,
 ⟨fd_codeC Tryz.func9 rfl rfl rfl (by kernel_rfl),
 ⟨fd_codeC Tryz.func71 rfl rfl rfl (by kernel_rfl),
 ⟨fd_codeC Tryz.func68 rfl rfl rfl (by kernel_rfl),
 trivial⟩⟩⟩⟩⟩⟩⟩⟩⟩⟩⟩⟩⟩⟩⟩⟩⟩⟩⟩⟩⟩⟩⟩⟩⟩⟩⟩⟩⟩⟩⟩⟩⟩⟩⟩⟩⟩⟩
end Go.Proofs.YtbceaajfhcgnjaaGreatDoor
