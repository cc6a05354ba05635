/-
 The tables of functions that the evaluator runs, printed by a program (wip/tools/evtab.py).
-/
import Derived.KernelRfl
import Derived.Test.YtgajaabakpfbbaaGreatDoorGRCode
import Derived.Test.YtgajaabakpfbbaaGreatDoorEvG
namespace Go.Proofs.YtgajaabakpfbbaaGreatDoor
open Go.Eng
set_option maxRecDepth 100000
noncomputable def ta0:List (Nat × J7t):=[(223,.code (cs Tryz.f223) 25 (cr Tryz.f223)),(224,.code (cs Tryz.f224) 2 (cr Tryz.f224)),(200,.code (cs Tryz.f200) 18 (cr Tryz.f200)),(212,.code (cs Tryz.f212) 9 (cr Tryz.f212)),(211,.code (cs Tryz.f211) 9 (cr Tryz.f211)),(207,.code sc207 19 rv207),(205,.code (cs Tryz.f205) 27 (cr Tryz.f205)),(204,.code (cs Tryz.f204) 6 (cr Tryz.f204)),(184,.code (cs Tryz.f184) 33 (cr Tryz.f184)),(182,.code (cs Tryz.f182) 8 (cr Tryz.f182)),(152,.code (cs Tryz.f152) 9 (cr Tryz.f152)),(151,.code (cs Tryz.f151) 13 (cr Tryz.f151)),(150,.code (cs Tryz.f150) 17 (cr Tryz.f150))]
theorem J3b:TbOk Tryz.prog ta0 :=
 ⟨J0c Tryz.func223 rfl rfl rfl (by kernel_rfl),
 ⟨J0c Tryz.func224 rfl rfl rfl (by kernel_rfl),
 ⟨J0c Tryz.func200 rfl rfl rfl (by kernel_rfl),
 ⟨J0c Tryz.func212 rfl rfl rfl (by kernel_rfl),
 ⟨J0c Tryz.func211 rfl rfl rfl (by kernel_rfl),
 ⟨J4b Tryz.func207 rfl rfl rfl hc207 hr207,
 ⟨J0c Tryz.func205 rfl rfl rfl (by kernel_rfl),
 ⟨J0c Tryz.func204 rfl rfl rfl (by kernel_rfl),
 ⟨J0c Tryz.func184 rfl rfl rfl (by kernel_rfl),
 ⟨J0c Tryz.func182 rfl rfl rfl (by kernel_rfl),
 ⟨J0c Tryz.func152 rfl rfl rfl (by kernel_rfl),
 ⟨J0c Tryz.func151 rfl rfl rfl (by kernel_rfl),
 ⟨J0c Tryz.func150 rfl rfl rfl (by kernel_rfl),
 trivial⟩⟩⟩⟩⟩⟩⟩⟩⟩⟩⟩⟩⟩
noncomputable def ta1:List (Nat × J7t):=[(201,.ext idxg),(183,.code (cs Tryz.f183) 8 (cr Tryz.f183)),(182,.ext (evX ta0 10000 60 182)),(184,.ext (evX ta0 10000 60 184)),(151,.ext (evX ta0 10000 60 151)),(150,.ext (evX ta0 10000 60 150)),(112,.code (cs Tryz.f112) 35 (cr Tryz.f112)),(154,.code (cs Tryz.f154) 19 (cr Tryz.f154)),(158,.code (cs Tryz.f158) 32 (cr Tryz.f158))]
theorem ta1_ok:TbOk Tryz.prog ta1 :=
 ⟨idx_ok,
 ⟨J0c Tryz.func183 rfl rfl rfl (by kernel_rfl),
 ⟨J0I J0a J3b rfl,
 ⟨J0I J0a J3b rfl,
 ⟨J0I J0a J3b rfl,
 ⟨J0I J0a J3b rfl,
 ⟨J0c Tryz.func112 rfl rfl rfl (by kernel_rfl),
 ⟨J0c Tryz.func154 rfl rfl rfl (by kernel_rfl),
 ⟨J0c Tryz.func158 rfl rfl rfl (by kernel_rfl),
 trivial⟩⟩⟩⟩⟩⟩⟩⟩⟩
noncomputable def ta:List (Nat × J7t):=[(225,.code (cs Tryz.f225) 7 (cr Tryz.f225)),(214,.code (cs Tryz.f214) 98 (cr Tryz.f214)),(211,.ext (evX ta0 10000 60 211)),(213,.code (cs Tryz.f213) 25 (cr Tryz.f213)),(212,.ext (evX ta0 10000 60 212)),(210,.code (cs Tryz.f210) 10 (cr Tryz.f210)),(209,.code (cs Tryz.f209) 7 (cr Tryz.f209)),(208,.code (cs Tryz.f208) 61 (cr Tryz.f208)),(207,.ext (evX ta0 10000 60 207)),(193,.code (cs Tryz.f193) 62 (cr Tryz.f193)),(192,.code (cs Tryz.f192) 11 (cr Tryz.f192)),(191,.code (cs Tryz.f191) 11 (cr Tryz.f191)),(190,.code (cs Tryz.f190) 32 (cr Tryz.f190)),(189,.code sc189 37 rv189),(45,.code sc45 5 rv45),(167,.code (cs Tryz.f167) 43 (cr Tryz.f167)),(166,.code (cs Tryz.f166) 36 (cr Tryz.f166)),(165,.code (cs Tryz.f165) 15 (cr Tryz.f165)),(164,.code (cs Tryz.f164) 13 (cr Tryz.f164)),(158,.ext (evX ta1 10000 60 158)),(154,.ext (evX ta1 10000 60 154)),(153,.code (cs Tryz.f153) 31 (cr Tryz.f153)),(152,.ext (evX ta0 10000 60 152)),(151,.ext (evX ta0 10000 60 151)),(150,.ext (evX ta0 10000 60 150)),(149,.code (cs Tryz.f149) 21 (cr Tryz.f149)),(44,.code sc44 14 rv44),(127,.code (cs Tryz.f127) 42 (cr Tryz.f127)),(126,.code (cs Tryz.f126) 25 (cr Tryz.f126)),(125,.code (cs Tryz.f125) 56 (cr Tryz.f125)),(124,.code (cs Tryz.f124) 68 (cr Tryz.f124)),(123,.code (cs Tryz.f123) 57 (cr Tryz.f123)),(113,.code (cs Tryz.f113) 62 (cr Tryz.f113)),(112,.ext (evX ta1 10000 60 112)),(20,.code (cs Tryz.f20) 1 (cr Tryz.f20)),(90,.code (cs Tryz.f90) 68 (cr Tryz.f90)),(87,.code (cs Tryz.f87) 41 (cr Tryz.f87))]
theorem ta_ok:TbOk Tryz.prog ta :=
 ⟨J0c Tryz.func225 rfl rfl rfl (by kernel_rfl),
 ⟨J0c Tryz.func214 rfl rfl rfl (by kernel_rfl),
 ⟨J0I J0a J3b rfl,
 ⟨J0c Tryz.func213 rfl rfl rfl (by kernel_rfl),
 ⟨J0I J0a J3b rfl,
 ⟨J0c Tryz.func210 rfl rfl rfl (by kernel_rfl),
 ⟨J0c Tryz.func209 rfl rfl rfl (by kernel_rfl),
 ⟨J0c Tryz.func208 rfl rfl rfl (by kernel_rfl),
 ⟨J0I J0a J3b rfl,
 ⟨J0c Tryz.func193 rfl rfl rfl (by kernel_rfl),
 ⟨J0c Tryz.func192 rfl rfl rfl (by kernel_rfl),
 ⟨J0c Tryz.func191 rfl rfl rfl (by kernel_rfl),
 ⟨J0c Tryz.func190 rfl rfl rfl (by kernel_rfl),
 ⟨J4b Tryz.func189 rfl rfl rfl hc189 hr189,
 ⟨J4b Tryz.func45 rfl rfl rfl hc45 hr45,
 ⟨J0c Tryz.func167 rfl rfl rfl (by kernel_rfl),
 ⟨J0c Tryz.func166 rfl rfl rfl (by kernel_rfl),
 ⟨J0c Tryz.func165 rfl rfl rfl (by kernel_rfl),
 ⟨J0c Tryz.func164 rfl rfl rfl (by kernel_rfl),
 ⟨J0I J0a ta1_ok rfl,
 ⟨J0I J0a ta1_ok rfl,
 ⟨J0c Tryz.func153 rfl rfl rfl (by kernel_rfl),
 ⟨J0I J0a J3b rfl,
 ⟨J0I J0a J3b rfl,
 ⟨J0I J0a J3b rfl,
 ⟨J0c Tryz.func149 rfl rfl rfl (by kernel_rfl),
 ⟨J4b Tryz.func44 rfl rfl rfl hc44 hr44,
 ⟨J0c Tryz.func127 rfl rfl rfl (by kernel_rfl),
 ⟨J0c Tryz.func126 rfl rfl rfl (by kernel_rfl),
 ⟨J0c Tryz.func125 rfl rfl rfl (by kernel_rfl),
 ⟨J0c Tryz.func124 rfl rfl rfl (by kernel_rfl),
 ⟨J0c Tryz.func123 rfl rfl rfl (by kernel_rfl),
 ⟨J0c Tryz.func113 rfl rfl rfl (by kernel_rfl),
 ⟨J0I J0a ta1_ok rfl,
 ⟨J0c Tryz.func20 rfl rfl rfl (by kernel_rfl),
 ⟨J0c Tryz.func90 rfl rfl rfl (by kernel_rfl),
 ⟨J0c Tryz.func87 rfl rfl rfl (by kernel_rfl),
 trivial⟩⟩⟩⟩⟩⟩⟩⟩⟩⟩⟩⟩⟩⟩⟩⟩⟩⟩⟩⟩⟩⟩⟩⟩⟩⟩⟩⟩⟩⟩⟩⟩⟩⟩⟩⟩⟩
end Go.Proofs.YtgajaabakpfbbaaGreatDoor
