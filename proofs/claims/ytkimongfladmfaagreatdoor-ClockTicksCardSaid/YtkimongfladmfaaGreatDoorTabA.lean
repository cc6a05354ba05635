/-
 The tables of functions that the evaluator runs, printed by a program (wip/tools/evtab.py).
-/
import Derived.KernelRfl
import Derived.Test.YtkimongfladmfaaGreatDoorGRCode
import Derived.Test.YtkimongfladmfaaGreatDoorEvG
namespace Go.Proofs.YtkimongfladmfaaGreatDoor
open Go.Eng
set_option maxRecDepth 100000
noncomputable def ta0:List (Nat × FDef):=[(214,.code (cs Tryz.f214) 25 (cr Tryz.f214)),(215,.code (cs Tryz.f215) 2 (cr Tryz.f215)),(191,.code (cs Tryz.f191) 18 (cr Tryz.f191)),(203,.code (cs Tryz.f203) 9 (cr Tryz.f203)),(202,.code (cs Tryz.f202) 9 (cr Tryz.f202)),(198,.code sc198 19 rv198),(196,.code (cs Tryz.f196) 27 (cr Tryz.f196)),(195,.code (cs Tryz.f195) 6 (cr Tryz.f195)),(176,.code (cs Tryz.f176) 33 (cr Tryz.f176)),(174,.code (cs Tryz.f174) 8 (cr Tryz.f174)),(150,.code (cs Tryz.f150) 9 (cr Tryz.f150)),(149,.code (cs Tryz.f149) 13 (cr Tryz.f149)),(148,.code (cs Tryz.f148) 17 (cr Tryz.f148))]
theorem ta0_ok:TbOk Tryz.prog ta0 :=
 ⟨fd_codeC Tryz.func214 rfl rfl rfl (by kernel_rfl),
 ⟨fd_codeC Tryz.func215 rfl rfl rfl (by kernel_rfl),
 ⟨fd_codeC Tryz.func191 rfl rfl rfl (by kernel_rfl),
 ⟨fd_codeC Tryz.func203 rfl rfl rfl (by kernel_rfl),
 ⟨fd_codeC Tryz.func202 rfl rfl rfl (by kernel_rfl),
 ⟨fd_code Tryz.func198 rfl rfl rfl hc198 hr198,
 ⟨fd_codeC Tryz.func196 rfl rfl rfl (by kernel_rfl),
 ⟨fd_codeC Tryz.func195 rfl rfl rfl (by kernel_rfl),
 ⟨fd_codeC Tryz.func176 rfl rfl rfl (by kernel_rfl),
 ⟨fd_codeC Tryz.func174 rfl rfl rfl (by kernel_rfl),
 ⟨fd_codeC Tryz.func150 rfl rfl rfl (by kernel_rfl),
 ⟨fd_codeC Tryz.func149 rfl rfl rfl (by kernel_rfl),
 ⟨fd_codeC Tryz.func148 rfl rfl rfl (by kernel_rfl),
 trivial⟩⟩⟩⟩⟩⟩⟩⟩⟩⟩⟩⟩⟩
noncomputable def ta1:List (Nat × FDef):=[(192,.ext idxg),(175,.code (cs Tryz.f175) 8 (cr Tryz.f175)),(174,.ext (evX ta0 10000 60 174)),(176,.ext (evX ta0 10000 60 176)),(149,.ext (evX ta0 10000 60 149)),(148,.ext (evX ta0 10000 60 148)),(116,.code (cs Tryz.f116) 35 (cr Tryz.f116)),(152,.code (cs Tryz.f152) 19 (cr Tryz.f152)),(156,.code (cs Tryz.f156) 32 (cr Tryz.f156))]
theorem ta1_ok:TbOk Tryz.prog ta1 :=
 ⟨idx_ok,
 ⟨fd_codeC Tryz.func175 rfl rfl rfl (by kernel_rfl),
 ⟨fd_pure mixed ta0_ok rfl,
 ⟨fd_pure mixed ta0_ok rfl,
 ⟨fd_pure mixed ta0_ok rfl,
 ⟨fd_pure mixed ta0_ok rfl,
 ⟨fd_codeC Tryz.func116 rfl rfl rfl (by kernel_rfl),
 ⟨fd_codeC Tryz.func152 rfl rfl rfl (by kernel_rfl),
 ⟨fd_codeC Tryz.func156 rfl rfl rfl (by kernel_rfl),
 trivial⟩⟩⟩⟩⟩⟩⟩⟩⟩
noncomputable def ta:List (Nat × FDef):=[(216,.code (cs Tryz.f216) 7 (cr Tryz.f216)),(205,.code (cs Tryz.f205) 98 (cr Tryz.f205)),(202,.ext (evX ta0 10000 60 202)),(204,.code (cs Tryz.f204) 25 (cr Tryz.f204)),(203,.ext (evX ta0 10000 60 203)),(201,.code (cs Tryz.f201) 10 (cr Tryz.f201)),(200,.code (cs Tryz.f200) 7 (cr Tryz.f200)),(199,.code (cs Tryz.f199) 61 (cr Tryz.f199)),(198,.ext (evX ta0 10000 60 198)),(185,.code (cs Tryz.f185) 62 (cr Tryz.f185)),(184,.code (cs Tryz.f184) 11 (cr Tryz.f184)),(183,.code (cs Tryz.f183) 11 (cr Tryz.f183)),(182,.code (cs Tryz.f182) 32 (cr Tryz.f182)),(181,.code sc181 37 rv181),(39,.code sc39 5 rv39),(165,.code (cs Tryz.f165) 43 (cr Tryz.f165)),(164,.code (cs Tryz.f164) 36 (cr Tryz.f164)),(163,.code (cs Tryz.f163) 15 (cr Tryz.f163)),(162,.code (cs Tryz.f162) 13 (cr Tryz.f162)),(156,.ext (evX ta1 10000 60 156)),(152,.ext (evX ta1 10000 60 152)),(151,.code (cs Tryz.f151) 31 (cr Tryz.f151)),(150,.ext (evX ta0 10000 60 150)),(149,.ext (evX ta0 10000 60 149)),(148,.ext (evX ta0 10000 60 148)),(147,.code (cs Tryz.f147) 21 (cr Tryz.f147)),(61,.code sc61 14 rv61),(60,.code sc60 4 rv60),(131,.code (cs Tryz.f131) 42 (cr Tryz.f131)),(130,.code (cs Tryz.f130) 25 (cr Tryz.f130)),(129,.code (cs Tryz.f129) 56 (cr Tryz.f129)),(128,.code (cs Tryz.f128) 68 (cr Tryz.f128)),(127,.code (cs Tryz.f127) 57 (cr Tryz.f127)),(117,.code (cs Tryz.f117) 62 (cr Tryz.f117)),(116,.ext (evX ta1 10000 60 116)),(26,.code sc26 5 rv26),(27,.code (cs Tryz.f27) 1 (cr Tryz.f27)),(91,.code (cs Tryz.f91) 68 (cr Tryz.f91)),(88,.code (cs Tryz.f88) 41 (cr Tryz.f88))]
theorem ta_ok:TbOk Tryz.prog ta :=
 ⟨fd_codeC Tryz.func216 rfl rfl rfl (by kernel_rfl),
 ⟨fd_codeC Tryz.func205 rfl rfl rfl (by kernel_rfl),
 ⟨fd_pure mixed ta0_ok rfl,
 ⟨fd_codeC Tryz.func204 rfl rfl rfl (by kernel_rfl),
 ⟨fd_pure mixed ta0_ok rfl,
 ⟨fd_codeC Tryz.func201 rfl rfl rfl (by kernel_rfl),
 ⟨fd_codeC Tryz.func200 rfl rfl rfl (by kernel_rfl),
 ⟨fd_codeC Tryz.func199 rfl rfl rfl (by kernel_rfl),
 ⟨fd_pure mixed ta0_ok rfl,
 ⟨fd_codeC Tryz.func185 rfl rfl rfl (by kernel_rfl),
 ⟨fd_codeC Tryz.func184 rfl rfl rfl (by kernel_rfl),
 ⟨fd_codeC Tryz.func183 rfl rfl rfl (by kernel_rfl),
 ⟨fd_codeC Tryz.func182 rfl rfl rfl (by kernel_rfl),
 ⟨fd_code Tryz.func181 rfl rfl rfl hc181 hr181,
 ⟨fd_code Tryz.func39 rfl rfl rfl hc39 hr39,
 ⟨fd_codeC Tryz.func165 rfl rfl rfl (by kernel_rfl),
 ⟨fd_codeC Tryz.func164 rfl rfl rfl (by kernel_rfl),
 ⟨fd_codeC Tryz.func163 rfl rfl rfl (by kernel_rfl),
 ⟨fd_codeC Tryz.func162 rfl rfl rfl (by kernel_rfl),
 ⟨fd_pure mixed ta1_ok rfl,
 ⟨fd_pure mixed ta1_ok rfl,
 ⟨fd_codeC Tryz.func151 rfl rfl rfl (by kernel_rfl),
 ⟨fd_pure mixed ta0_ok rfl,
 ⟨fd_pure mixed ta0_ok rfl,
 ⟨fd_pure mixed ta0_ok rfl,
 ⟨fd_codeC Tryz.func147 rfl rfl rfl (by kernel_rfl),
 ⟨fd_code Tryz.func61 rfl rfl rfl hc61 hr61,
 ⟨fd_code Tryz.func60 rfl rfl rfl hc60 hr60,
 ⟨fd_codeC Tryz.func131 rfl rfl rfl (by kernel_rfl),
 ⟨fd_codeC Tryz.func130 rfl rfl rfl (by kernel_rfl),
 ⟨fd_codeC Tryz.func129 rfl rfl rfl (by kernel_rfl),
 ⟨fd_codeC Tryz.func128 rfl rfl rfl (by kernel_rfl),
 ⟨fd_codeC Tryz.func127 rfl rfl rfl (by kernel_rfl),
 ⟨fd_codeC Tryz.func117 rfl rfl rfl (by kernel_rfl),
 ⟨fd_pure mixed ta1_ok rfl,
 ⟨fd_code Tryz.func26 rfl rfl rfl hc26 hr26,
 ⟨fd_codeC Tryz.func27 rfl rfl rfl (by kernel_rfl),
 ⟨fd_codeC Tryz.func91 rfl rfl rfl (by kernel_rfl),
 ⟨fd_codeC Tryz.func88 rfl rfl rfl (by kernel_rfl),
 trivial⟩⟩⟩⟩⟩⟩⟩⟩⟩⟩⟩⟩⟩⟩⟩⟩⟩⟩⟩⟩⟩⟩⟩⟩⟩⟩⟩⟩⟩⟩⟩⟩⟩⟩⟩⟩⟩⟩⟩
end Go.Proofs.YtkimongfladmfaaGreatDoor
