/-
 The tables of functions that the evaluator runs, printed by a program (wip/tools/evtab.py).
-/
import Derived.KernelRfl
import Derived.Test.YtkimongfladmfaaGreatDoorGRCode
import Derived.Test.YtkimongfladmfaaGreatDoorEvG
import Derived.Test.YtkimongfladmfaaGreatDoorTKS
namespace Go.Proofs.YtkimongfladmfaaGreatDoor
open Go.Eng
set_option maxRecDepth 100000
noncomputable def tc0:List (Nat × FDef):=[(203,.code (cs Tryz.f203) 9 (cr Tryz.f203)),(202,.code (cs Tryz.f202) 9 (cr Tryz.f202)),(198,.code sc198 19 rv198),(176,.code (cs Tryz.f176) 33 (cr Tryz.f176)),(150,.code (cs Tryz.f150) 9 (cr Tryz.f150)),(149,.code (cs Tryz.f149) 13 (cr Tryz.f149)),(148,.code (cs Tryz.f148) 17 (cr Tryz.f148))]
theorem tc0_ok:TbOk Tryz.prog tc0 :=
 ⟨fd_codeC Tryz.func203 rfl rfl rfl (by kernel_rfl),
 ⟨fd_codeC Tryz.func202 rfl rfl rfl (by kernel_rfl),
 ⟨fd_code Tryz.func198 rfl rfl rfl hc198 hr198,
 ⟨fd_codeC Tryz.func176 rfl rfl rfl (by kernel_rfl),
 ⟨fd_codeC Tryz.func150 rfl rfl rfl (by kernel_rfl),
 ⟨fd_codeC Tryz.func149 rfl rfl rfl (by kernel_rfl),
 ⟨fd_codeC Tryz.func148 rfl rfl rfl (by kernel_rfl),
 trivial⟩⟩⟩⟩⟩⟩⟩
noncomputable def tc1:List (Nat × FDef):=[(202,.ext (evX tc0 10000 60 202)),(201,.code (cs Tryz.f201) 10 (cr Tryz.f201)),(200,.code (cs Tryz.f200) 7 (cr Tryz.f200)),(199,.code (cs Tryz.f199) 61 (cr Tryz.f199)),(198,.ext (evX tc0 10000 60 198)),(184,.code (cs Tryz.f184) 11 (cr Tryz.f184)),(183,.code (cs Tryz.f183) 11 (cr Tryz.f183)),(182,.code (cs Tryz.f182) 32 (cr Tryz.f182)),(181,.code sc181 37 rv181),(176,.ext (evX tc0 10000 60 176)),(149,.ext (evX tc0 10000 60 149)),(148,.ext (evX tc0 10000 60 148)),(164,.code (cs Tryz.f164) 36 (cr Tryz.f164)),(156,.code (cs Tryz.f156) 32 (cr Tryz.f156))]
theorem tc1_ok:TbOk Tryz.prog tc1 :=
 ⟨fd_pure mixed tc0_ok rfl,
 ⟨fd_codeC Tryz.func201 rfl rfl rfl (by kernel_rfl),
 ⟨fd_codeC Tryz.func200 rfl rfl rfl (by kernel_rfl),
 ⟨fd_codeC Tryz.func199 rfl rfl rfl (by kernel_rfl),
 ⟨fd_pure mixed tc0_ok rfl,
 ⟨fd_codeC Tryz.func184 rfl rfl rfl (by kernel_rfl),
 ⟨fd_codeC Tryz.func183 rfl rfl rfl (by kernel_rfl),
 ⟨fd_codeC Tryz.func182 rfl rfl rfl (by kernel_rfl),
 ⟨fd_code Tryz.func181 rfl rfl rfl hc181 hr181,
 ⟨fd_pure mixed tc0_ok rfl,
 ⟨fd_pure mixed tc0_ok rfl,
 ⟨fd_pure mixed tc0_ok rfl,
 ⟨fd_codeC Tryz.func164 rfl rfl rfl (by kernel_rfl),
 ⟨fd_codeC Tryz.func156 rfl rfl rfl (by kernel_rfl),
 trivial⟩⟩⟩⟩⟩⟩⟩⟩⟩⟩⟩⟩⟩⟩
noncomputable def tc2:List (Nat × FDef):=[(216,.code (cs Tryz.f216) 7 (cr Tryz.f216)),(205,.code (cs Tryz.f205) 98 (cr Tryz.f205)),(202,.ext (evX tc0 10000 60 202)),(204,.code (cs Tryz.f204) 25 (cr Tryz.f204)),(203,.ext (evX tc0 10000 60 203)),(198,.ext (evX tc0 10000 60 198)),(185,.code (cs Tryz.f185) 62 (cr Tryz.f185)),(164,.ext (evX tc1 10000 60 164)),(162,.code (cs Tryz.f162) 13 (cr Tryz.f162)),(165,.code (cs Tryz.f165) 43 (cr Tryz.f165))]
theorem tc2_ok:TbOk Tryz.prog tc2 :=
 ⟨fd_codeC Tryz.func216 rfl rfl rfl (by kernel_rfl),
 ⟨fd_codeC Tryz.func205 rfl rfl rfl (by kernel_rfl),
 ⟨fd_pure mixed tc0_ok rfl,
 ⟨fd_codeC Tryz.func204 rfl rfl rfl (by kernel_rfl),
 ⟨fd_pure mixed tc0_ok rfl,
 ⟨fd_pure mixed tc0_ok rfl,
 ⟨fd_codeC Tryz.func185 rfl rfl rfl (by kernel_rfl),
 ⟨fd_pure mixed tc1_ok rfl,
 ⟨fd_codeC Tryz.func162 rfl rfl rfl (by kernel_rfl),
 ⟨fd_codeC Tryz.func165 rfl rfl rfl (by kernel_rfl),
 trivial⟩⟩⟩⟩⟩⟩⟩⟩⟩⟩
noncomputable def tc:List (Nat × FDef):=[(165,.ext (evX tc2 10000 60 165)),(164,.ext (evX tc1 10000 60 164)),(163,.code (cs Tryz.f163) 15 (cr Tryz.f163)),(162,.code (cs Tryz.f162) 13 (cr Tryz.f162)),(156,.ext (evX tc1 10000 60 156)),(131,.code (cs Tryz.f131) 42 (cr Tryz.f131)),(130,.code (cs Tryz.f130) 25 (cr Tryz.f130)),(129,.code (cs Tryz.f129) 56 (cr Tryz.f129)),(128,.code (cs Tryz.f128) 68 (cr Tryz.f128)),(127,.code (cs Tryz.f127) 57 (cr Tryz.f127)),(91,.code (cs Tryz.f91) 68 (cr Tryz.f91))]
theorem tc_ok:TbOk Tryz.prog tc :=
 ⟨fd_pure mixed tc2_ok rfl,
 ⟨fd_pure mixed tc1_ok rfl,
 ⟨fd_codeC Tryz.func163 rfl rfl rfl (by kernel_rfl),
 ⟨fd_codeC Tryz.func162 rfl rfl rfl (by kernel_rfl),
 ⟨fd_pure mixed tc1_ok rfl,
 ⟨fd_codeC Tryz.func131 rfl rfl rfl (by kernel_rfl),
 ⟨fd_codeC Tryz.func130 rfl rfl rfl (by kernel_rfl),
 ⟨fd_codeC Tryz.func129 rfl rfl rfl (by kernel_rfl),
 ⟨fd_codeC Tryz.func128 rfl rfl rfl (by kernel_rfl),
 ⟨fd_codeC Tryz.func127 rfl rfl rfl (by kernel_rfl),
 ⟨fd_codeC Tryz.func91 rfl rfl rfl (by kernel_rfl),
 trivial⟩⟩⟩⟩⟩⟩⟩⟩⟩⟩⟩
end Go.Proofs.YtkimongfladmfaaGreatDoor
