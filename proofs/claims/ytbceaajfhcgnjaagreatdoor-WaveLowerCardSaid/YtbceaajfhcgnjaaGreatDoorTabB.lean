/-
 Tables, printed by a program.
-/
import Derived.KernelRfl
import Derived.Test.YtbceaajfhcgnjaaGreatDoorGRCode
import Derived.Test.YtbceaajfhcgnjaaGreatDoorEvG
import Derived.Test.YtbceaajfhcgnjaaGreatDoorTWC
namespace Go.Proofs.YtbceaajfhcgnjaaGreatDoor
open Go.Eng
set_option maxRecDepth 100000
noncomputable def tp:List (Nat×FDef):=[(216,.code (cs Tryz.f216) 2 (cr Tryz.f216)),(214,.code (cs Tryz.f214) 2 (cr Tryz.f214)),(200,.code (cs Tryz.f200) 25 (cr Tryz.f200)),(213,.code (cs Tryz.f213) 2 (cr Tryz.f213)),(212,.code (cs Tryz.f212) 6 (cr Tryz.f212)),(210,.code (cs Tryz.f210) 6 (cr Tryz.f210)),(209,.code (cs Tryz.f209) 6 (cr Tryz.f209)),(208,.code (cs Tryz.f208) 20 (cr Tryz.f208)),(199,.code (cs Tryz.f199) 55 (cr Tryz.f199)),(188,.code (cs Tryz.f188) 9 (cr Tryz.f188)),(187,.ext (evX ta0 10000 60 187)),(186,.ext (evX ta0 10000 60 186)),(185,.code (cs Tryz.f185) 19 (cr Tryz.f185)),(184,.code (cs Tryz.f184) 35 (cr Tryz.f184)),(171,.code (cs Tryz.f171) 19 (cr Tryz.f171)),(170,.code (cs Tryz.f170) 21 (cr Tryz.f170)),(169,.code (cs Tryz.f169) 40 (cr Tryz.f169)),(168,.code (cs Tryz.f168) 9 (cr Tryz.f168)),(150,.code (cs Tryz.f150) 30 (cr Tryz.f150)),(149,.code (cs Tryz.f149) 21 (cr Tryz.f149)),(148,.code (cs Tryz.f148) 64 (cr Tryz.f148)),(147,.code (cs Tryz.f147) 42 (cr Tryz.f147)),(146,.code (cs Tryz.f146) 27 (cr Tryz.f146)),(145,.ext (evX ta1 10000 60 145)),(144,.code (cs Tryz.f144) 16 (cr Tryz.f144)),(143,.code (cs Tryz.f143) 28 (cr Tryz.f143)),(142,.code (cs Tryz.f142) 11 (cr Tryz.f142)),(109,.code (cs Tryz.f109) 27 (cr Tryz.f109)),(108,.code (cs Tryz.f108) 9 (cr Tryz.f108)),(107,.code (cs Tryz.f107) 76 (cr Tryz.f107)),(105,.code (cs Tryz.f105) 30 (cr Tryz.f105)),(106,.code (cs Tryz.f106) 66 (cr Tryz.f106)),(104,.code (cs Tryz.f104) 45 (cr Tryz.f104)),(103,.code (cs Tryz.f103) 10 (cr Tryz.f103)),(71,.ext checkG),(69,.catch_),(70,.code (cs Tryz.f70) 33 (cr Tryz.f70)),(68,.ext scanG),(33,.code (cs Tryz.f33) 57 (cr Tryz.f33))]
theorem tp_ok:TbOk Tryz.prog tp :=
 ⟨fd_codeC Tryz.func216 rfl rfl rfl (by kernel_rfl),
 ⟨fd_codeC Tryz.func214 rfl rfl rfl (by kernel_rfl),
 ⟨fd_codeC Tryz.func200 rfl rfl rfl (by kernel_rfl),
 ⟨fd_codeC Tryz.func213 rfl rfl rfl (by kernel_rfl),
 ⟨fd_codeC Tryz.func212 rfl rfl rfl (by kernel_rfl),
 ⟨fd_codeC Tryz.func210 rfl rfl rfl (by kernel_rfl),
 ⟨fd_codeC Tryz.func209 rfl rfl rfl (by kernel_rfl),
 ⟨fd_codeC Tryz.func208 rfl rfl rfl (by kernel_rfl),
 ⟨fd_codeC Tryz.func199 rfl rfl rfl (by kernel_rfl),
 ⟨fd_codeC Tryz.func188 rfl rfl rfl (by kernel_rfl),
 ⟨fd_pure mixed ta0_ok rfl,
 ⟨fd_pure mixed ta0_ok rfl,
 ⟨fd_codeC Tryz.func185 rfl rfl rfl (by kernel_rfl),
 ⟨fd_codeC Tryz.func184 rfl rfl rfl (by kernel_rfl),
 ⟨fd_codeC Tryz.func171 rfl rfl rfl (by kernel_rfl),
 ⟨fd_codeC Tryz.func170 rfl rfl rfl (by kernel_rfl),
 ⟨fd_codeC Tryz.func169 rfl rfl rfl (by kernel_rfl),
 ⟨fd_codeC Tryz.func168 rfl rfl rfl (by kernel_rfl),
 ⟨fd_codeC Tryz.func150 rfl rfl rfl (by kernel_rfl),
 ⟨fd_codeC Tryz.func149 rfl rfl rfl (by kernel_rfl),
 ⟨fd_codeC Tryz.func148 rfl rfl rfl (by kernel_rfl),
 ⟨fd_codeC Tryz.func147 rfl rfl rfl (by kernel_rfl),
 ⟨fd_codeC Tryz.func146 rfl rfl rfl (by kernel_rfl),
 ⟨fd_pure mixed ta1_ok rfl,
 ⟨fd_codeC Tryz.func144 rfl rfl rfl (by kernel_rfl),
 ⟨fd_codeC Tryz.func143 rfl rfl rfl (by kernel_rfl),
 ⟨fd_codeC Tryz.func142 rfl rfl rfl (by kernel_rfl),
 ⟨fd_codeC Tryz.func109 rfl rfl rfl (by kernel_rfl),
 ⟨fd_codeC Tryz.func108 rfl rfl rfl (by kernel_rfl),
 ⟨fd_codeC Tryz.func107 rfl rfl rfl (by kernel_rfl),
 ⟨fd_codeC Tryz.func105 rfl rfl rfl (by kernel_rfl),
 ⟨fd_codeC Tryz.func106 rfl rfl rfl (by kernel_rfl),
 ⟨fd_codeC Tryz.func104 rfl rfl rfl (by kernel_rfl),
 ⟨fd_codeC Tryz.func103 rfl rfl rfl (by kernel_rfl),
 ⟨check_ext,
 ⟨catch_ok,
 ⟨fd_codeC Tryz.func70 rfl rfl rfl (by kernel_rfl),
 ⟨scan_ext,
 ⟨fd_codeC Tryz.func33 rfl rfl rfl (by kernel_rfl),
 trivial⟩⟩⟩⟩⟩⟩⟩⟩⟩⟩⟩⟩⟩⟩⟩⟩⟩⟩⟩⟩⟩⟩⟩⟩⟩⟩⟩⟩⟩⟩⟩⟩⟩⟩⟩⟩⟩⟩⟩
end Go.Proofs.YtbceaajfhcgnjaaGreatDoor
