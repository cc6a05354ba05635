/-
 Tables, printed by a program.
-/
import Derived.KernelRfl
import Derived.Test.YtpoplpohbpfbmaaGreatDoorGRCode
import Derived.Test.YtpoplpohbpfbmaaGreatDoorEvG
import Derived.Test.YtpoplpohbpfbmaaGreatDoorTWC
namespace Go.Proofs.YtpoplpohbpfbmaaGreatDoor
open Go.Eng
set_option maxRecDepth 100000
noncomputable def tp:List (Nat×FDef):=[(198,.code (cs Tryz.f198) 2 (cr Tryz.f198)),(196,.code (cs Tryz.f196) 2 (cr Tryz.f196)),(177,.code (cs Tryz.f177) 25 (cr Tryz.f177)),(195,.code (cs Tryz.f195) 2 (cr Tryz.f195)),(194,.code (cs Tryz.f194) 6 (cr Tryz.f194)),(188,.code (cs Tryz.f188) 6 (cr Tryz.f188)),(187,.code (cs Tryz.f187) 6 (cr Tryz.f187)),(186,.code (cs Tryz.f186) 20 (cr Tryz.f186)),(176,.code (cs Tryz.f176) 55 (cr Tryz.f176)),(162,.code (cs Tryz.f162) 9 (cr Tryz.f162)),(161,.ext (evX ta0 10000 60 161)),(160,.ext (evX ta0 10000 60 160)),(159,.code (cs Tryz.f159) 19 (cr Tryz.f159)),(158,.code (cs Tryz.f158) 35 (cr Tryz.f158)),(149,.code (cs Tryz.f149) 19 (cr Tryz.f149)),(148,.code (cs Tryz.f148) 21 (cr Tryz.f148)),(147,.code (cs Tryz.f147) 40 (cr Tryz.f147)),(146,.code (cs Tryz.f146) 9 (cr Tryz.f146)),(129,.code (cs Tryz.f129) 30 (cr Tryz.f129)),(128,.code (cs Tryz.f128) 21 (cr Tryz.f128)),(127,.code (cs Tryz.f127) 64 (cr Tryz.f127)),(126,.code (cs Tryz.f126) 42 (cr Tryz.f126)),(125,.code (cs Tryz.f125) 27 (cr Tryz.f125)),(124,.ext (evX ta1 10000 60 124)),(123,.code (cs Tryz.f123) 16 (cr Tryz.f123)),(122,.code (cs Tryz.f122) 28 (cr Tryz.f122)),(121,.code (cs Tryz.f121) 11 (cr Tryz.f121)),(87,.code (cs Tryz.f87) 27 (cr Tryz.f87)),(86,.code (cs Tryz.f86) 9 (cr Tryz.f86)),(85,.code (cs Tryz.f85) 76 (cr Tryz.f85)),(83,.code (cs Tryz.f83) 30 (cr Tryz.f83)),(84,.code (cs Tryz.f84) 66 (cr Tryz.f84)),(82,.code (cs Tryz.f82) 45 (cr Tryz.f82)),(81,.code (cs Tryz.f81) 10 (cr Tryz.f81)),(53,.ext checkG),(51,.catch_),(52,.code (cs Tryz.f52) 33 (cr Tryz.f52)),(50,.ext scanG),(25,.code (cs Tryz.f25) 57 (cr Tryz.f25))]
theorem tp_ok:TbOk Tryz.prog tp :=
 ⟨fd_codeC Tryz.func198 rfl rfl rfl (by kernel_rfl),
 ⟨fd_codeC Tryz.func196 rfl rfl rfl (by kernel_rfl),
 ⟨fd_codeC Tryz.func177 rfl rfl rfl (by kernel_rfl),
 ⟨fd_codeC Tryz.func195 rfl rfl rfl (by kernel_rfl),
 ⟨fd_codeC Tryz.func194 rfl rfl rfl (by kernel_rfl),
 ⟨fd_codeC Tryz.func188 rfl rfl rfl (by kernel_rfl),
 ⟨fd_codeC Tryz.func187 rfl rfl rfl (by kernel_rfl),
 ⟨fd_codeC Tryz.func186 rfl rfl rfl (by kernel_rfl),
 ⟨fd_codeC Tryz.func176 rfl rfl rfl (by kernel_rfl),
 ⟨fd_codeC Tryz.func162 rfl rfl rfl (by kernel_rfl),
 ⟨fd_pure mixed ta0_ok rfl,
 ⟨fd_pure mixed ta0_ok rfl,
 ⟨fd_codeC Tryz.func159 rfl rfl rfl (by kernel_rfl),
 ⟨fd_codeC Tryz.func158 rfl rfl rfl (by kernel_rfl),
 ⟨fd_codeC Tryz.func149 rfl rfl rfl (by kernel_rfl),
 ⟨fd_codeC Tryz.func148 rfl rfl rfl (by kernel_rfl),
 ⟨fd_codeC Tryz.func147 rfl rfl rfl (by kernel_rfl),
 ⟨fd_codeC Tryz.func146 rfl rfl rfl (by kernel_rfl),
 ⟨fd_codeC Tryz.func129 rfl rfl rfl (by kernel_rfl),
 ⟨fd_codeC Tryz.func128 rfl rfl rfl (by kernel_rfl),
 ⟨fd_codeC Tryz.func127 rfl rfl rfl (by kernel_rfl),
 ⟨fd_codeC Tryz.func126 rfl rfl rfl (by kernel_rfl),
 ⟨fd_codeC Tryz.func125 rfl rfl rfl (by kernel_rfl),
 ⟨fd_pure mixed ta1_ok rfl,
 ⟨fd_codeC Tryz.func123 rfl rfl rfl (by kernel_rfl),
 ⟨fd_codeC Tryz.func122 rfl rfl rfl (by kernel_rfl),
 ⟨fd_codeC Tryz.func121 rfl rfl rfl (by kernel_rfl),
 ⟨fd_codeC Tryz.func87 rfl rfl rfl (by kernel_rfl),
 ⟨fd_codeC Tryz.func86 rfl rfl rfl (by kernel_rfl),
 ⟨fd_codeC Tryz.func85 rfl rfl rfl (by kernel_rfl),
 ⟨fd_codeC Tryz.func83 rfl rfl rfl (by kernel_rfl),
 ⟨fd_codeC Tryz.func84 rfl rfl rfl (by kernel_rfl),
 ⟨fd_codeC Tryz.func82 rfl rfl rfl (by kernel_rfl),
 ⟨fd_codeC Tryz.func81 rfl rfl rfl (by kernel_rfl),
 ⟨check_ext,
 ⟨catch_ok,
 ⟨fd_codeC Tryz.func52 rfl rfl rfl (by kernel_rfl),
 ⟨scan_ext,
 ⟨fd_codeC Tryz.func25 rfl rfl rfl (by kernel_rfl),
 trivial⟩⟩⟩⟩⟩⟩⟩⟩⟩⟩⟩⟩⟩⟩⟩⟩⟩⟩⟩⟩⟩⟩⟩⟩⟩⟩⟩⟩⟩⟩⟩⟩⟩⟩⟩⟩⟩⟩⟩
end Go.Proofs.YtpoplpohbpfbmaaGreatDoor
