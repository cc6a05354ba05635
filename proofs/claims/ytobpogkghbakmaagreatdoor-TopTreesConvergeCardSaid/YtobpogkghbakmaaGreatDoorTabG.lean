/-
 Tables, printed by a program.
-/
import Derived.KernelRfl
import Derived.Test.YtobpogkghbakmaaGreatDoorGRCode
import Derived.Test.YtobpogkghbakmaaGreatDoorEvX2
import Derived.Test.YtobpogkghbakmaaGreatDoorBMS
namespace Go.Proofs.YtobpogkghbakmaaGreatDoor
open Go.Eng
set_option maxRecDepth 100000
noncomputable def tg0:List (Nat×FDef):=[(172,.code (cs Tryz.f172) 25 (cr Tryz.f172)),(173,.code (cs Tryz.f173) 2 (cr Tryz.f173)),(149,.code (cs Tryz.f149) 18 (cr Tryz.f149)),(161,.code (cs Tryz.f161) 9 (cr Tryz.f161)),(160,.code (cs Tryz.f160) 9 (cr Tryz.f160)),(156,.code sc156 19 rv156),(154,.code (cs Tryz.f154) 27 (cr Tryz.f154)),(153,.code (cs Tryz.f153) 6 (cr Tryz.f153)),(121,.code (cs Tryz.f121) 33 (cr Tryz.f121)),(119,.code (cs Tryz.f119) 8 (cr Tryz.f119)),(77,.code (cs Tryz.f77) 9 (cr Tryz.f77)),(76,.code (cs Tryz.f76) 13 (cr Tryz.f76)),(75,.code (cs Tryz.f75) 17 (cr Tryz.f75))]
theorem tg0_ok:TbOk Tryz.prog tg0 :=
 ⟨fd_codeC Tryz.func172 rfl rfl rfl (by kernel_rfl),
 ⟨fd_codeC Tryz.func173 rfl rfl rfl (by kernel_rfl),
 ⟨fd_codeC Tryz.func149 rfl rfl rfl (by kernel_rfl),
 ⟨fd_codeC Tryz.func161 rfl rfl rfl (by kernel_rfl),
 ⟨fd_codeC Tryz.func160 rfl rfl rfl (by kernel_rfl),
 ⟨fd_code Tryz.func156 rfl rfl rfl hc156 hr156,
 ⟨fd_codeC Tryz.func154 rfl rfl rfl (by kernel_rfl),
 ⟨fd_codeC Tryz.func153 rfl rfl rfl (by kernel_rfl),
 ⟨fd_codeC Tryz.func121 rfl rfl rfl (by kernel_rfl),
 ⟨fd_codeC Tryz.func119 rfl rfl rfl (by kernel_rfl),
 ⟨fd_codeC Tryz.func77 rfl rfl rfl (by kernel_rfl),
 ⟨fd_codeC Tryz.func76 rfl rfl rfl (by kernel_rfl),
 ⟨fd_codeC Tryz.func75 rfl rfl rfl (by kernel_rfl),
 trivial⟩⟩⟩⟩⟩⟩⟩⟩⟩⟩⟩⟩⟩
noncomputable def tg1:List (Nat×FDef):=[(150,.ext idxg),(121,.ext (evX tg0 10000 60 121)),(76,.ext (evX tg0 10000 60 76)),(75,.ext (evX tg0 10000 60 75)),(120,.code (cs Tryz.f120) 8 (cr Tryz.f120)),(119,.ext (evX tg0 10000 60 119)),(36,.code (cs Tryz.f36) 35 (cr Tryz.f36)),(83,.code (cs Tryz.f83) 32 (cr Tryz.f83)),(79,.code (cs Tryz.f79) 19 (cr Tryz.f79))]
theorem tg1_ok:TbOk Tryz.prog tg1 :=
 ⟨idx_ok,
 ⟨fd_pure mixed tg0_ok rfl,
 ⟨fd_pure mixed tg0_ok rfl,
 ⟨fd_pure mixed tg0_ok rfl,
 ⟨fd_codeC Tryz.func120 rfl rfl rfl (by kernel_rfl),
 ⟨fd_pure mixed tg0_ok rfl,
 ⟨fd_codeC Tryz.func36 rfl rfl rfl (by kernel_rfl),
 ⟨fd_codeC Tryz.func83 rfl rfl rfl (by kernel_rfl),
 ⟨fd_codeC Tryz.func79 rfl rfl rfl (by kernel_rfl),
 trivial⟩⟩⟩⟩⟩⟩⟩⟩⟩
noncomputable def tg:List (Nat×FDef):=[(196,.code (cs Tryz.f196) 2 (cr Tryz.f196)),(190,.code (cs Tryz.f190) 2 (cr Tryz.f190)),(172,.code (cs Tryz.f172) 25 (cr Tryz.f172)),(189,.code (cs Tryz.f189) 2 (cr Tryz.f189)),(188,.code (cs Tryz.f188) 6 (cr Tryz.f188)),(181,.code (cs Tryz.f181) 6 (cr Tryz.f181)),(180,.code (cs Tryz.f180) 6 (cr Tryz.f180)),(179,.code (cs Tryz.f179) 20 (cr Tryz.f179)),(171,.code (cs Tryz.f171) 55 (cr Tryz.f171)),(155,.code (cs Tryz.f155) 9 (cr Tryz.f155)),(154,.ext (evX tg0 10000 60 154)),(153,.ext (evX tg0 10000 60 153)),(152,.code (cs Tryz.f152) 19 (cr Tryz.f152)),(151,.code (cs Tryz.f151) 35 (cr Tryz.f151)),(125,.code (cs Tryz.f125) 19 (cr Tryz.f125)),(124,.code (cs Tryz.f124) 21 (cr Tryz.f124)),(123,.code (cs Tryz.f123) 40 (cr Tryz.f123)),(122,.code (cs Tryz.f122) 9 (cr Tryz.f122)),(88,.code (cs Tryz.f88) 30 (cr Tryz.f88)),(87,.code (cs Tryz.f87) 21 (cr Tryz.f87)),(86,.code (cs Tryz.f86) 64 (cr Tryz.f86)),(85,.code (cs Tryz.f85) 42 (cr Tryz.f85)),(84,.code (cs Tryz.f84) 27 (cr Tryz.f84)),(83,.ext (evX tg1 10000 60 83)),(82,.code (cs Tryz.f82) 16 (cr Tryz.f82)),(81,.code (cs Tryz.f81) 28 (cr Tryz.f81)),(80,.code (cs Tryz.f80) 11 (cr Tryz.f80)),(46,.code (cs Tryz.f46) 27 (cr Tryz.f46)),(45,.code (cs Tryz.f45) 9 (cr Tryz.f45)),(44,.code (cs Tryz.f44) 76 (cr Tryz.f44)),(42,.code (cs Tryz.f42) 30 (cr Tryz.f42)),(43,.code (cs Tryz.f43) 66 (cr Tryz.f43)),(41,.code (cs Tryz.f41) 45 (cr Tryz.f41)),(40,.code (cs Tryz.f40) 10 (cr Tryz.f40)),(22,.ext checkTG),(20,.catch_),(21,.code (cs Tryz.f21) 33 (cr Tryz.f21)),(19,.ext scanTG),(8,.code (cs Tryz.f8) 57 (cr Tryz.f8))]
theorem tg_ok:TbOk Tryz.prog tg :=
 ⟨fd_codeC Tryz.func196 rfl rfl rfl (by kernel_rfl),
 ⟨fd_codeC Tryz.func190 rfl rfl rfl (by kernel_rfl),
 ⟨fd_codeC Tryz.func172 rfl rfl rfl (by kernel_rfl),
 ⟨fd_codeC Tryz.func189 rfl rfl rfl (by kernel_rfl),
 ⟨fd_codeC Tryz.func188 rfl rfl rfl (by kernel_rfl),
 ⟨fd_codeC Tryz.func181 rfl rfl rfl (by kernel_rfl),
 ⟨fd_codeC Tryz.func180 rfl rfl rfl (by kernel_rfl),
 ⟨fd_codeC Tryz.func179 rfl rfl rfl (by kernel_rfl),
 ⟨fd_codeC Tryz.func171 rfl rfl rfl (by kernel_rfl),
 ⟨fd_codeC Tryz.func155 rfl rfl rfl (by kernel_rfl),
 ⟨fd_pure mixed tg0_ok rfl,
 ⟨fd_pure mixed tg0_ok rfl,
 ⟨fd_codeC Tryz.func152 rfl rfl rfl (by kernel_rfl),
 ⟨fd_codeC Tryz.func151 rfl rfl rfl (by kernel_rfl),
 ⟨fd_codeC Tryz.func125 rfl rfl rfl (by kernel_rfl),
 ⟨fd_codeC Tryz.func124 rfl rfl rfl (by kernel_rfl),
 ⟨fd_codeC Tryz.func123 rfl rfl rfl (by kernel_rfl),
 ⟨fd_codeC Tryz.func122 rfl rfl rfl (by kernel_rfl),
 ⟨fd_codeC Tryz.func88 rfl rfl rfl (by kernel_rfl),
 ⟨fd_codeC Tryz.func87 rfl rfl rfl (by kernel_rfl),
 ⟨fd_codeC Tryz.func86 rfl rfl rfl (by kernel_rfl),
 ⟨fd_codeC Tryz.func85 rfl rfl rfl (by kernel_rfl),
 ⟨fd_codeC Tryz.func84 rfl rfl rfl (by kernel_rfl),
 ⟨fd_pure mixed tg1_ok rfl,
 ⟨fd_codeC Tryz.func82 rfl rfl rfl (by kernel_rfl),
 ⟨fd_codeC Tryz.func81 rfl rfl rfl (by kernel_rfl),
 ⟨fd_codeC Tryz.func80 rfl rfl rfl (by kernel_rfl),
 ⟨fd_codeC Tryz.func46 rfl rfl rfl (by kernel_rfl),
 ⟨fd_codeC Tryz.func45 rfl rfl rfl (by kernel_rfl),
 ⟨fd_codeC Tryz.func44 rfl rfl rfl (by kernel_rfl),
 ⟨fd_codeC Tryz.func42 rfl rfl rfl (by kernel_rfl),
 ⟨fd_codeC Tryz.func43 rfl rfl rfl (by kernel_rfl),
 ⟨fd_codeC Tryz.func41 rfl rfl rfl (by kernel_rfl),
 ⟨fd_codeC Tryz.func40 rfl rfl rfl (by kernel_rfl),
 ⟨checkT_ext,
 ⟨catch_ok,
 ⟨fd_codeC Tryz.func21 rfl rfl rfl (by kernel_rfl),
 ⟨scanT_ext,
 ⟨fd_codeC Tryz.func8 rfl rfl rfl (by kernel_rfl),
 trivial⟩⟩⟩⟩⟩⟩⟩⟩⟩⟩⟩⟩⟩⟩⟩⟩⟩⟩⟩⟩⟩⟩⟩⟩⟩⟩⟩⟩⟩⟩⟩⟩⟩⟩⟩⟩⟩⟩⟩
end Go.Proofs.YtobpogkghbakmaaGreatDoor
