/-
 The tables of functions that the evaluator runs, printed by a program (wip/tools/evtab.py).
-/
import Derived.KernelRfl
import Derived.Test.YtmifmchinfhbnaaGreatDoorGRCode
import Derived.Test.YtmifmchinfhbnaaGreatDoorEvG
import Derived.Test.YtmifmchinfhbnaaGreatDoorXC
namespace Go.Proofs.YtmifmchinfhbnaaGreatDoor
open Go.Eng
set_option maxRecDepth 100000
noncomputable def tp:List (Nat×J71):=[(218,.code (cs Tryz.f218) 2 (cr Tryz.f218)),(216,.code (cs Tryz.f216) 2 (cr Tryz.f216)),(201,.code (cs Tryz.f201) 25 (cr Tryz.f201)),(215,.code (cs Tryz.f215) 2 (cr Tryz.f215)),(214,.code (cs Tryz.f214) 6 (cr Tryz.f214)),(212,.code (cs Tryz.f212) 6 (cr Tryz.f212)),(211,.code (cs Tryz.f211) 6 (cr Tryz.f211)),(210,.code (cs Tryz.f210) 20 (cr Tryz.f210)),(200,.code (cs Tryz.f200) 55 (cr Tryz.f200)),(178,.code (cs Tryz.f178) 9 (cr Tryz.f178)),(177,.ext (evX ta0 10000 60 177)),(176,.ext (evX ta0 10000 60 176)),(175,.code (cs Tryz.f175) 19 (cr Tryz.f175)),(174,.code (cs Tryz.f174) 35 (cr Tryz.f174)),(152,.code (cs Tryz.f152) 19 (cr Tryz.f152)),(151,.code (cs Tryz.f151) 21 (cr Tryz.f151)),(150,.code (cs Tryz.f150) 40 (cr Tryz.f150)),(149,.code (cs Tryz.f149) 9 (cr Tryz.f149)),(134,.code (cs Tryz.f134) 30 (cr Tryz.f134)),(133,.code (cs Tryz.f133) 21 (cr Tryz.f133)),(132,.code (cs Tryz.f132) 64 (cr Tryz.f132)),(131,.code (cs Tryz.f131) 42 (cr Tryz.f131)),(130,.code (cs Tryz.f130) 27 (cr Tryz.f130)),(129,.ext (evX ta1 10000 60 129)),(128,.code (cs Tryz.f128) 16 (cr Tryz.f128)),(127,.code (cs Tryz.f127) 28 (cr Tryz.f127)),(126,.code (cs Tryz.f126) 11 (cr Tryz.f126)),(93,.code (cs Tryz.f93) 27 (cr Tryz.f93)),(92,.code (cs Tryz.f92) 9 (cr Tryz.f92)),(91,.code (cs Tryz.f91) 76 (cr Tryz.f91)),(89,.code (cs Tryz.f89) 30 (cr Tryz.f89)),(90,.code (cs Tryz.f90) 66 (cr Tryz.f90)),(88,.code (cs Tryz.f88) 45 (cr Tryz.f88)),(87,.code (cs Tryz.f87) 10 (cr Tryz.f87)),(56,.ext X27),(54,.catch_),(55,.code (cs Tryz.f55) 33 (cr Tryz.f55)),(53,.ext X6M),(20,.code (cs Tryz.f20) 57 (cr Tryz.f20))]
theorem X8T:Q1W Tryz.prog tp :=
 ⟨J0e Tryz.func218 rfl rfl rfl (by kernel_rfl),
 ⟨J0e Tryz.func216 rfl rfl rfl (by kernel_rfl),
 ⟨J0e Tryz.func201 rfl rfl rfl (by kernel_rfl),
 ⟨J0e Tryz.func215 rfl rfl rfl (by kernel_rfl),
 ⟨J0e Tryz.func214 rfl rfl rfl (by kernel_rfl),
 ⟨J0e Tryz.func212 rfl rfl rfl (by kernel_rfl),
 ⟨J0e Tryz.func211 rfl rfl rfl (by kernel_rfl),
 ⟨J0e Tryz.func210 rfl rfl rfl (by kernel_rfl),
 ⟨J0e Tryz.func200 rfl rfl rfl (by kernel_rfl),
 ⟨J0e Tryz.func178 rfl rfl rfl (by kernel_rfl),
 ⟨J0N J0b J3A rfl,
 ⟨J0N J0b J3A rfl,
 ⟨J0e Tryz.func175 rfl rfl rfl (by kernel_rfl),
 ⟨J0e Tryz.func174 rfl rfl rfl (by kernel_rfl),
 ⟨J0e Tryz.func152 rfl rfl rfl (by kernel_rfl),
 ⟨J0e Tryz.func151 rfl rfl rfl (by kernel_rfl),
 ⟨J0e Tryz.func150 rfl rfl rfl (by kernel_rfl),
 ⟨J0e Tryz.func149 rfl rfl rfl (by kernel_rfl),
 ⟨J0e Tryz.func134 rfl rfl rfl (by kernel_rfl),
 ⟨J0e Tryz.func133 rfl rfl rfl (by kernel_rfl),
 ⟨J0e Tryz.func132 rfl rfl rfl (by kernel_rfl),
 ⟨J0e Tryz.func131 rfl rfl rfl (by kernel_rfl),
 ⟨J0e Tryz.func130 rfl rfl rfl (by kernel_rfl),
 ⟨J0N J0b Q0s rfl,
 ⟨J0e Tryz.func128 rfl rfl rfl (by kernel_rfl),
 ⟨J0e Tryz.func127 rfl rfl rfl (by kernel_rfl),
 ⟨J0e Tryz.func126 rfl rfl rfl (by kernel_rfl),
 ⟨J0e Tryz.func93 rfl rfl rfl (by kernel_rfl),
 ⟨J0e Tryz.func92 rfl rfl rfl (by kernel_rfl),
 ⟨J0e Tryz.func91 rfl rfl rfl (by kernel_rfl),
 ⟨J0e Tryz.func89 rfl rfl rfl (by kernel_rfl),
 ⟨J0e Tryz.func90 rfl rfl rfl (by kernel_rfl),
 ⟨J0e Tryz.func88 rfl rfl rfl (by kernel_rfl),
 ⟨J0e Tryz.func87 rfl rfl rfl (by kernel_rfl),
 ⟨Q88,
 ⟨X1P,
 ⟨J0e Tryz.func55 rfl rfl rfl (by kernel_rfl),
 ⟨X0s,
 ⟨J0e Tryz.func20 rfl rfl rfl (by kernel_rfl),
 trivial⟩⟩⟩⟩⟩⟩⟩⟩⟩⟩⟩⟩⟩⟩⟩⟩⟩⟩⟩⟩⟩⟩⟩⟩⟩⟩⟩⟩⟩⟩⟩⟩⟩⟩⟩⟩⟩⟩⟩
end Go.Proofs.YtmifmchinfhbnaaGreatDoor
