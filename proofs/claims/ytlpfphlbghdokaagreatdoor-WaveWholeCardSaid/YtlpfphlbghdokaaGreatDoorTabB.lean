/-
 Tables, printed by a program.
-/
import Derived.Test.YtlpfphlbghdokaaGreatDoorTWC
namespace Go.Proofs.YtlpfphlbghdokaaGreatDoor
open Go.Eng
set_option maxRecDepth 100000
noncomputable def tp:List (Nat×J79):=[(215,.code (cs Tryz.f215) 2 (cr Tryz.f215)),(213,.code (cs Tryz.f213) 2 (cr Tryz.f213)),(199,.code (cs Tryz.f199) 25 (cr Tryz.f199)),(212,.code (cs Tryz.f212) 2 (cr Tryz.f212)),(211,.code (cs Tryz.f211) 6 (cr Tryz.f211)),(209,.code (cs Tryz.f209) 6 (cr Tryz.f209)),(208,.code (cs Tryz.f208) 6 (cr Tryz.f208)),(207,.code (cs Tryz.f207) 20 (cr Tryz.f207)),(198,.code (cs Tryz.f198) 55 (cr Tryz.f198)),(182,.code (cs Tryz.f182) 9 (cr Tryz.f182)),(181,.ext (evX ta0 10000 60 181)),(180,.ext (evX ta0 10000 60 180)),(179,.code (cs Tryz.f179) 19 (cr Tryz.f179)),(178,.code (cs Tryz.f178) 35 (cr Tryz.f178)),(163,.code (cs Tryz.f163) 19 (cr Tryz.f163)),(162,.code (cs Tryz.f162) 21 (cr Tryz.f162)),(161,.code (cs Tryz.f161) 40 (cr Tryz.f161)),(160,.code (cs Tryz.f160) 9 (cr Tryz.f160)),(144,.code (cs Tryz.f144) 30 (cr Tryz.f144)),(143,.code (cs Tryz.f143) 21 (cr Tryz.f143)),(142,.code (cs Tryz.f142) 64 (cr Tryz.f142)),(141,.code (cs Tryz.f141) 42 (cr Tryz.f141)),(140,.code (cs Tryz.f140) 27 (cr Tryz.f140)),(139,.ext (evX ta1 10000 60 139)),(138,.code (cs Tryz.f138) 16 (cr Tryz.f138)),(137,.code (cs Tryz.f137) 28 (cr Tryz.f137)),(136,.code (cs Tryz.f136) 11 (cr Tryz.f136)),(96,.code (cs Tryz.f96) 27 (cr Tryz.f96)),(95,.code (cs Tryz.f95) 9 (cr Tryz.f95)),(94,.code (cs Tryz.f94) 76 (cr Tryz.f94)),(92,.code (cs Tryz.f92) 30 (cr Tryz.f92)),(93,.code (cs Tryz.f93) 66 (cr Tryz.f93)),(91,.code (cs Tryz.f91) 45 (cr Tryz.f91)),(90,.code (cs Tryz.f90) 10 (cr Tryz.f90)),(58,.ext X27),(56,.catch_),(57,.code (cs Tryz.f57) 33 (cr Tryz.f57)),(55,.ext X6v),(23,.code (cs Tryz.f23) 57 (cr Tryz.f23))]
theorem X8Y:Q1Q Tryz.prog tp :=
 ⟨J0d Tryz.func215 rfl rfl rfl (by kernel_rfl),
 ⟨J0d Tryz.func213 rfl rfl rfl (by kernel_rfl),
 ⟨J0d Tryz.func199 rfl rfl rfl (by kernel_rfl),
 ⟨J0d Tryz.func212 rfl rfl rfl (by kernel_rfl),
 ⟨J0d Tryz.func211 rfl rfl rfl (by kernel_rfl),
 ⟨J0d Tryz.func209 rfl rfl rfl (by kernel_rfl),
 ⟨J0d Tryz.func208 rfl rfl rfl (by kernel_rfl),
 ⟨J0d Tryz.func207 rfl rfl rfl (by kernel_rfl),
 ⟨J0d Tryz.func198 rfl rfl rfl (by kernel_rfl),
 ⟨J0d Tryz.func182 rfl rfl rfl (by kernel_rfl),
 ⟨J0E J0b J3C rfl,
 ⟨J0E J0b J3C rfl,
 ⟨J0d Tryz.func179 rfl rfl rfl (by kernel_rfl),
 ⟨J0d Tryz.func178 rfl rfl rfl (by kernel_rfl),
 ⟨J0d Tryz.func163 rfl rfl rfl (by kernel_rfl),
 ⟨J0d Tryz.func162 rfl rfl rfl (by kernel_rfl),
 ⟨J0d Tryz.func161 rfl rfl rfl (by kernel_rfl),
 ⟨J0d Tryz.func160 rfl rfl rfl (by kernel_rfl),
 ⟨J0d Tryz.func144 rfl rfl rfl (by kernel_rfl),
 ⟨J0d Tryz.func143 rfl rfl rfl (by kernel_rfl),
 ⟨J0d Tryz.func142 rfl rfl rfl (by kernel_rfl),
 ⟨J0d Tryz.func141 rfl rfl rfl (by kernel_rfl),
 ⟨J0d Tryz.func140 rfl rfl rfl (by kernel_rfl),
 ⟨J0E J0b Q0t rfl,
 ⟨J0d Tryz.func138 rfl rfl rfl (by kernel_rfl),
 ⟨J0d Tryz.func137 rfl rfl rfl (by kernel_rfl),
 ⟨J0d Tryz.func136 rfl rfl rfl (by kernel_rfl),
 ⟨J0d Tryz.func96 rfl rfl rfl (by kernel_rfl),
 ⟨J0d Tryz.func95 rfl rfl rfl (by kernel_rfl),
 ⟨J0d Tryz.func94 rfl rfl rfl (by kernel_rfl),
 ⟨J0d Tryz.func92 rfl rfl rfl (by kernel_rfl),
 ⟨J0d Tryz.func93 rfl rfl rfl (by kernel_rfl),
 ⟨J0d Tryz.func91 rfl rfl rfl (by kernel_rfl),
 ⟨J0d Tryz.func90 rfl rfl rfl (by kernel_rfl),
 ⟨Q87,
 ⟨X1W,
 ⟨J0d Tryz.func57 rfl rfl rfl (by kernel_rfl),
 ⟨X0z,
 ⟨J0d Tryz.func23 rfl rfl rfl (by kernel_rfl),
 trivial⟩⟩⟩⟩⟩⟩⟩⟩⟩⟩⟩⟩⟩⟩⟩⟩⟩⟩⟩⟩⟩⟩⟩⟩⟩⟩⟩⟩⟩⟩⟩⟩⟩⟩⟩⟩⟩⟩⟩
end Go.Proofs.YtlpfphlbghdokaaGreatDoor
