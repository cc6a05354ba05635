/-
 Tables, printed by a program.
-/
import Derived.Test.YtlpfphlbghdokaaGreatDoorEvG
namespace Go.Proofs.YtlpfphlbghdokaaGreatDoor
open Go.Eng
set_option maxRecDepth 100000
noncomputable def ta0:List (Nat×J79):=[(199,.code (cs Tryz.f199) 25 (cr Tryz.f199)),(200,.code (cs Tryz.f200) 2 (cr Tryz.f200)),(176,.code (cs Tryz.f176) 18 (cr Tryz.f176)),(188,.code (cs Tryz.f188) 9 (cr Tryz.f188)),(187,.code (cs Tryz.f187) 9 (cr Tryz.f187)),(183,.code X31 19 X34),(181,.code (cs Tryz.f181) 27 (cr Tryz.f181)),(180,.code (cs Tryz.f180) 6 (cr Tryz.f180)),(159,.code (cs Tryz.f159) 33 (cr Tryz.f159)),(157,.code (cs Tryz.f157) 8 (cr Tryz.f157)),(133,.code (cs Tryz.f133) 9 (cr Tryz.f133)),(132,.code (cs Tryz.f132) 13 (cr Tryz.f132)),(131,.code (cs Tryz.f131) 17 (cr Tryz.f131))]
theorem J3C:Q1Q Tryz.prog ta0 :=
 ⟨J0d Tryz.func199 rfl rfl rfl (by kernel_rfl),
 ⟨J0d Tryz.func200 rfl rfl rfl (by kernel_rfl),
 ⟨J0d Tryz.func176 rfl rfl rfl (by kernel_rfl),
 ⟨J0d Tryz.func188 rfl rfl rfl (by kernel_rfl),
 ⟨J0d Tryz.func187 rfl rfl rfl (by kernel_rfl),
 ⟨J7v Tryz.func183 rfl rfl rfl X4H X4E,
 ⟨J0d Tryz.func181 rfl rfl rfl (by kernel_rfl),
 ⟨J0d Tryz.func180 rfl rfl rfl (by kernel_rfl),
 ⟨J0d Tryz.func159 rfl rfl rfl (by kernel_rfl),
 ⟨J0d Tryz.func157 rfl rfl rfl (by kernel_rfl),
 ⟨J0d Tryz.func133 rfl rfl rfl (by kernel_rfl),
 ⟨J0d Tryz.func132 rfl rfl rfl (by kernel_rfl),
 ⟨J0d Tryz.func131 rfl rfl rfl (by kernel_rfl),
 trivial⟩⟩⟩⟩⟩⟩⟩⟩⟩⟩⟩⟩⟩
noncomputable def ta1:List (Nat×J79):=[(177,.ext Y00),(158,.code (cs Tryz.f158) 8 (cr Tryz.f158)),(157,.ext (evX ta0 10000 60 157)),(159,.ext (evX ta0 10000 60 159)),(132,.ext (evX ta0 10000 60 132)),(131,.ext (evX ta0 10000 60 131)),(86,.code (cs Tryz.f86) 35 (cr Tryz.f86)),(135,.code (cs Tryz.f135) 19 (cr Tryz.f135)),(139,.code (cs Tryz.f139) 32 (cr Tryz.f139))]
theorem Q0t:Q1Q Tryz.prog ta1 :=
 ⟨X7i,
 ⟨J0d Tryz.func158 rfl rfl rfl (by kernel_rfl),
 ⟨J0E J0b J3C rfl,
 ⟨J0E J0b J3C rfl,
 ⟨J0E J0b J3C rfl,
 ⟨J0E J0b J3C rfl,
 ⟨J0d Tryz.func86 rfl rfl rfl (by kernel_rfl),
 ⟨J0d Tryz.func135 rfl rfl rfl (by kernel_rfl),
 ⟨J0d Tryz.func139 rfl rfl rfl (by kernel_rfl),
 trivial⟩⟩⟩⟩⟩⟩⟩⟩⟩
noncomputable def ta:List (Nat×J79):=[(201,.code (cs Tryz.f201) 7 (cr Tryz.f201)),(190,.code (cs Tryz.f190) 98 (cr Tryz.f190)),(187,.ext (evX ta0 10000 60 187)),(189,.code (cs Tryz.f189) 25 (cr Tryz.f189)),(188,.ext (evX ta0 10000 60 188)),(186,.code (cs Tryz.f186) 10 (cr Tryz.f186)),(185,.code (cs Tryz.f185) 7 (cr Tryz.f185)),(184,.code (cs Tryz.f184) 61 (cr Tryz.f184)),(183,.ext (evX ta0 10000 60 183)),(168,.code (cs Tryz.f168) 62 (cr Tryz.f168)),(167,.code (cs Tryz.f167) 11 (cr Tryz.f167)),(166,.code (cs Tryz.f166) 11 (cr Tryz.f166)),(165,.code (cs Tryz.f165) 32 (cr Tryz.f165)),(164,.code X32 37 X35),(148,.code (cs Tryz.f148) 43 (cr Tryz.f148)),(147,.code (cs Tryz.f147) 36 (cr Tryz.f147)),(146,.code (cs Tryz.f146) 15 (cr Tryz.f146)),(145,.code (cs Tryz.f145) 13 (cr Tryz.f145)),(139,.ext (evX ta1 10000 60 139)),(135,.ext (evX ta1 10000 60 135)),(134,.code (cs Tryz.f134) 31 (cr Tryz.f134)),(133,.ext (evX ta0 10000 60 133)),(132,.ext (evX ta0 10000 60 132)),(131,.ext (evX ta0 10000 60 131)),(130,.code (cs Tryz.f130) 21 (cr Tryz.f130)),(101,.code (cs Tryz.f101) 42 (cr Tryz.f101)),(100,.code (cs Tryz.f100) 25 (cr Tryz.f100)),(99,.code (cs Tryz.f99) 56 (cr Tryz.f99)),(98,.code (cs Tryz.f98) 68 (cr Tryz.f98)),(97,.code (cs Tryz.f97) 57 (cr Tryz.f97)),(87,.code (cs Tryz.f87) 62 (cr Tryz.f87)),(86,.ext (evX ta1 10000 60 86)),(15,.code (cs Tryz.f15) 1 (cr Tryz.f15)),(58,.code (cs Tryz.f58) 68 (cr Tryz.f58)),(55,.code (cs Tryz.f55) 41 (cr Tryz.f55))]
theorem X0o:Q1Q Tryz.prog ta :=
 ⟨J0d Tryz.func201 rfl rfl rfl (by kernel_rfl),
 ⟨J0d Tryz.func190 rfl rfl rfl (by kernel_rfl),
 ⟨J0E J0b J3C rfl,
 ⟨J0d Tryz.func189 rfl rfl rfl (by kernel_rfl),
 ⟨J0E J0b J3C rfl,
 ⟨J0d Tryz.func186 rfl rfl rfl (by kernel_rfl),
 ⟨J0d Tryz.func185 rfl rfl rfl (by kernel_rfl),
 ⟨J0d Tryz.func184 rfl rfl rfl (by kernel_rfl),
 ⟨J0E J0b J3C rfl,
 ⟨J0d Tryz.func168 rfl rfl rfl (by kernel_rfl),
 ⟨J0d Tryz.func167 rfl rfl rfl (by kernel_rfl),
 ⟨J0d Tryz.func166 rfl rfl rfl (by kernel_rfl),
 ⟨J0d Tryz.func165 rfl rfl rfl (by kernel_rfl),
 ⟨J7v Tryz.func164 rfl rfl rfl X4I X4F,
 ⟨J0d Tryz.func148 rfl rfl rfl (by kernel_rfl),
 ⟨J0d Tryz.func147 rfl rfl rfl (by kernel_rfl),
 ⟨J0d Tryz.func146 rfl rfl rfl (by kernel_rfl),
 ⟨J0d Tryz.func145 rfl rfl rfl (by kernel_rfl),
 ⟨J0E J0b Q0t rfl,
 ⟨J0E J0b Q0t rfl,
 ⟨J0d Tryz.func134 rfl rfl rfl (by kernel_rfl),
 ⟨J0E J0b J3C rfl,
 ⟨J0E J0b J3C rfl,
 ⟨J0E J0b J3C rfl,
 ⟨J0d Tryz.func130 rfl rfl rfl (by kernel_rfl),
 ⟨J0d Tryz.func101 rfl rfl rfl (by kernel_rfl),
 ⟨J0d Tryz.func100 rfl rfl rfl (by kernel_rfl),
 ⟨J0d Tryz.func99 rfl rfl rfl (by kernel_rfl),
 ⟨J0d Tryz.func98 rfl rfl rfl (by kernel_rfl),
 ⟨J0d Tryz.func97 rfl rfl rfl (by kernel_rfl),
 ⟨J0d Tryz.func87 rfl rfl rfl (by kernel_rfl),
 ⟨J0E J0b Q0t rfl,
 ⟨J0d Tryz.func15 rfl rfl rfl (by kernel_rfl),
 ⟨J0d Tryz.func58 rfl rfl rfl (by kernel_rfl),
 ⟨J0d Tryz.func55 rfl rfl rfl (by kernel_rfl),
 trivial⟩⟩⟩⟩⟩⟩⟩⟩⟩⟩⟩⟩⟩⟩⟩⟩⟩⟩⟩⟩⟩⟩⟩⟩⟩⟩⟩⟩⟩⟩⟩⟩⟩⟩⟩
end Go.Proofs.YtlpfphlbghdokaaGreatDoor
