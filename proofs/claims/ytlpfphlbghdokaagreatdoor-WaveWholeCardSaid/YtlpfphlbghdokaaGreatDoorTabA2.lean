/-
 Tables, printed by a program.
-/
import Derived.Test.YtlpfphlbghdokaaGreatDoorTWS
namespace Go.Proofs.YtlpfphlbghdokaaGreatDoor
open Go.Eng
set_option maxRecDepth 100000
noncomputable def tc0:List (Nat×J79):=[(188,.code (cs Tryz.f188) 9 (cr Tryz.f188)),(187,.code (cs Tryz.f187) 9 (cr Tryz.f187)),(183,.code X31 19 X34),(159,.code (cs Tryz.f159) 33 (cr Tryz.f159)),(133,.code (cs Tryz.f133) 9 (cr Tryz.f133)),(132,.code (cs Tryz.f132) 13 (cr Tryz.f132)),(131,.code (cs Tryz.f131) 17 (cr Tryz.f131))]
theorem J5M:Q1Q Tryz.prog tc0 :=
 ⟨J0d Tryz.func188 rfl rfl rfl (by kernel_rfl),
 ⟨J0d Tryz.func187 rfl rfl rfl (by kernel_rfl),
 ⟨J7v Tryz.func183 rfl rfl rfl X4H X4E,
 ⟨J0d Tryz.func159 rfl rfl rfl (by kernel_rfl),
 ⟨J0d Tryz.func133 rfl rfl rfl (by kernel_rfl),
 ⟨J0d Tryz.func132 rfl rfl rfl (by kernel_rfl),
 ⟨J0d Tryz.func131 rfl rfl rfl (by kernel_rfl),
 trivial⟩⟩⟩⟩⟩⟩⟩
noncomputable def tc1:List (Nat×J79):=[(187,.ext (evX tc0 10000 60 187)),(186,.code (cs Tryz.f186) 10 (cr Tryz.f186)),(185,.code (cs Tryz.f185) 7 (cr Tryz.f185)),(184,.code (cs Tryz.f184) 61 (cr Tryz.f184)),(183,.ext (evX tc0 10000 60 183)),(167,.code (cs Tryz.f167) 11 (cr Tryz.f167)),(166,.code (cs Tryz.f166) 11 (cr Tryz.f166)),(165,.code (cs Tryz.f165) 32 (cr Tryz.f165)),(164,.code X32 37 X35),(159,.ext (evX tc0 10000 60 159)),(132,.ext (evX tc0 10000 60 132)),(131,.ext (evX tc0 10000 60 131)),(147,.code (cs Tryz.f147) 36 (cr Tryz.f147)),(139,.code (cs Tryz.f139) 32 (cr Tryz.f139))]
theorem Q6u:Q1Q Tryz.prog tc1 :=
 ⟨J0E J0b J5M rfl,
 ⟨J0d Tryz.func186 rfl rfl rfl (by kernel_rfl),
 ⟨J0d Tryz.func185 rfl rfl rfl (by kernel_rfl),
 ⟨J0d Tryz.func184 rfl rfl rfl (by kernel_rfl),
 ⟨J0E J0b J5M rfl,
 ⟨J0d Tryz.func167 rfl rfl rfl (by kernel_rfl),
 ⟨J0d Tryz.func166 rfl rfl rfl (by kernel_rfl),
 ⟨J0d Tryz.func165 rfl rfl rfl (by kernel_rfl),
 ⟨J7v Tryz.func164 rfl rfl rfl X4I X4F,
 ⟨J0E J0b J5M rfl,
 ⟨J0E J0b J5M rfl,
 ⟨J0E J0b J5M rfl,
 ⟨J0d Tryz.func147 rfl rfl rfl (by kernel_rfl),
 ⟨J0d Tryz.func139 rfl rfl rfl (by kernel_rfl),
 trivial⟩⟩⟩⟩⟩⟩⟩⟩⟩⟩⟩⟩⟩⟩
noncomputable def tc2:List (Nat×J79):=[(201,.code (cs Tryz.f201) 7 (cr Tryz.f201)),(190,.code (cs Tryz.f190) 98 (cr Tryz.f190)),(187,.ext (evX tc0 10000 60 187)),(189,.code (cs Tryz.f189) 25 (cr Tryz.f189)),(188,.ext (evX tc0 10000 60 188)),(183,.ext (evX tc0 10000 60 183)),(168,.code (cs Tryz.f168) 62 (cr Tryz.f168)),(147,.ext (evX tc1 10000 60 147)),(145,.code (cs Tryz.f145) 13 (cr Tryz.f145)),(148,.code (cs Tryz.f148) 43 (cr Tryz.f148))]
theorem X6q:Q1Q Tryz.prog tc2 :=
 ⟨J0d Tryz.func201 rfl rfl rfl (by kernel_rfl),
 ⟨J0d Tryz.func190 rfl rfl rfl (by kernel_rfl),
 ⟨J0E J0b J5M rfl,
 ⟨J0d Tryz.func189 rfl rfl rfl (by kernel_rfl),
 ⟨J0E J0b J5M rfl,
 ⟨J0E J0b J5M rfl,
 ⟨J0d Tryz.func168 rfl rfl rfl (by kernel_rfl),
 ⟨J0E J0b Q6u rfl,
 ⟨J0d Tryz.func145 rfl rfl rfl (by kernel_rfl),
 ⟨J0d Tryz.func148 rfl rfl rfl (by kernel_rfl),
 trivial⟩⟩⟩⟩⟩⟩⟩⟩⟩⟩
noncomputable def tc:List (Nat×J79):=[(148,.ext (evX tc2 10000 60 148)),(147,.ext (evX tc1 10000 60 147)),(146,.code (cs Tryz.f146) 15 (cr Tryz.f146)),(145,.code (cs Tryz.f145) 13 (cr Tryz.f145)),(139,.ext (evX tc1 10000 60 139)),(101,.code (cs Tryz.f101) 42 (cr Tryz.f101)),(100,.code (cs Tryz.f100) 25 (cr Tryz.f100)),(99,.code (cs Tryz.f99) 56 (cr Tryz.f99)),(98,.code (cs Tryz.f98) 68 (cr Tryz.f98)),(97,.code (cs Tryz.f97) 57 (cr Tryz.f97)),(58,.code (cs Tryz.f58) 68 (cr Tryz.f58))]
theorem X6p:Q1Q Tryz.prog tc :=
 ⟨J0E J0b X6q rfl,
 ⟨J0E J0b Q6u rfl,
 ⟨J0d Tryz.func146 rfl rfl rfl (by kernel_rfl),
 ⟨J0d Tryz.func145 rfl rfl rfl (by kernel_rfl),
 ⟨J0E J0b Q6u rfl,
 ⟨J0d Tryz.func101 rfl rfl rfl (by kernel_rfl),
 ⟨J0d Tryz.func100 rfl rfl rfl (by kernel_rfl),
 ⟨J0d Tryz.func99 rfl rfl rfl (by kernel_rfl),
 ⟨J0d Tryz.func98 rfl rfl rfl (by kernel_rfl),
 ⟨J0d Tryz.func97 rfl rfl rfl (by kernel_rfl),
 ⟨J0d Tryz.func58 rfl rfl rfl (by kernel_rfl),
 trivial⟩⟩⟩⟩⟩⟩⟩⟩⟩⟩⟩
end Go.Proofs.YtlpfphlbghdokaaGreatDoor
