/-
 The tables of functions that the evaluator runs, printed by a program (wip/tools/evtab.py).
-/
import Derived.KernelRfl
import Derived.Test.YtmifmchinfhbnaaGreatDoorGRCode
import Derived.Test.YtmifmchinfhbnaaGreatDoorEvG
namespace Go.Proofs.YtmifmchinfhbnaaGreatDoor
open Go.Eng
set_option maxRecDepth 100000
noncomputable def ta0:List (Nat×J71):=[(201,.code (cs Tryz.f201) 25 (cr Tryz.f201)),(202,.code (cs Tryz.f202) 2 (cr Tryz.f202)),(172,.code (cs Tryz.f172) 18 (cr Tryz.f172)),(184,.code (cs Tryz.f184) 9 (cr Tryz.f184)),(183,.code (cs Tryz.f183) 9 (cr Tryz.f183)),(179,.code X39 19 X4c),(177,.code (cs Tryz.f177) 27 (cr Tryz.f177)),(176,.code (cs Tryz.f176) 6 (cr Tryz.f176)),(148,.code (cs Tryz.f148) 33 (cr Tryz.f148)),(146,.code (cs Tryz.f146) 8 (cr Tryz.f146)),(123,.code (cs Tryz.f123) 9 (cr Tryz.f123)),(122,.code (cs Tryz.f122) 13 (cr Tryz.f122)),(121,.code (cs Tryz.f121) 17 (cr Tryz.f121))]
theorem J3A:Q1W Tryz.prog ta0 :=
 ⟨J0e Tryz.func201 rfl rfl rfl (by kernel_rfl),
 ⟨J0e Tryz.func202 rfl rfl rfl (by kernel_rfl),
 ⟨J0e Tryz.func172 rfl rfl rfl (by kernel_rfl),
 ⟨J0e Tryz.func184 rfl rfl rfl (by kernel_rfl),
 ⟨J0e Tryz.func183 rfl rfl rfl (by kernel_rfl),
 ⟨J7m Tryz.func179 rfl rfl rfl X4Y X4V,
 ⟨J0e Tryz.func177 rfl rfl rfl (by kernel_rfl),
 ⟨J0e Tryz.func176 rfl rfl rfl (by kernel_rfl),
 ⟨J0e Tryz.func148 rfl rfl rfl (by kernel_rfl),
 ⟨J0e Tryz.func146 rfl rfl rfl (by kernel_rfl),
 ⟨J0e Tryz.func123 rfl rfl rfl (by kernel_rfl),
 ⟨J0e Tryz.func122 rfl rfl rfl (by kernel_rfl),
 ⟨J0e Tryz.func121 rfl rfl rfl (by kernel_rfl),
 trivial⟩⟩⟩⟩⟩⟩⟩⟩⟩⟩⟩⟩⟩
noncomputable def ta1:List (Nat×J71):=[(173,.ext Y0A),(147,.code (cs Tryz.f147) 8 (cr Tryz.f147)),(146,.ext (evX ta0 10000 60 146)),(148,.ext (evX ta0 10000 60 148)),(122,.ext (evX ta0 10000 60 122)),(121,.ext (evX ta0 10000 60 121)),(83,.code (cs Tryz.f83) 35 (cr Tryz.f83)),(125,.code (cs Tryz.f125) 19 (cr Tryz.f125)),(129,.code (cs Tryz.f129) 32 (cr Tryz.f129))]
theorem Q0s:Q1W Tryz.prog ta1 :=
 ⟨X7C,
 ⟨J0e Tryz.func147 rfl rfl rfl (by kernel_rfl),
 ⟨J0N J0b J3A rfl,
 ⟨J0N J0b J3A rfl,
 ⟨J0N J0b J3A rfl,
 ⟨J0N J0b J3A rfl,
 ⟨J0e Tryz.func83 rfl rfl rfl (by kernel_rfl),
 ⟨J0e Tryz.func125 rfl rfl rfl (by kernel_rfl),
 ⟨J0e Tryz.func129 rfl rfl rfl (by kernel_rfl),
 trivial⟩⟩⟩⟩⟩⟩⟩⟩⟩
noncomputable def ta:List (Nat×J71):=[(203,.code (cs Tryz.f203) 7 (cr Tryz.f203)),(186,.code (cs Tryz.f186) 98 (cr Tryz.f186)),(183,.ext (evX ta0 10000 60 183)),(185,.code (cs Tryz.f185) 25 (cr Tryz.f185)),(184,.ext (evX ta0 10000 60 184)),(182,.code (cs Tryz.f182) 10 (cr Tryz.f182)),(181,.code (cs Tryz.f181) 7 (cr Tryz.f181)),(180,.code (cs Tryz.f180) 61 (cr Tryz.f180)),(179,.ext (evX ta0 10000 60 179)),(157,.code (cs Tryz.f157) 62 (cr Tryz.f157)),(156,.code (cs Tryz.f156) 11 (cr Tryz.f156)),(155,.code (cs Tryz.f155) 11 (cr Tryz.f155)),(154,.code (cs Tryz.f154) 32 (cr Tryz.f154)),(153,.code X4a 37 X4d),(138,.code (cs Tryz.f138) 43 (cr Tryz.f138)),(137,.code (cs Tryz.f137) 36 (cr Tryz.f137)),(136,.code (cs Tryz.f136) 15 (cr Tryz.f136)),(135,.code (cs Tryz.f135) 13 (cr Tryz.f135)),(129,.ext (evX ta1 10000 60 129)),(125,.ext (evX ta1 10000 60 125)),(124,.code (cs Tryz.f124) 31 (cr Tryz.f124)),(123,.ext (evX ta0 10000 60 123)),(122,.ext (evX ta0 10000 60 122)),(121,.ext (evX ta0 10000 60 121)),(120,.code (cs Tryz.f120) 21 (cr Tryz.f120)),(98,.code (cs Tryz.f98) 42 (cr Tryz.f98)),(97,.code (cs Tryz.f97) 25 (cr Tryz.f97)),(96,.code (cs Tryz.f96) 56 (cr Tryz.f96)),(95,.code (cs Tryz.f95) 68 (cr Tryz.f95)),(94,.code (cs Tryz.f94) 57 (cr Tryz.f94)),(84,.code (cs Tryz.f84) 62 (cr Tryz.f84)),(83,.ext (evX ta1 10000 60 83)),(6,.code (cs Tryz.f6) 1 (cr Tryz.f6)),(56,.code (cs Tryz.f56) 68 (cr Tryz.f56)),(53,.code (cs Tryz.f53) 41 (cr Tryz.f53))]
theorem Q6x:Q1W Tryz.prog ta :=
 ⟨J0e Tryz.func203 rfl rfl rfl (by kernel_rfl),
 ⟨J0e Tryz.func186 rfl rfl rfl (by kernel_rfl),
 ⟨J0N J0b J3A rfl,
 ⟨J0e Tryz.func185 rfl rfl rfl (by kernel_rfl),
 ⟨J0N J0b J3A rfl,
 ⟨J0e Tryz.func182 rfl rfl rfl (by kernel_rfl),
 ⟨J0e Tryz.func181 rfl rfl rfl (by kernel_rfl),
 ⟨J0e Tryz.func180 rfl rfl rfl (by kernel_rfl),
 ⟨J0N J0b J3A rfl,
 ⟨J0e Tryz.func157 rfl rfl rfl (by kernel_rfl),
 ⟨J0e Tryz.func156 rfl rfl rfl (by kernel_rfl),
 ⟨J0e Tryz.func155 rfl rfl rfl (by kernel_rfl),
 ⟨J0e Tryz.func154 rfl rfl rfl (by kernel_rfl),
 ⟨J7m Tryz.func153 rfl rfl rfl X4Z X4W,
 ⟨J0e Tryz.func138 rfl rfl rfl (by kernel_rfl),
 ⟨J0e Tryz.func137 rfl rfl rfl (by kernel_rfl),
 ⟨J0e Tryz.func136 rfl rfl rfl (by kernel_rfl),
 ⟨J0e Tryz.func135 rfl rfl rfl (by kernel_rfl),
 ⟨J0N J0b Q0s rfl,
 ⟨J0N J0b Q0s rfl,
 ⟨J0e Tryz.func124 rfl rfl rfl (by kernel_rfl),
 ⟨J0N J0b J3A rfl,
 ⟨J0N J0b J3A rfl,
 ⟨J0N J0b J3A rfl,
 ⟨J0e Tryz.func120 rfl rfl rfl (by kernel_rfl),
 ⟨J0e Tryz.func98 rfl rfl rfl (by kernel_rfl),
 ⟨J0e Tryz.func97 rfl rfl rfl (by kernel_rfl),
 ⟨J0e Tryz.func96 rfl rfl rfl (by kernel_rfl),
 ⟨J0e Tryz.func95 rfl rfl rfl (by kernel_rfl),
 ⟨J0e Tryz.func94 rfl rfl rfl (by kernel_rfl),
 ⟨J0e Tryz.func84 rfl rfl rfl (by kernel_rfl),
 ⟨J0N J0b Q0s rfl,
 ⟨J0e Tryz.func6 rfl rfl rfl (by kernel_rfl),
 ⟨J0e Tryz.func56 rfl rfl rfl (by kernel_rfl),
 ⟨J0e Tryz.func53 rfl rfl rfl (by kernel_rfl),
 trivial⟩⟩⟩⟩⟩⟩⟩⟩⟩⟩⟩⟩⟩⟩⟩⟩⟩⟩⟩⟩⟩⟩⟩⟩⟩⟩⟩⟩⟩⟩⟩⟩⟩⟩⟩
end Go.Proofs.YtmifmchinfhbnaaGreatDoor
