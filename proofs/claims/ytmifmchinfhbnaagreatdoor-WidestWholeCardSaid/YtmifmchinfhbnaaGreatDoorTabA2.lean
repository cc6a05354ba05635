/-
 The tables of functions that the evaluator runs, printed by a program (wip/tools/evtab.py).
-/
import Derived.KernelRfl
import Derived.Test.YtmifmchinfhbnaaGreatDoorGRCode
import Derived.Test.YtmifmchinfhbnaaGreatDoorEvG
import Derived.Test.YtmifmchinfhbnaaGreatDoorXS
namespace Go.Proofs.YtmifmchinfhbnaaGreatDoor
open Go.Eng
set_option maxRecDepth 100000
noncomputable def tc0:List (Nat×J71):=[(184,.code (cs Tryz.f184) 9 (cr Tryz.f184)),(183,.code (cs Tryz.f183) 9 (cr Tryz.f183)),(179,.code X39 19 X4c),(148,.code (cs Tryz.f148) 33 (cr Tryz.f148)),(123,.code (cs Tryz.f123) 9 (cr Tryz.f123)),(122,.code (cs Tryz.f122) 13 (cr Tryz.f122)),(121,.code (cs Tryz.f121) 17 (cr Tryz.f121))]
theorem J5G:Q1W Tryz.prog tc0 :=
 ⟨J0e Tryz.func184 rfl rfl rfl (by kernel_rfl),
 ⟨J0e Tryz.func183 rfl rfl rfl (by kernel_rfl),
 ⟨J7m Tryz.func179 rfl rfl rfl X4Y X4V,
 ⟨J0e Tryz.func148 rfl rfl rfl (by kernel_rfl),
 ⟨J0e Tryz.func123 rfl rfl rfl (by kernel_rfl),
 ⟨J0e Tryz.func122 rfl rfl rfl (by kernel_rfl),
 ⟨J0e Tryz.func121 rfl rfl rfl (by kernel_rfl),
 trivial⟩⟩⟩⟩⟩⟩⟩
noncomputable def tc1:List (Nat×J71):=[(183,.ext (evX tc0 10000 60 183)),(182,.code (cs Tryz.f182) 10 (cr Tryz.f182)),(181,.code (cs Tryz.f181) 7 (cr Tryz.f181)),(180,.code (cs Tryz.f180) 61 (cr Tryz.f180)),(179,.ext (evX tc0 10000 60 179)),(156,.code (cs Tryz.f156) 11 (cr Tryz.f156)),(155,.code (cs Tryz.f155) 11 (cr Tryz.f155)),(154,.code (cs Tryz.f154) 32 (cr Tryz.f154)),(153,.code X4a 37 X4d),(148,.ext (evX tc0 10000 60 148)),(122,.ext (evX tc0 10000 60 122)),(121,.ext (evX tc0 10000 60 121)),(137,.code (cs Tryz.f137) 36 (cr Tryz.f137)),(129,.code (cs Tryz.f129) 32 (cr Tryz.f129))]
theorem J6B:Q1W Tryz.prog tc1 :=
 ⟨J0N J0b J5G rfl,
 ⟨J0e Tryz.func182 rfl rfl rfl (by kernel_rfl),
 ⟨J0e Tryz.func181 rfl rfl rfl (by kernel_rfl),
 ⟨J0e Tryz.func180 rfl rfl rfl (by kernel_rfl),
 ⟨J0N J0b J5G rfl,
 ⟨J0e Tryz.func156 rfl rfl rfl (by kernel_rfl),
 ⟨J0e Tryz.func155 rfl rfl rfl (by kernel_rfl),
 ⟨J0e Tryz.func154 rfl rfl rfl (by kernel_rfl),
 ⟨J7m Tryz.func153 rfl rfl rfl X4Z X4W,
 ⟨J0N J0b J5G rfl,
 ⟨J0N J0b J5G rfl,
 ⟨J0N J0b J5G rfl,
 ⟨J0e Tryz.func137 rfl rfl rfl (by kernel_rfl),
 ⟨J0e Tryz.func129 rfl rfl rfl (by kernel_rfl),
 trivial⟩⟩⟩⟩⟩⟩⟩⟩⟩⟩⟩⟩⟩⟩
end Go.Proofs.YtmifmchinfhbnaaGreatDoor
