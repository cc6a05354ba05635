/-
 The tables of functions that the evaluator runs, printed by a program (wip/tools/evtab.py).
-/
import Derived.KernelRfl
import Derived.Test.YtmifmchinfhbnaaGreatDoorGRCode
import Derived.Test.YtmifmchinfhbnaaGreatDoorEvG
import Derived.Test.YtmifmchinfhbnaaGreatDoorXV
namespace Go.Proofs.YtmifmchinfhbnaaGreatDoor
open Go.Eng
set_option maxRecDepth 100000
noncomputable def tc2:List (Nat×J71):=[(203,.code (cs Tryz.f203) 7 (cr Tryz.f203)),(186,.code (cs Tryz.f186) 98 (cr Tryz.f186)),(183,.ext (evX tc0 10000 60 183)),(185,.code (cs Tryz.f185) 25 (cr Tryz.f185)),(184,.ext (evX tc0 10000 60 184)),(179,.ext (evX tc0 10000 60 179)),(157,.code (cs Tryz.f157) 62 (cr Tryz.f157)),(137,.ext Q6k),(135,.code (cs Tryz.f135) 13 (cr Tryz.f135)),(138,.code (cs Tryz.f138) 43 (cr Tryz.f138))]
theorem J8a:Q1W Tryz.prog tc2 :=
 ⟨J0e Tryz.func203 rfl rfl rfl (by kernel_rfl),
 ⟨J0e Tryz.func186 rfl rfl rfl (by kernel_rfl),
 ⟨J0N J0b J5G rfl,
 ⟨J0e Tryz.func185 rfl rfl rfl (by kernel_rfl),
 ⟨J0N J0b J5G rfl,
 ⟨J0N J0b J5G rfl,
 ⟨J0e Tryz.func157 rfl rfl rfl (by kernel_rfl),
 ⟨Q0k,
 ⟨J0e Tryz.func135 rfl rfl rfl (by kernel_rfl),
 ⟨J0e Tryz.func138 rfl rfl rfl (by kernel_rfl),
 trivial⟩⟩⟩⟩⟩⟩⟩⟩⟩⟩
end Go.Proofs.YtmifmchinfhbnaaGreatDoor
