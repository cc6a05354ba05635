/-
 The tables of functions that the evaluator runs, printed by a program (wip/tools/evtab.py).
-/
import Derived.KernelRfl
import Derived.Test.YtmifmchinfhbnaaGreatDoorGRCode
import Derived.Test.YtmifmchinfhbnaaGreatDoorEvG
import Derived.Test.YtmifmchinfhbnaaGreatDoorXO
namespace Go.Proofs.YtmifmchinfhbnaaGreatDoor
open Go.Eng
set_option maxRecDepth 100000
noncomputable def tc:List (Nat×J71):=[(138,.ext ofG),(137,.ext Q6k),(136,.code (cs Tryz.f136) 15 (cr Tryz.f136)),(135,.code (cs Tryz.f135) 13 (cr Tryz.f135)),(129,.ext (evX tc1 10000 60 129)),(98,.code (cs Tryz.f98) 42 (cr Tryz.f98)),(97,.code (cs Tryz.f97) 25 (cr Tryz.f97)),(96,.code (cs Tryz.f96) 56 (cr Tryz.f96)),(95,.code (cs Tryz.f95) 68 (cr Tryz.f95)),(94,.code (cs Tryz.f94) 57 (cr Tryz.f94)),(56,.code (cs Tryz.f56) 68 (cr Tryz.f56))]
theorem X6G:Q1W Tryz.prog tc :=
 ⟨X7a,
 ⟨Q0k,
 ⟨J0e Tryz.func136 rfl rfl rfl (by kernel_rfl),
 ⟨J0e Tryz.func135 rfl rfl rfl (by kernel_rfl),
 ⟨J0N J0b J6B rfl,
 ⟨J0e Tryz.func98 rfl rfl rfl (by kernel_rfl),
 ⟨J0e Tryz.func97 rfl rfl rfl (by kernel_rfl),
 ⟨J0e Tryz.func96 rfl rfl rfl (by kernel_rfl),
 ⟨J0e Tryz.func95 rfl rfl rfl (by kernel_rfl),
 ⟨J0e Tryz.func94 rfl rfl rfl (by kernel_rfl),
 ⟨J0e Tryz.func56 rfl rfl rfl (by kernel_rfl),
 trivial⟩⟩⟩⟩⟩⟩⟩⟩⟩⟩⟩
end Go.Proofs.YtmifmchinfhbnaaGreatDoor
