/-
 Tables, printed by a program.
-/
import Derived.Test.YtefdkgkojlflaaaGreatDoorXN
namespace Go.Proofs.YtefdkgkojlflaaaGreatDoor
open Go.Eng
set_option maxRecDepth 100000
noncomputable def ts:List (Nat×J7Y):=[(115,.ext X6x),(114,.ext (evX ta1 10000 60 114)),(94,.code (cs Tryz.f94) 41 (cr Tryz.f94))]
theorem X8c:Q1l Tryz.prog ts :=
 ⟨X0d,
 ⟨J0O mixed J9Z rfl,
 ⟨J0d Tryz.func94 rfl rfl rfl (by kernel_rfl),
 trivial⟩⟩⟩
end Go.Proofs.YtefdkgkojlflaaaGreatDoor
