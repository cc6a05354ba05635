/-
 Tables, printed by a program.
-/
import Derived.Test.YtlpfphlbghdokaaGreatDoorTWN
namespace Go.Proofs.YtlpfphlbghdokaaGreatDoor
open Go.Eng
set_option maxRecDepth 100000
noncomputable def ts:List (Nat×J79):=[(87,.ext X6X),(86,.ext (evX ta1 10000 60 86)),(55,.code (cs Tryz.f55) 41 (cr Tryz.f55))]
theorem X8V:Q1Q Tryz.prog ts :=
 ⟨X0S,
 ⟨J0E J0b Q0t rfl,
 ⟨J0d Tryz.func55 rfl rfl rfl (by kernel_rfl),
 trivial⟩⟩⟩
end Go.Proofs.YtlpfphlbghdokaaGreatDoor
