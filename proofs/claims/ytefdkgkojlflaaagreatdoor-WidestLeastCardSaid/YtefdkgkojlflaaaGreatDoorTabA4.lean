/-
 Tables, printed by a program.
-/
import Derived.Test.YtefdkgkojlflaaaGreatDoorXO
namespace Go.Proofs.YtefdkgkojlflaaaGreatDoor
open Go.Eng
set_option maxRecDepth 100000
noncomputable def tc:List (Nat×J7Y):=[(163,.ext ofG),(162,.ext Q5J),(161,.code (cs Tryz.f161) 15 (cr Tryz.f161)),(160,.code (cs Tryz.f160) 13 (cr Tryz.f160)),(154,.ext (evX tc1 10000 60 154)),(129,.code (cs Tryz.f129) 42 (cr Tryz.f129)),(128,.code (cs Tryz.f128) 25 (cr Tryz.f128)),(127,.code (cs Tryz.f127) 56 (cr Tryz.f127)),(126,.code (cs Tryz.f126) 68 (cr Tryz.f126)),(125,.code (cs Tryz.f125) 57 (cr Tryz.f125)),(97,.code (cs Tryz.f97) 68 (cr Tryz.f97))]
theorem X5W:Q1l Tryz.prog tc :=
 ⟨X6s,
 ⟨J9R,
 ⟨J0d Tryz.func161 rfl rfl rfl (by kernel_rfl),
 ⟨J0d Tryz.func160 rfl rfl rfl (by kernel_rfl),
 ⟨J0O mixed J6D rfl,
 ⟨J0d Tryz.func129 rfl rfl rfl (by kernel_rfl),
 ⟨J0d Tryz.func128 rfl rfl rfl (by kernel_rfl),
 ⟨J0d Tryz.func127 rfl rfl rfl (by kernel_rfl),
 ⟨J0d Tryz.func126 rfl rfl rfl (by kernel_rfl),
 ⟨J0d Tryz.func125 rfl rfl rfl (by kernel_rfl),
 ⟨J0d Tryz.func97 rfl rfl rfl (by kernel_rfl),
 trivial⟩⟩⟩⟩⟩⟩⟩⟩⟩⟩⟩
end Go.Proofs.YtefdkgkojlflaaaGreatDoor
