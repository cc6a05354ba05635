/-
 Tables, printed by a program.
-/
import Derived.Test.YtefdkgkojlflaaaGreatDoorXV
namespace Go.Proofs.YtefdkgkojlflaaaGreatDoor
open Go.Eng
set_option maxRecDepth 100000
noncomputable def tc2:List (Nat×J7Y):=[(207,.code (cs Tryz.f207) 7 (cr Tryz.f207)),(198,.code (cs Tryz.f198) 98 (cr Tryz.f198)),(195,.ext (evX tc0 10000 60 195)),(197,.code (cs Tryz.f197) 25 (cr Tryz.f197)),(196,.ext (evX tc0 10000 60 196)),(191,.ext (evX tc0 10000 60 191)),(182,.code (cs Tryz.f182) 62 (cr Tryz.f182)),(162,.ext Q5J),(160,.code (cs Tryz.f160) 13 (cr Tryz.f160)),(163,.code (cs Tryz.f163) 43 (cr Tryz.f163))]
theorem J77:Q1l Tryz.prog tc2 :=
 ⟨J0d Tryz.func207 rfl rfl rfl (by kernel_rfl),
 ⟨J0d Tryz.func198 rfl rfl rfl (by kernel_rfl),
 ⟨J0O mixed J5I rfl,
 ⟨J0d Tryz.func197 rfl rfl rfl (by kernel_rfl),
 ⟨J0O mixed J5I rfl,
 ⟨J0O mixed J5I rfl,
 ⟨J0d Tryz.func182 rfl rfl rfl (by kernel_rfl),
 ⟨J9R,
 ⟨J0d Tryz.func160 rfl rfl rfl (by kernel_rfl),
 ⟨J0d Tryz.func163 rfl rfl rfl (by kernel_rfl),
 trivial⟩⟩⟩⟩⟩⟩⟩⟩⟩⟩
end Go.Proofs.YtefdkgkojlflaaaGreatDoor
