/-
 Tables, printed by a program.
-/
import Derived.KernelRfl
import Derived.Test.YtefdkgkojlflaaaGreatDoorGRCode
import Derived.Test.YtefdkgkojlflaaaGreatDoorEvG
import Derived.Test.YtefdkgkojlflaaaGreatDoorXN
namespace Go.Proofs.YtefdkgkojlflaaaGreatDoor
open Go.Eng
set_option maxRecDepth 100000
noncomputable def ts:List (Nat×FDef):=[(115,.ext nextG),(114,.ext (evX ta1 10000 60 114)),(94,.code (cs Tryz.f94) 41 (cr Tryz.f94))]
theorem ts_ok:TbOk Tryz.prog ts :=
 ⟨next_ext,
 ⟨fd_pure mixed ta1_ok rfl,
 ⟨fd_codeC Tryz.func94 rfl rfl rfl (by kernel_rfl),
 trivial⟩⟩⟩
end Go.Proofs.YtefdkgkojlflaaaGreatDoor
