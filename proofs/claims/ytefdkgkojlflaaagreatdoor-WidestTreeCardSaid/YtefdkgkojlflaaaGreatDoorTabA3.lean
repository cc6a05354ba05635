/-
 Tables, printed by a program.
-/
import Derived.KernelRfl
import Derived.Test.YtefdkgkojlflaaaGreatDoorGRCode
import Derived.Test.YtefdkgkojlflaaaGreatDoorEvG
import Derived.Test.YtefdkgkojlflaaaGreatDoorXV
namespace Go.Proofs.YtefdkgkojlflaaaGreatDoor
open Go.Eng
set_option maxRecDepth 100000
noncomputable def tc2:List (Nat×FDef):=[(207,.code (cs Tryz.f207) 7 (cr Tryz.f207)),(198,.code (cs Tryz.f198) 98 (cr Tryz.f198)),(195,.ext (evX tc0 10000 60 195)),(197,.code (cs Tryz.f197) 25 (cr Tryz.f197)),(196,.ext (evX tc0 10000 60 196)),(191,.ext (evX tc0 10000 60 191)),(182,.code (cs Tryz.f182) 62 (cr Tryz.f182)),(162,.ext validG),(160,.code (cs Tryz.f160) 13 (cr Tryz.f160)),(163,.code (cs Tryz.f163) 43 (cr Tryz.f163))]
theorem tc2_ok:TbOk Tryz.prog tc2 :=
 ⟨fd_codeC Tryz.func207 rfl rfl rfl (by kernel_rfl),
 ⟨fd_codeC Tryz.func198 rfl rfl rfl (by kernel_rfl),
 ⟨fd_pure mixed tc0_ok rfl,
 ⟨fd_codeC Tryz.func197 rfl rfl rfl (by kernel_rfl),
 ⟨fd_pure mixed tc0_ok rfl,
 ⟨fd_pure mixed tc0_ok rfl,
 ⟨fd_codeC Tryz.func182 rfl rfl rfl (by kernel_rfl),
 ⟨valid_ext,
 ⟨fd_codeC Tryz.func160 rfl rfl rfl (by kernel_rfl),
 ⟨fd_codeC Tryz.func163 rfl rfl rfl (by kernel_rfl),
 trivial⟩⟩⟩⟩⟩⟩⟩⟩⟩⟩
end Go.Proofs.YtefdkgkojlflaaaGreatDoor
