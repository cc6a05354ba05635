/-
 Tables, printed by a program.
-/
import Derived.KernelRfl
import Derived.Test.YtefdkgkojlflaaaGreatDoorGRCode
import Derived.Test.YtefdkgkojlflaaaGreatDoorEvG
import Derived.Test.YtefdkgkojlflaaaGreatDoorXS
namespace Go.Proofs.YtefdkgkojlflaaaGreatDoor
open Go.Eng
set_option maxRecDepth 100000
noncomputable def tc0:List (Nat×FDef):=[(196,.code (cs Tryz.f196) 9 (cr Tryz.f196)),(195,.code (cs Tryz.f195) 9 (cr Tryz.f195)),(191,.code sc191 19 rv191),(173,.code (cs Tryz.f173) 33 (cr Tryz.f173)),(148,.code (cs Tryz.f148) 9 (cr Tryz.f148)),(147,.code (cs Tryz.f147) 13 (cr Tryz.f147)),(146,.code (cs Tryz.f146) 17 (cr Tryz.f146))]
theorem tc0_ok:TbOk Tryz.prog tc0 :=
 ⟨fd_codeC Tryz.func196 rfl rfl rfl (by kernel_rfl),
 ⟨fd_codeC Tryz.func195 rfl rfl rfl (by kernel_rfl),
 ⟨fd_code Tryz.func191 rfl rfl rfl hc191 hr191,
 ⟨fd_codeC Tryz.func173 rfl rfl rfl (by kernel_rfl),
 ⟨fd_codeC Tryz.func148 rfl rfl rfl (by kernel_rfl),
 ⟨fd_codeC Tryz.func147 rfl rfl rfl (by kernel_rfl),
 ⟨fd_codeC Tryz.func146 rfl rfl rfl (by kernel_rfl),
 trivial⟩⟩⟩⟩⟩⟩⟩
noncomputable def tc1:List (Nat×FDef):=[(195,.ext (evX tc0 10000 60 195)),(194,.code (cs Tryz.f194) 10 (cr Tryz.f194)),(193,.code (cs Tryz.f193) 7 (cr Tryz.f193)),(192,.code (cs Tryz.f192) 61 (cr Tryz.f192)),(191,.ext (evX tc0 10000 60 191)),(181,.code (cs Tryz.f181) 11 (cr Tryz.f181)),(180,.code (cs Tryz.f180) 11 (cr Tryz.f180)),(179,.code (cs Tryz.f179) 32 (cr Tryz.f179)),(178,.code sc178 37 rv178),(173,.ext (evX tc0 10000 60 173)),(147,.ext (evX tc0 10000 60 147)),(146,.ext (evX tc0 10000 60 146)),(162,.code (cs Tryz.f162) 36 (cr Tryz.f162)),(154,.code (cs Tryz.f154) 32 (cr Tryz.f154))]
theorem tc1_ok:TbOk Tryz.prog tc1 :=
 ⟨fd_pure mixed tc0_ok rfl,
 ⟨fd_codeC Tryz.func194 rfl rfl rfl (by kernel_rfl),
 ⟨fd_codeC Tryz.func193 rfl rfl rfl (by kernel_rfl),
 ⟨fd_codeC Tryz.func192 rfl rfl rfl (by kernel_rfl),
 ⟨fd_pure mixed tc0_ok rfl,
 ⟨fd_codeC Tryz.func181 rfl rfl rfl (by kernel_rfl),
 ⟨fd_codeC Tryz.func180 rfl rfl rfl (by kernel_rfl),
 ⟨fd_codeC Tryz.func179 rfl rfl rfl (by kernel_rfl),
 ⟨fd_code Tryz.func178 rfl rfl rfl hc178 hr178,
 ⟨fd_pure mixed tc0_ok rfl,
 ⟨fd_pure mixed tc0_ok rfl,
 ⟨fd_pure mixed tc0_ok rfl,
 ⟨fd_codeC Tryz.func162 rfl rfl rfl (by kernel_rfl),
 ⟨fd_codeC Tryz.func154 rfl rfl rfl (by kernel_rfl),
 trivial⟩⟩⟩⟩⟩⟩⟩⟩⟩⟩⟩⟩⟩⟩
end Go.Proofs.YtefdkgkojlflaaaGreatDoor
