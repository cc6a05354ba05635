/-
 Tables, printed by a program.
-/
import Derived.Test.YtefdkgkojlflaaaGreatDoorXS
namespace Go.Proofs.YtefdkgkojlflaaaGreatDoor
open Go.Eng
set_option maxRecDepth 100000
noncomputable def tc0:List (Nat×J7Y):=[(196,.code (cs Tryz.f196) 9 (cr Tryz.f196)),(195,.code (cs Tryz.f195) 9 (cr Tryz.f195)),(191,.code X3B 19 X3E),(173,.code (cs Tryz.f173) 33 (cr Tryz.f173)),(148,.code (cs Tryz.f148) 9 (cr Tryz.f148)),(147,.code (cs Tryz.f147) 13 (cr Tryz.f147)),(146,.code (cs Tryz.f146) 17 (cr Tryz.f146))]
theorem J5I:Q1l Tryz.prog tc0 :=
 ⟨J0d Tryz.func196 rfl rfl rfl (by kernel_rfl),
 ⟨J0d Tryz.func195 rfl rfl rfl (by kernel_rfl),
 ⟨J4D Tryz.func191 rfl rfl rfl X4p X4l,
 ⟨J0d Tryz.func173 rfl rfl rfl (by kernel_rfl),
 ⟨J0d Tryz.func148 rfl rfl rfl (by kernel_rfl),
 ⟨J0d Tryz.func147 rfl rfl rfl (by kernel_rfl),
 ⟨J0d Tryz.func146 rfl rfl rfl (by kernel_rfl),
 trivial⟩⟩⟩⟩⟩⟩⟩
noncomputable def tc1:List (Nat×J7Y):=[(195,.ext (evX tc0 10000 60 195)),(194,.code (cs Tryz.f194) 10 (cr Tryz.f194)),(193,.code (cs Tryz.f193) 7 (cr Tryz.f193)),(192,.code (cs Tryz.f192) 61 (cr Tryz.f192)),(191,.ext (evX tc0 10000 60 191)),(181,.code (cs Tryz.f181) 11 (cr Tryz.f181)),(180,.code (cs Tryz.f180) 11 (cr Tryz.f180)),(179,.code (cs Tryz.f179) 32 (cr Tryz.f179)),(178,.code X3C 37 X3F),(173,.ext (evX tc0 10000 60 173)),(147,.ext (evX tc0 10000 60 147)),(146,.ext (evX tc0 10000 60 146)),(162,.code (cs Tryz.f162) 36 (cr Tryz.f162)),(154,.code (cs Tryz.f154) 32 (cr Tryz.f154))]
theorem J6D:Q1l Tryz.prog tc1 :=
 ⟨J0O mixed J5I rfl,
 ⟨J0d Tryz.func194 rfl rfl rfl (by kernel_rfl),
 ⟨J0d Tryz.func193 rfl rfl rfl (by kernel_rfl),
 ⟨J0d Tryz.func192 rfl rfl rfl (by kernel_rfl),
 ⟨J0O mixed J5I rfl,
 ⟨J0d Tryz.func181 rfl rfl rfl (by kernel_rfl),
 ⟨J0d Tryz.func180 rfl rfl rfl (by kernel_rfl),
 ⟨J0d Tryz.func179 rfl rfl rfl (by kernel_rfl),
 ⟨J4D Tryz.func178 rfl rfl rfl X4q X4m,
 ⟨J0O mixed J5I rfl,
 ⟨J0O mixed J5I rfl,
 ⟨J0O mixed J5I rfl,
 ⟨J0d Tryz.func162 rfl rfl rfl (by kernel_rfl),
 ⟨J0d Tryz.func154 rfl rfl rfl (by kernel_rfl),
 trivial⟩⟩⟩⟩⟩⟩⟩⟩⟩⟩⟩⟩⟩⟩
end Go.Proofs.YtefdkgkojlflaaaGreatDoor
