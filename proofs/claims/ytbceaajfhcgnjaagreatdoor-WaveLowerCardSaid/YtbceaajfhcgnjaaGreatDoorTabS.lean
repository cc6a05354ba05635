/-
 Tables, printed by a program.
-/
import Derived.KernelRfl
import Derived.Test.YtbceaajfhcgnjaaGreatDoorGRCode
import Derived.Test.YtbceaajfhcgnjaaGreatDoorEvG
import Derived.Test.YtbceaajfhcgnjaaGreatDoorTWN
namespace Go.Proofs.YtbceaajfhcgnjaaGreatDoor
open Go.Eng
set_option maxRecDepth 100000
noncomputable def ts:List (Nat×FDef):=[(100,.ext nextG),(99,.ext (evX ta1 10000 60 99)),(68,.code (cs Tryz.f68) 41 (cr Tryz.f68))]
theorem ts_ok:TbOk Tryz.prog ts :=
 ⟨next_ext,
 ⟨fd_pure mixed ta1_ok rfl,
 ⟨fd_codeC Tryz.func68 rfl rfl rfl (by kernel_rfl),
 trivial⟩⟩⟩
end Go.Proofs.YtbceaajfhcgnjaaGreatDoor
