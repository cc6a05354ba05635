/-
 Tables, printed by a program.
-/
import Derived.KernelRfl
import Derived.Test.YtpoplpohbpfbmaaGreatDoorGRCode
import Derived.Test.YtpoplpohbpfbmaaGreatDoorEvG
import Derived.Test.YtpoplpohbpfbmaaGreatDoorTWN
namespace Go.Proofs.YtpoplpohbpfbmaaGreatDoor
open Go.Eng
set_option maxRecDepth 100000
noncomputable def ts:List (Nat×FDef):=[(78,.ext nextG),(77,.ext (evX ta1 10000 60 77)),(50,.code (cs Tryz.f50) 41 (cr Tryz.f50))]
theorem ts_ok:TbOk Tryz.prog ts :=
 ⟨next_ext,
 ⟨fd_pure mixed ta1_ok rfl,
 ⟨fd_codeC Tryz.func50 rfl rfl rfl (by kernel_rfl),
 trivial⟩⟩⟩
end Go.Proofs.YtpoplpohbpfbmaaGreatDoor
