/-
 The tables of functions that the evaluator runs, printed by a program (wip/tools/evtab.py).
-/
import Derived.KernelRfl
import Derived.Test.YtpgkdcekpineaaaGreatDoorGRCode
import Derived.Test.YtpgkdcekpineaaaGreatDoorEvG
import Derived.Test.YtpgkdcekpineaaaGreatDoorTWN
namespace Go.Proofs.YtpgkdcekpineaaaGreatDoor
open Go.Eng
set_option maxRecDepth 100000
noncomputable def ts:List (Nat × FDef):=[(55,.ext nextG),(54,.ext (evX ta1 10000 60 54)),(28,.code (cs Tryz.f28) 41 (cr Tryz.f28))]
theorem ts_ok:TbOk Tryz.prog ts :=
 ⟨next_ext,
 ⟨fd_pure mixed ta1_ok rfl,
 ⟨fd_codeC Tryz.func28 rfl rfl rfl (by kernel_rfl),
 trivial⟩⟩⟩
end Go.Proofs.YtpgkdcekpineaaaGreatDoor
