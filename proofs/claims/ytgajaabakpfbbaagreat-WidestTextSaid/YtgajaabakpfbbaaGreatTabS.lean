/-
 The tables of functions that the evaluator runs, printed by a program (wip/tools/evtab.py).
-/
import Derived.KernelRfl
import Derived.Test.YtgajaabakpfbbaaGreatGRCode
import Derived.Test.YtgajaabakpfbbaaGreatEvG
import Derived.Test.YtgajaabakpfbbaaGreatXN
namespace Go.Proofs.YtgajaabakpfbbaaGreat
open Go.Eng
set_option maxRecDepth 100000
noncomputable def ts:List (Nat × FDef):=[(22,.ext nextG),(21,.ext (evX ta1 10000 60 21)),(10,.code (cs Tryz.f10) 41 (cr Tryz.f10))]
theorem ts_ok:TbOk Tryz.prog ts :=
 ⟨next_ext,
 ⟨fd_pure mixed ta1_ok rfl,
 ⟨fd_codeC Tryz.func10 rfl rfl rfl (by kernel_rfl),
 trivial⟩⟩⟩
end Go.Proofs.YtgajaabakpfbbaaGreat
