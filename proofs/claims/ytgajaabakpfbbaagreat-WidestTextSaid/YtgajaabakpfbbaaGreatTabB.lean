/-
 The tables of functions that the evaluator runs, printed by a program (wip/tools/evtab.py).
-/
import Derived.KernelRfl
import Derived.Test.YtgajaabakpfbbaaGreatGRCode
import Derived.Test.YtgajaabakpfbbaaGreatEvG
import Derived.Test.YtgajaabakpfbbaaGreatXC
namespace Go.Proofs.YtgajaabakpfbbaaGreat
open Go.Eng
set_option maxRecDepth 100000
noncomputable def tp:List (Nat × FDef):=[(146,.code (cs Tryz.f146) 2 (cr Tryz.f146)),(145,.code (cs Tryz.f145) 2 (cr Tryz.f145)),(130,.code (cs Tryz.f130) 25 (cr Tryz.f130)),(144,.code (cs Tryz.f144) 2 (cr Tryz.f144)),(143,.code (cs Tryz.f143) 6 (cr Tryz.f143)),(141,.code (cs Tryz.f141) 6 (cr Tryz.f141)),(140,.code (cs Tryz.f140) 6 (cr Tryz.f140)),(139,.code (cs Tryz.f139) 20 (cr Tryz.f139)),(129,.code (cs Tryz.f129) 55 (cr Tryz.f129)),(109,.code (cs Tryz.f109) 9 (cr Tryz.f109)),(108,.ext (evX ta0 10000 60 108)),(107,.ext (evX ta0 10000 60 107)),(106,.code (cs Tryz.f106) 19 (cr Tryz.f106)),(105,.code (cs Tryz.f105) 35 (cr Tryz.f105)),(89,.code (cs Tryz.f89) 19 (cr Tryz.f89)),(88,.code (cs Tryz.f88) 21 (cr Tryz.f88)),(87,.code (cs Tryz.f87) 40 (cr Tryz.f87)),(86,.code (cs Tryz.f86) 9 (cr Tryz.f86)),(65,.code (cs Tryz.f65) 30 (cr Tryz.f65)),(64,.code (cs Tryz.f64) 21 (cr Tryz.f64)),(63,.code (cs Tryz.f63) 64 (cr Tryz.f63)),(62,.code (cs Tryz.f62) 42 (cr Tryz.f62)),(61,.code (cs Tryz.f61) 27 (cr Tryz.f61)),(60,.ext (evX ta1 10000 60 60)),(59,.code (cs Tryz.f59) 16 (cr Tryz.f59)),(58,.code (cs Tryz.f58) 28 (cr Tryz.f58)),(57,.code (cs Tryz.f57) 11 (cr Tryz.f57)),(31,.code (cs Tryz.f31) 27 (cr Tryz.f31)),(30,.code (cs Tryz.f30) 9 (cr Tryz.f30)),(29,.code (cs Tryz.f29) 76 (cr Tryz.f29)),(27,.code (cs Tryz.f27) 30 (cr Tryz.f27)),(28,.code (cs Tryz.f28) 66 (cr Tryz.f28)),(26,.code (cs Tryz.f26) 45 (cr Tryz.f26)),(25,.code (cs Tryz.f25) 10 (cr Tryz.f25)),(13,.ext checkG),(11,.catch_),(12,.code (cs Tryz.f12) 33 (cr Tryz.f12)),(10,.ext scanG),(4,.code (cs Tryz.f4) 57 (cr Tryz.f4))]
theorem tp_ok:TbOk Tryz.prog tp :=
 ⟨fd_codeC Tryz.func146 rfl rfl rfl (by kernel_rfl),
 ⟨fd_codeC Tryz.func145 rfl rfl rfl (by kernel_rfl),
 ⟨fd_codeC Tryz.func130 rfl rfl rfl (by kernel_rfl),
 ⟨fd_codeC Tryz.func144 rfl rfl rfl (by kernel_rfl),
 ⟨fd_codeC Tryz.func143 rfl rfl rfl (by kernel_rfl),
 ⟨fd_codeC Tryz.func141 rfl rfl rfl (by kernel_rfl),
 ⟨fd_codeC Tryz.func140 rfl rfl rfl (by kernel_rfl),
 ⟨fd_codeC Tryz.func139 rfl rfl rfl (by kernel_rfl),
 ⟨fd_codeC Tryz.func129 rfl rfl rfl (by kernel_rfl),
 ⟨fd_codeC Tryz.func109 rfl rfl rfl (by kernel_rfl),
 ⟨fd_pure mixed ta0_ok rfl,
 ⟨fd_pure mixed ta0_ok rfl,
 ⟨fd_codeC Tryz.func106 rfl rfl rfl (by kernel_rfl),
 ⟨fd_codeC Tryz.func105 rfl rfl rfl (by kernel_rfl),
 ⟨fd_codeC Tryz.func89 rfl rfl rfl (by kernel_rfl),
 ⟨fd_codeC Tryz.func88 rfl rfl rfl (by kernel_rfl),
 ⟨fd_codeC Tryz.func87 rfl rfl rfl (by kernel_rfl),
 ⟨fd_codeC Tryz.func86 rfl rfl rfl (by kernel_rfl),
 ⟨fd_codeC Tryz.func65 rfl rfl rfl (by kernel_rfl),
 ⟨fd_codeC Tryz.func64 rfl rfl rfl (by kernel_rfl),
 ⟨fd_codeC Tryz.func63 rfl rfl rfl (by kernel_rfl),
 ⟨fd_codeC Tryz.func62 rfl rfl rfl (by kernel_rfl),
 ⟨fd_codeC Tryz.func61 rfl rfl rfl (by kernel_rfl),
 ⟨fd_pure mixed ta1_ok rfl,
 ⟨fd_codeC Tryz.func59 rfl rfl rfl (by kernel_rfl),
 ⟨fd_codeC Tryz.func58 rfl rfl rfl (by kernel_rfl),
 ⟨fd_codeC Tryz.func57 rfl rfl rfl (by kernel_rfl),
 ⟨fd_codeC Tryz.func31 rfl rfl rfl (by kernel_rfl),
 ⟨fd_codeC Tryz.func30 rfl rfl rfl (by kernel_rfl),
 ⟨fd_codeC Tryz.func29 rfl rfl rfl (by kernel_rfl),
 ⟨fd_codeC Tryz.func27 rfl rfl rfl (by kernel_rfl),
 ⟨fd_codeC Tryz.func28 rfl rfl rfl (by kernel_rfl),
 ⟨fd_codeC Tryz.func26 rfl rfl rfl (by kernel_rfl),
 ⟨fd_codeC Tryz.func25 rfl rfl rfl (by kernel_rfl),
 ⟨check_ext,
 ⟨catch_ok,
 ⟨fd_codeC Tryz.func12 rfl rfl rfl (by kernel_rfl),
 ⟨scan_ext,
 ⟨fd_codeC Tryz.func4 rfl rfl rfl (by kernel_rfl),
 trivial⟩⟩⟩⟩⟩⟩⟩⟩⟩⟩⟩⟩⟩⟩⟩⟩⟩⟩⟩⟩⟩⟩⟩⟩⟩⟩⟩⟩⟩⟩⟩⟩⟩⟩⟩⟩⟩⟩⟩
end Go.Proofs.YtgajaabakpfbbaaGreat
