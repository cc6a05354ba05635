/-
 The tables of functions that the evaluator runs, printed by a program (wip/tools/evtab.py).
-/
import Derived.KernelRfl
import Derived.Test.YtpgkdcekpineaaaGreatDoorGRCode
import Derived.Test.YtpgkdcekpineaaaGreatDoorEvG
import Derived.Test.YtpgkdcekpineaaaGreatDoorTWC
namespace Go.Proofs.YtpgkdcekpineaaaGreatDoor
open Go.Eng
set_option maxRecDepth 100000
noncomputable def tp:List (Nat × FDef):=[(213,.code (cs Tryz.f213) 2 (cr Tryz.f213)),(207,.code (cs Tryz.f207) 2 (cr Tryz.f207)),(188,.code (cs Tryz.f188) 25 (cr Tryz.f188)),(206,.code (cs Tryz.f206) 2 (cr Tryz.f206)),(205,.code (cs Tryz.f205) 6 (cr Tryz.f205)),(198,.code (cs Tryz.f198) 6 (cr Tryz.f198)),(197,.code (cs Tryz.f197) 6 (cr Tryz.f197)),(196,.code (cs Tryz.f196) 20 (cr Tryz.f196)),(187,.code (cs Tryz.f187) 55 (cr Tryz.f187)),(169,.code (cs Tryz.f169) 9 (cr Tryz.f169)),(168,.ext (evX ta0 10000 60 168)),(167,.ext (evX ta0 10000 60 167)),(166,.code (cs Tryz.f166) 19 (cr Tryz.f166)),(165,.code (cs Tryz.f165) 35 (cr Tryz.f165)),(145,.code (cs Tryz.f145) 19 (cr Tryz.f145)),(144,.code (cs Tryz.f144) 21 (cr Tryz.f144)),(143,.code (cs Tryz.f143) 40 (cr Tryz.f143)),(142,.code (cs Tryz.f142) 9 (cr Tryz.f142)),(114,.code (cs Tryz.f114) 30 (cr Tryz.f114)),(113,.code (cs Tryz.f113) 21 (cr Tryz.f113)),(112,.code (cs Tryz.f112) 64 (cr Tryz.f112)),(111,.code (cs Tryz.f111) 42 (cr Tryz.f111)),(110,.code (cs Tryz.f110) 27 (cr Tryz.f110)),(109,.ext (evX ta1 10000 60 109)),(108,.code (cs Tryz.f108) 16 (cr Tryz.f108)),(107,.code (cs Tryz.f107) 28 (cr Tryz.f107)),(106,.code (cs Tryz.f106) 11 (cr Tryz.f106)),(64,.code (cs Tryz.f64) 27 (cr Tryz.f64)),(63,.code (cs Tryz.f63) 9 (cr Tryz.f63)),(62,.code (cs Tryz.f62) 76 (cr Tryz.f62)),(60,.code (cs Tryz.f60) 30 (cr Tryz.f60)),(61,.code (cs Tryz.f61) 66 (cr Tryz.f61)),(59,.code (cs Tryz.f59) 45 (cr Tryz.f59)),(58,.code (cs Tryz.f58) 10 (cr Tryz.f58)),(31,.ext checkG),(29,.catch_),(30,.code (cs Tryz.f30) 33 (cr Tryz.f30)),(28,.ext scanG),(6,.code (cs Tryz.f6) 57 (cr Tryz.f6))]
theorem tp_ok:TbOk Tryz.prog tp :=
 ⟨fd_codeC Tryz.func213 rfl rfl rfl (by kernel_rfl),
 ⟨fd_codeC Tryz.func207 rfl rfl rfl (by kernel_rfl),
 ⟨fd_codeC Tryz.func188 rfl rfl rfl (by kernel_rfl),
 ⟨fd_codeC Tryz.func206 rfl rfl rfl (by kernel_rfl),
 ⟨fd_codeC Tryz.func205 rfl rfl rfl (by kernel_rfl),
 ⟨fd_codeC Tryz.func198 rfl rfl rfl (by kernel_rfl),
 ⟨fd_codeC Tryz.func197 rfl rfl rfl (by kernel_rfl),
 ⟨fd_codeC Tryz.func196 rfl rfl rfl (by kernel_rfl),
 ⟨fd_codeC Tryz.func187 rfl rfl rfl (by kernel_rfl),
 ⟨fd_codeC Tryz.func169 rfl rfl rfl (by kernel_rfl),
 ⟨fd_pure mixed ta0_ok rfl,
 ⟨fd_pure mixed ta0_ok rfl,
 ⟨fd_codeC Tryz.func166 rfl rfl rfl (by kernel_rfl),
 ⟨fd_codeC Tryz.func165 rfl rfl rfl (by kernel_rfl),
 ⟨fd_codeC Tryz.func145 rfl rfl rfl (by kernel_rfl),
 ⟨fd_codeC Tryz.func144 rfl rfl rfl (by kernel_rfl),
 ⟨fd_codeC Tryz.func143 rfl rfl rfl (by kernel_rfl),
 ⟨fd_codeC Tryz.func142 rfl rfl rfl (by kernel_rfl),
 ⟨fd_codeC Tryz.func114 rfl rfl rfl (by kernel_rfl),
 ⟨fd_codeC Tryz.func113 rfl rfl rfl (by kernel_rfl),
 ⟨fd_codeC Tryz.func112 rfl rfl rfl (by kernel_rfl),
 ⟨fd_codeC Tryz.func111 rfl rfl rfl (by kernel_rfl),
 ⟨fd_codeC Tryz.func110 rfl rfl rfl (by kernel_rfl),
 ⟨fd_pure mixed ta1_ok rfl,
 ⟨fd_codeC Tryz.func108 rfl rfl rfl (by kernel_rfl),
 ⟨fd_codeC Tryz.func107 rfl rfl rfl (by kernel_rfl),
 ⟨fd_codeC Tryz.func106 rfl rfl rfl (by kernel_rfl),
 ⟨fd_codeC Tryz.func64 rfl rfl rfl (by kernel_rfl),
 ⟨fd_codeC Tryz.func63 rfl rfl rfl (by kernel_rfl),
 ⟨fd_codeC Tryz.func62 rfl rfl rfl (by kernel_rfl),
 ⟨fd_codeC Tryz.func60 rfl rfl rfl (by kernel_rfl),
 ⟨fd_codeC Tryz.func61 rfl rfl rfl (by kernel_rfl),
 ⟨fd_codeC Tryz.func59 rfl rfl rfl (by kernel_rfl),
 ⟨fd_codeC Tryz.func58 rfl rfl rfl (by kernel_rfl),
 ⟨check_ext,
 ⟨catch_ok,
 ⟨fd_codeC Tryz.func30 rfl rfl rfl (by kernel_rfl),
 ⟨scan_ext,
 ⟨fd_codeC Tryz.func6 rfl rfl rfl (by kernel_rfl),
 trivial⟩⟩⟩⟩⟩⟩⟩⟩⟩⟩⟩⟩⟩⟩⟩⟩⟩⟩⟩⟩⟩⟩⟩⟩⟩⟩⟩⟩⟩⟩⟩⟩⟩⟩⟩⟩⟩⟩⟩
end Go.Proofs.YtpgkdcekpineaaaGreatDoor
