/-
 The tables of functions that the evaluator runs, printed by a program (wip/tools/evtab.py).
-/
import Derived.KernelRfl
import Derived.Test.YtgajaabakpfbbaaGreatDoorGRCode
import Derived.Test.YtgajaabakpfbbaaGreatDoorEvG
import Derived.Test.YtgajaabakpfbbaaGreatDoorXC
namespace Go.Proofs.YtgajaabakpfbbaaGreatDoor
open Go.Eng
set_option maxRecDepth 100000
noncomputable def tp:List (Nat × J7t):=[(239,.code (cs Tryz.f239) 2 (cr Tryz.f239)),(237,.code (cs Tryz.f237) 2 (cr Tryz.f237)),(223,.code (cs Tryz.f223) 25 (cr Tryz.f223)),(236,.code (cs Tryz.f236) 2 (cr Tryz.f236)),(235,.code (cs Tryz.f235) 6 (cr Tryz.f235)),(233,.code (cs Tryz.f233) 6 (cr Tryz.f233)),(232,.code (cs Tryz.f232) 6 (cr Tryz.f232)),(231,.code (cs Tryz.f231) 20 (cr Tryz.f231)),(222,.code (cs Tryz.f222) 55 (cr Tryz.f222)),(206,.code (cs Tryz.f206) 9 (cr Tryz.f206)),(205,.ext (evX ta0 10000 60 205)),(204,.ext (evX ta0 10000 60 204)),(203,.code (cs Tryz.f203) 19 (cr Tryz.f203)),(202,.code (cs Tryz.f202) 35 (cr Tryz.f202)),(188,.code (cs Tryz.f188) 19 (cr Tryz.f188)),(187,.code (cs Tryz.f187) 21 (cr Tryz.f187)),(186,.code (cs Tryz.f186) 40 (cr Tryz.f186)),(185,.code (cs Tryz.f185) 9 (cr Tryz.f185)),(163,.code (cs Tryz.f163) 30 (cr Tryz.f163)),(162,.code (cs Tryz.f162) 21 (cr Tryz.f162)),(161,.code (cs Tryz.f161) 64 (cr Tryz.f161)),(160,.code (cs Tryz.f160) 42 (cr Tryz.f160)),(159,.code (cs Tryz.f159) 27 (cr Tryz.f159)),(158,.ext (evX ta1 10000 60 158)),(157,.code (cs Tryz.f157) 16 (cr Tryz.f157)),(156,.code (cs Tryz.f156) 28 (cr Tryz.f156)),(155,.code (cs Tryz.f155) 11 (cr Tryz.f155)),(122,.code (cs Tryz.f122) 27 (cr Tryz.f122)),(121,.code (cs Tryz.f121) 9 (cr Tryz.f121)),(120,.code (cs Tryz.f120) 76 (cr Tryz.f120)),(118,.code (cs Tryz.f118) 30 (cr Tryz.f118)),(119,.code (cs Tryz.f119) 66 (cr Tryz.f119)),(117,.code (cs Tryz.f117) 45 (cr Tryz.f117)),(116,.code (cs Tryz.f116) 10 (cr Tryz.f116)),(90,.ext checkG),(88,.catch_),(89,.code (cs Tryz.f89) 33 (cr Tryz.f89)),(87,.ext scanG),(58,.code (cs Tryz.f58) 57 (cr Tryz.f58))]
theorem tp_ok:TbOk Tryz.prog tp :=
 ⟨J0c Tryz.func239 rfl rfl rfl (by kernel_rfl),
 ⟨J0c Tryz.func237 rfl rfl rfl (by kernel_rfl),
 ⟨J0c Tryz.func223 rfl rfl rfl (by kernel_rfl),
 ⟨J0c Tryz.func236 rfl rfl rfl (by kernel_rfl),
 ⟨J0c Tryz.func235 rfl rfl rfl (by kernel_rfl),
 ⟨J0c Tryz.func233 rfl rfl rfl (by kernel_rfl),
 ⟨J0c Tryz.func232 rfl rfl rfl (by kernel_rfl),
 ⟨J0c Tryz.func231 rfl rfl rfl (by kernel_rfl),
 ⟨J0c Tryz.func222 rfl rfl rfl (by kernel_rfl),
 ⟨J0c Tryz.func206 rfl rfl rfl (by kernel_rfl),
 ⟨J0I J0a J3b rfl,
 ⟨J0I J0a J3b rfl,
 ⟨J0c Tryz.func203 rfl rfl rfl (by kernel_rfl),
 ⟨J0c Tryz.func202 rfl rfl rfl (by kernel_rfl),
 ⟨J0c Tryz.func188 rfl rfl rfl (by kernel_rfl),
 ⟨J0c Tryz.func187 rfl rfl rfl (by kernel_rfl),
 ⟨J0c Tryz.func186 rfl rfl rfl (by kernel_rfl),
 ⟨J0c Tryz.func185 rfl rfl rfl (by kernel_rfl),
 ⟨J0c Tryz.func163 rfl rfl rfl (by kernel_rfl),
 ⟨J0c Tryz.func162 rfl rfl rfl (by kernel_rfl),
 ⟨J0c Tryz.func161 rfl rfl rfl (by kernel_rfl),
 ⟨J0c Tryz.func160 rfl rfl rfl (by kernel_rfl),
 ⟨J0c Tryz.func159 rfl rfl rfl (by kernel_rfl),
 ⟨J0I J0a ta1_ok rfl,
 ⟨J0c Tryz.func157 rfl rfl rfl (by kernel_rfl),
 ⟨J0c Tryz.func156 rfl rfl rfl (by kernel_rfl),
 ⟨J0c Tryz.func155 rfl rfl rfl (by kernel_rfl),
 ⟨J0c Tryz.func122 rfl rfl rfl (by kernel_rfl),
 ⟨J0c Tryz.func121 rfl rfl rfl (by kernel_rfl),
 ⟨J0c Tryz.func120 rfl rfl rfl (by kernel_rfl),
 ⟨J0c Tryz.func118 rfl rfl rfl (by kernel_rfl),
 ⟨J0c Tryz.func119 rfl rfl rfl (by kernel_rfl),
 ⟨J0c Tryz.func117 rfl rfl rfl (by kernel_rfl),
 ⟨J0c Tryz.func116 rfl rfl rfl (by kernel_rfl),
 ⟨check_ext,
 ⟨catch_ok,
 ⟨J0c Tryz.func89 rfl rfl rfl (by kernel_rfl),
 ⟨scan_ext,
 ⟨J0c Tryz.func58 rfl rfl rfl (by kernel_rfl),
 trivial⟩⟩⟩⟩⟩⟩⟩⟩⟩⟩⟩⟩⟩⟩⟩⟩⟩⟩⟩⟩⟩⟩⟩⟩⟩⟩⟩⟩⟩⟩⟩⟩⟩⟩⟩⟩⟩⟩⟩
end Go.Proofs.YtgajaabakpfbbaaGreatDoor
