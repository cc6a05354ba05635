/-
 The tables of functions that the evaluator runs, printed by a program (wip/tools/evtab.py).
-/
import Derived.KernelRfl
import Derived.Test.YtkimongfladmfaaGreatDoorGRCode
import Derived.Test.YtkimongfladmfaaGreatDoorEvG
import Derived.Test.YtkimongfladmfaaGreatDoorTKC
namespace Go.Proofs.YtkimongfladmfaaGreatDoor
open Go.Eng
set_option maxRecDepth 100000
noncomputable def tp:List (Nat × FDef):=[(230,.code (cs Tryz.f230) 2 (cr Tryz.f230)),(228,.code (cs Tryz.f228) 2 (cr Tryz.f228)),(214,.code (cs Tryz.f214) 25 (cr Tryz.f214)),(227,.code (cs Tryz.f227) 2 (cr Tryz.f227)),(226,.code (cs Tryz.f226) 6 (cr Tryz.f226)),(224,.code (cs Tryz.f224) 6 (cr Tryz.f224)),(223,.code (cs Tryz.f223) 6 (cr Tryz.f223)),(222,.code (cs Tryz.f222) 20 (cr Tryz.f222)),(213,.code (cs Tryz.f213) 55 (cr Tryz.f213)),(197,.code (cs Tryz.f197) 9 (cr Tryz.f197)),(196,.ext (evX ta0 10000 60 196)),(195,.ext (evX ta0 10000 60 195)),(194,.code (cs Tryz.f194) 19 (cr Tryz.f194)),(193,.code (cs Tryz.f193) 35 (cr Tryz.f193)),(180,.code (cs Tryz.f180) 19 (cr Tryz.f180)),(179,.code (cs Tryz.f179) 21 (cr Tryz.f179)),(178,.code (cs Tryz.f178) 40 (cr Tryz.f178)),(177,.code (cs Tryz.f177) 9 (cr Tryz.f177)),(161,.code (cs Tryz.f161) 30 (cr Tryz.f161)),(160,.code (cs Tryz.f160) 21 (cr Tryz.f160)),(159,.code (cs Tryz.f159) 64 (cr Tryz.f159)),(158,.code (cs Tryz.f158) 42 (cr Tryz.f158)),(157,.code (cs Tryz.f157) 27 (cr Tryz.f157)),(156,.ext (evX ta1 10000 60 156)),(155,.code (cs Tryz.f155) 16 (cr Tryz.f155)),(154,.code (cs Tryz.f154) 28 (cr Tryz.f154)),(153,.code (cs Tryz.f153) 11 (cr Tryz.f153)),(126,.code (cs Tryz.f126) 27 (cr Tryz.f126)),(125,.code (cs Tryz.f125) 9 (cr Tryz.f125)),(124,.code (cs Tryz.f124) 76 (cr Tryz.f124)),(122,.code (cs Tryz.f122) 30 (cr Tryz.f122)),(123,.code (cs Tryz.f123) 66 (cr Tryz.f123)),(121,.code (cs Tryz.f121) 45 (cr Tryz.f121)),(120,.code (cs Tryz.f120) 10 (cr Tryz.f120)),(91,.ext checkG),(89,.catch_),(90,.code (cs Tryz.f90) 33 (cr Tryz.f90)),(88,.ext scanG),(53,.code (cs Tryz.f53) 57 (cr Tryz.f53))]
theorem tp_ok:TbOk Tryz.prog tp :=
 ⟨fd_codeC Tryz.func230 rfl rfl rfl (by kernel_rfl),
 ⟨fd_codeC Tryz.func228 rfl rfl rfl (by kernel_rfl),
 ⟨fd_codeC Tryz.func214 rfl rfl rfl (by kernel_rfl),
 ⟨fd_codeC Tryz.func227 rfl rfl rfl (by kernel_rfl),
 ⟨fd_codeC Tryz.func226 rfl rfl rfl (by kernel_rfl),
 ⟨fd_codeC Tryz.func224 rfl rfl rfl (by kernel_rfl),
 ⟨fd_codeC Tryz.func223 rfl rfl rfl (by kernel_rfl),
 ⟨fd_codeC Tryz.func222 rfl rfl rfl (by kernel_rfl),
 ⟨fd_codeC Tryz.func213 rfl rfl rfl (by kernel_rfl),
 ⟨fd_codeC Tryz.func197 rfl rfl rfl (by kernel_rfl),
 ⟨fd_pure mixed ta0_ok rfl,
 ⟨fd_pure mixed ta0_ok rfl,
 ⟨fd_codeC Tryz.func194 rfl rfl rfl (by kernel_rfl),
 ⟨fd_codeC Tryz.func193 rfl rfl rfl (by kernel_rfl),
 ⟨fd_codeC Tryz.func180 rfl rfl rfl (by kernel_rfl),
 ⟨fd_codeC Tryz.func179 rfl rfl rfl (by kernel_rfl),
 ⟨fd_codeC Tryz.func178 rfl rfl rfl (by kernel_rfl),
 ⟨fd_codeC Tryz.func177 rfl rfl rfl (by kernel_rfl),
 ⟨fd_codeC Tryz.func161 rfl rfl rfl (by kernel_rfl),
 ⟨fd_codeC Tryz.func160 rfl rfl rfl (by kernel_rfl),
 ⟨fd_codeC Tryz.func159 rfl rfl rfl (by kernel_rfl),
 ⟨fd_codeC Tryz.func158 rfl rfl rfl (by kernel_rfl),
 ⟨fd_codeC Tryz.func157 rfl rfl rfl (by kernel_rfl),
 ⟨fd_pure mixed ta1_ok rfl,
 ⟨fd_codeC Tryz.func155 rfl rfl rfl (by kernel_rfl),
 ⟨fd_codeC Tryz.func154 rfl rfl rfl (by kernel_rfl),
 ⟨fd_codeC Tryz.func153 rfl rfl rfl (by kernel_rfl),
 ⟨fd_codeC Tryz.func126 rfl rfl rfl (by kernel_rfl),
 ⟨fd_codeC Tryz.func125 rfl rfl rfl (by kernel_rfl),
 ⟨fd_codeC Tryz.func124 rfl rfl rfl (by kernel_rfl),
 ⟨fd_codeC Tryz.func122 rfl rfl rfl (by kernel_rfl),
 ⟨fd_codeC Tryz.func123 rfl rfl rfl (by kernel_rfl),
 ⟨fd_codeC Tryz.func121 rfl rfl rfl (by kernel_rfl),
 ⟨fd_codeC Tryz.func120 rfl rfl rfl (by kernel_rfl),
 ⟨check_ext,
 ⟨catch_ok,
 ⟨fd_codeC Tryz.func90 rfl rfl rfl (by kernel_rfl),
 ⟨scan_ext,
 ⟨fd_codeC Tryz.func53 rfl rfl rfl (by kernel_rfl),
 trivial⟩⟩⟩⟩⟩⟩⟩⟩⟩⟩⟩⟩⟩⟩⟩⟩⟩⟩⟩⟩⟩⟩⟩⟩⟩⟩⟩⟩⟩⟩⟩⟩⟩⟩⟩⟩⟩⟩⟩
end Go.Proofs.YtkimongfladmfaaGreatDoor
