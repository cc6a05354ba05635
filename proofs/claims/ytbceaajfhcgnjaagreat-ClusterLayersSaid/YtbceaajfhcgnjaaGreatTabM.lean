/-
 The tables of functions that the evaluator runs, printed by a program (wip/tools/evtab.py).
-/
import Derived.KernelRfl
import Derived.Test.YtbceaajfhcgnjaaGreatGRCode
import Derived.Test.YtbceaajfhcgnjaaGreatEvX2
import Derived.Test.YtbceaajfhcgnjaaGreatLY3
namespace Go.Proofs.YtbceaajfhcgnjaaGreat
open Go.Eng
set_option maxRecDepth 100000
noncomputable def tm:List (Nat×FDef):=[(139,.code (cs Tryz.f139) 9 (cr Tryz.f139)),(138,.code (cs Tryz.f138) 10 (cr Tryz.f138)),(137,.code (cs Tryz.f137) 7 (cr Tryz.f137)),(136,.code (cs Tryz.f136) 61 (cr Tryz.f136)),(135,.code sc135 19 rv135),(118,.code (cs Tryz.f118) 11 (cr Tryz.f118)),(117,.code (cs Tryz.f117) 11 (cr Tryz.f117)),(116,.code (cs Tryz.f116) 32 (cr Tryz.f116)),(115,.code sc115 37 rv115),(87,.code (cs Tryz.f87) 36 (cr Tryz.f87)),(86,.code (cs Tryz.f86) 19 (cr Tryz.f86)),(54,.code (cs Tryz.f54) 9 (cr Tryz.f54)),(62,.code (cs Tryz.f62) 34 (cr Tryz.f62)),(55,.code (cs Tryz.f55) 61 (cr Tryz.f55)),(52,.code (cs Tryz.f52) 9 (cr Tryz.f52)),(53,.code (cs Tryz.f53) 8 (cr Tryz.f53)),(51,.code (cs Tryz.f51) 19 (cr Tryz.f51)),(49,.code (cs Tryz.f49) 19 (cr Tryz.f49)),(50,.code (cs Tryz.f50) 8 (cr Tryz.f50)),(39,.code (cs Tryz.f39) 26 (cr Tryz.f39)),(40,.code (cs Tryz.f40) 38 (cr Tryz.f40)),(34,.code (cs Tryz.f34) 20 (cr Tryz.f34)),(33,.code (cs Tryz.f33) 21 (cr Tryz.f33)),(31,.code (cs Tryz.f31) 49 (cr Tryz.f31)),(32,.code (cs Tryz.f32) 24 (cr Tryz.f32)),(30,.code (cs Tryz.f30) 9 (cr Tryz.f30)),(28,.code (cs Tryz.f28) 9 (cr Tryz.f28)),(29,.code (cs Tryz.f29) 14 (cr Tryz.f29)),(27,.code (cs Tryz.f27) 9 (cr Tryz.f27)),(26,.code (cs Tryz.f26) 8 (cr Tryz.f26)),(25,.ext validG),(13,.code (cs Tryz.f13) 126 (cr Tryz.f13)),(14,.code (cs Tryz.f14) 41 (cr Tryz.f14)),(11,.code (cs Tryz.f11) 90 (cr Tryz.f11)),(9,.code (cs Tryz.f9) 145 (cr Tryz.f9))]
theorem tm_ok:TbOk Tryz.prog tm :=
 ⟨fd_codeC Tryz.func139 rfl rfl rfl (by kernel_rfl),
 ⟨fd_codeC Tryz.func138 rfl rfl rfl (by kernel_rfl),
 ⟨fd_codeC Tryz.func137 rfl rfl rfl (by kernel_rfl),
 ⟨fd_codeC Tryz.func136 rfl rfl rfl (by kernel_rfl),
 ⟨fd_code Tryz.func135 rfl rfl rfl hc135 hr135,
 ⟨fd_codeC Tryz.func118 rfl rfl rfl (by kernel_rfl),
 ⟨fd_codeC Tryz.func117 rfl rfl rfl (by kernel_rfl),
 ⟨fd_codeC Tryz.func116 rfl rfl rfl (by kernel_rfl),
 ⟨fd_code Tryz.func115 rfl rfl rfl hc115 hr115,
 ⟨fd_codeC Tryz.func87 rfl rfl rfl (by kernel_rfl),
 ⟨fd_codeC Tryz.func86 rfl rfl rfl (by kernel_rfl),
 ⟨fd_codeC Tryz.func54 rfl rfl rfl (by kernel_rfl),
 ⟨fd_codeC Tryz.func62 rfl rfl rfl (by kernel_rfl),
 ⟨fd_codeC Tryz.func55 rfl rfl rfl (by kernel_rfl),
 ⟨fd_codeC Tryz.func52 rfl rfl rfl (by kernel_rfl),
 ⟨fd_codeC Tryz.func53 rfl rfl rfl (by kernel_rfl),
 ⟨fd_codeC Tryz.func51 rfl rfl rfl (by kernel_rfl),
 ⟨fd_codeC Tryz.func49 rfl rfl rfl (by kernel_rfl),
 ⟨fd_codeC Tryz.func50 rfl rfl rfl (by kernel_rfl),
 ⟨fd_codeC Tryz.func39 rfl rfl rfl (by kernel_rfl),
 ⟨fd_codeC Tryz.func40 rfl rfl rfl (by kernel_rfl),
 ⟨fd_codeC Tryz.func34 rfl rfl rfl (by kernel_rfl),
 ⟨fd_codeC Tryz.func33 rfl rfl rfl (by kernel_rfl),
 ⟨fd_codeC Tryz.func31 rfl rfl rfl (by kernel_rfl),
 ⟨fd_codeC Tryz.func32 rfl rfl rfl (by kernel_rfl),
 ⟨fd_codeC Tryz.func30 rfl rfl rfl (by kernel_rfl),
 ⟨fd_codeC Tryz.func28 rfl rfl rfl (by kernel_rfl),
 ⟨fd_codeC Tryz.func29 rfl rfl rfl (by kernel_rfl),
 ⟨fd_codeC Tryz.func27 rfl rfl rfl (by kernel_rfl),
 ⟨fd_codeC Tryz.func26 rfl rfl rfl (by kernel_rfl),
 ⟨valid_ext,
 ⟨fd_codeC Tryz.func13 rfl rfl rfl (by kernel_rfl),
 ⟨fd_codeC Tryz.func14 rfl rfl rfl (by kernel_rfl),
 ⟨fd_codeC Tryz.func11 rfl rfl rfl (by kernel_rfl),
 ⟨fd_codeC Tryz.func9 rfl rfl rfl (by kernel_rfl),
 trivial⟩⟩⟩⟩⟩⟩⟩⟩⟩⟩⟩⟩⟩⟩⟩⟩⟩⟩⟩⟩⟩⟩⟩⟩⟩⟩⟩⟩⟩⟩⟩⟩⟩⟩⟩
end Go.Proofs.YtbceaajfhcgnjaaGreat
