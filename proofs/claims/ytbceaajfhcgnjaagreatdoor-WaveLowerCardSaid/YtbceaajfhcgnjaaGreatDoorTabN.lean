/-
 Tables, printed by a program.
-/
import Derived.KernelRfl
import Derived.Test.YtbceaajfhcgnjaaGreatDoorGRCode
import Derived.Test.YtbceaajfhcgnjaaGreatDoorEvG
import Derived.Test.YtbceaajfhcgnjaaGreatDoorWLA
namespace Go.Proofs.YtbceaajfhcgnjaaGreatDoor
open Go.Eng
set_option maxRecDepth 100000
noncomputable def tn:List (Nat×FDef):=[(177,.code (cs Tryz.f177) 9 (cr Tryz.f177)),(176,.code (cs Tryz.f176) 10 (cr Tryz.f176)),(175,.code (cs Tryz.f175) 7 (cr Tryz.f175)),(174,.code (cs Tryz.f174) 61 (cr Tryz.f174)),(173,.code sc173 19 rv173),(159,.code (cs Tryz.f159) 11 (cr Tryz.f159)),(158,.code (cs Tryz.f158) 11 (cr Tryz.f158)),(157,.code (cs Tryz.f157) 32 (cr Tryz.f157)),(156,.code sc156 37 rv156),(124,.code (cs Tryz.f124) 36 (cr Tryz.f124)),(123,.code (cs Tryz.f123) 34 (cr Tryz.f123)),(81,.code (cs Tryz.f81) 61 (cr Tryz.f81)),(80,.code (cs Tryz.f80) 38 (cr Tryz.f80)),(47,.code (cs Tryz.f47) 26 (cr Tryz.f47)),(46,.code (cs Tryz.f46) 49 (cr Tryz.f46)),(45,.code (cs Tryz.f45) 20 (cr Tryz.f45)),(44,.code sc44 21 rv44),(43,.code (cs Tryz.f43) 41 (cr Tryz.f43)),(42,.ext validG),(19,.code (cs Tryz.f19) 126 (cr Tryz.f19)),(18,.code (cs Tryz.f18) 90 (cr Tryz.f18))]
theorem tn_ok:TbOk Tryz.prog tn :=
 ⟨fd_codeC Tryz.func177 rfl rfl rfl (by kernel_rfl),
 ⟨fd_codeC Tryz.func176 rfl rfl rfl (by kernel_rfl),
 ⟨fd_codeC Tryz.func175 rfl rfl rfl (by kernel_rfl),
 ⟨fd_codeC Tryz.func174 rfl rfl rfl (by kernel_rfl),
 ⟨fd_code Tryz.func173 rfl rfl rfl hc173 hr173,
 ⟨fd_codeC Tryz.func159 rfl rfl rfl (by kernel_rfl),
 ⟨fd_codeC Tryz.func158 rfl rfl rfl (by kernel_rfl),
 ⟨fd_codeC Tryz.func157 rfl rfl rfl (by kernel_rfl),
 ⟨fd_code Tryz.func156 rfl rfl rfl hc156 hr156,
 ⟨fd_codeC Tryz.func124 rfl rfl rfl (by kernel_rfl),
 ⟨fd_codeC Tryz.func123 rfl rfl rfl (by kernel_rfl),
 ⟨fd_codeC Tryz.func81 rfl rfl rfl (by kernel_rfl),
 ⟨fd_codeC Tryz.func80 rfl rfl rfl (by kernel_rfl),
 ⟨fd_codeC Tryz.func47 rfl rfl rfl (by kernel_rfl),
 ⟨fd_codeC Tryz.func46 rfl rfl rfl (by kernel_rfl),
 ⟨fd_codeC Tryz.func45 rfl rfl rfl (by kernel_rfl),
 ⟨fd_code Tryz.func44 rfl rfl rfl hc44 hr44,
 ⟨fd_codeC Tryz.func43 rfl rfl rfl (by kernel_rfl),
 ⟨valid_ext,
 ⟨fd_codeC Tryz.func19 rfl rfl rfl (by kernel_rfl),
 ⟨fd_codeC Tryz.func18 rfl rfl rfl (by kernel_rfl),
 trivial⟩⟩⟩⟩⟩⟩⟩⟩⟩⟩⟩⟩⟩⟩⟩⟩⟩⟩⟩⟩⟩
end Go.Proofs.YtbceaajfhcgnjaaGreatDoor
