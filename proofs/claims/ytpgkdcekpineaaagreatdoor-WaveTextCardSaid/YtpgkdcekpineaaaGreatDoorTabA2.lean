/-
 The tables of functions that the evaluator runs, printed by a program (wip/tools/evtab.py).
-/
import Derived.KernelRfl
import Derived.Test.YtpgkdcekpineaaaGreatDoorGRCode
import Derived.Test.YtpgkdcekpineaaaGreatDoorEvG
import Derived.Test.YtpgkdcekpineaaaGreatDoorTWS
namespace Go.Proofs.YtpgkdcekpineaaaGreatDoor
open Go.Eng
set_option maxRecDepth 100000
noncomputable def tc0:List (Nat × FDef):=[(175,.code (cs Tryz.f175) 9 (cr Tryz.f175)),(174,.code (cs Tryz.f174) 9 (cr Tryz.f174)),(170,.code sc170 19 rv170),(141,.code (cs Tryz.f141) 33 (cr Tryz.f141)),(103,.code (cs Tryz.f103) 9 (cr Tryz.f103)),(102,.code (cs Tryz.f102) 13 (cr Tryz.f102)),(101,.code (cs Tryz.f101) 17 (cr Tryz.f101))]
theorem tc0_ok:TbOk Tryz.prog tc0 :=
 ⟨fd_codeC Tryz.func175 rfl rfl rfl (by kernel_rfl),
 ⟨fd_codeC Tryz.func174 rfl rfl rfl (by kernel_rfl),
 ⟨fd_code Tryz.func170 rfl rfl rfl hc170 hr170,
 ⟨fd_codeC Tryz.func141 rfl rfl rfl (by kernel_rfl),
 ⟨fd_codeC Tryz.func103 rfl rfl rfl (by kernel_rfl),
 ⟨fd_codeC Tryz.func102 rfl rfl rfl (by kernel_rfl),
 ⟨fd_codeC Tryz.func101 rfl rfl rfl (by kernel_rfl),
 trivial⟩⟩⟩⟩⟩⟩⟩
noncomputable def tc1:List (Nat × FDef):=[(174,.ext (evX tc0 10000 60 174)),(173,.code (cs Tryz.f173) 10 (cr Tryz.f173)),(172,.code (cs Tryz.f172) 7 (cr Tryz.f172)),(171,.code (cs Tryz.f171) 61 (cr Tryz.f171)),(170,.ext (evX tc0 10000 60 170)),(149,.code (cs Tryz.f149) 11 (cr Tryz.f149)),(148,.code (cs Tryz.f148) 11 (cr Tryz.f148)),(147,.code (cs Tryz.f147) 32 (cr Tryz.f147)),(146,.code sc146 37 rv146),(141,.ext (evX tc0 10000 60 141)),(102,.ext (evX tc0 10000 60 102)),(101,.ext (evX tc0 10000 60 101)),(117,.code (cs Tryz.f117) 36 (cr Tryz.f117)),(109,.code (cs Tryz.f109) 32 (cr Tryz.f109))]
theorem tc1_ok:TbOk Tryz.prog tc1 :=
 ⟨fd_pure mixed tc0_ok rfl,
 ⟨fd_codeC Tryz.func173 rfl rfl rfl (by kernel_rfl),
 ⟨fd_codeC Tryz.func172 rfl rfl rfl (by kernel_rfl),
 ⟨fd_codeC Tryz.func171 rfl rfl rfl (by kernel_rfl),
 ⟨fd_pure mixed tc0_ok rfl,
 ⟨fd_codeC Tryz.func149 rfl rfl rfl (by kernel_rfl),
 ⟨fd_codeC Tryz.func148 rfl rfl rfl (by kernel_rfl),
 ⟨fd_codeC Tryz.func147 rfl rfl rfl (by kernel_rfl),
 ⟨fd_code Tryz.func146 rfl rfl rfl hc146 hr146,
 ⟨fd_pure mixed tc0_ok rfl,
 ⟨fd_pure mixed tc0_ok rfl,
 ⟨fd_pure mixed tc0_ok rfl,
 ⟨fd_codeC Tryz.func117 rfl rfl rfl (by kernel_rfl),
 ⟨fd_codeC Tryz.func109 rfl rfl rfl (by kernel_rfl),
 trivial⟩⟩⟩⟩⟩⟩⟩⟩⟩⟩⟩⟩⟩⟩
noncomputable def tc2:List (Nat × FDef):=[(190,.code (cs Tryz.f190) 7 (cr Tryz.f190)),(177,.code (cs Tryz.f177) 98 (cr Tryz.f177)),(174,.ext (evX tc0 10000 60 174)),(176,.code (cs Tryz.f176) 25 (cr Tryz.f176)),(175,.ext (evX tc0 10000 60 175)),(170,.ext (evX tc0 10000 60 170)),(150,.code (cs Tryz.f150) 62 (cr Tryz.f150)),(117,.ext (evX tc1 10000 60 117)),(115,.code (cs Tryz.f115) 13 (cr Tryz.f115)),(118,.code (cs Tryz.f118) 43 (cr Tryz.f118))]
theorem tc2_ok:TbOk Tryz.prog tc2 :=
 ⟨fd_codeC Tryz.func190 rfl rfl rfl (by kernel_rfl),
 ⟨fd_codeC Tryz.func177 rfl rfl rfl (by kernel_rfl),
 ⟨fd_pure mixed tc0_ok rfl,
 ⟨fd_codeC Tryz.func176 rfl rfl rfl (by kernel_rfl),
 ⟨fd_pure mixed tc0_ok rfl,
 ⟨fd_pure mixed tc0_ok rfl,
 ⟨fd_codeC Tryz.func150 rfl rfl rfl (by kernel_rfl),
 ⟨fd_pure mixed tc1_ok rfl,
 ⟨fd_codeC Tryz.func115 rfl rfl rfl (by kernel_rfl),
 ⟨fd_codeC Tryz.func118 rfl rfl rfl (by kernel_rfl),
 trivial⟩⟩⟩⟩⟩⟩⟩⟩⟩⟩
noncomputable def tc:List (Nat × FDef):=[(118,.ext (evX tc2 10000 60 118)),(117,.ext (evX tc1 10000 60 117)),(116,.code (cs Tryz.f116) 15 (cr Tryz.f116)),(115,.code (cs Tryz.f115) 13 (cr Tryz.f115)),(109,.ext (evX tc1 10000 60 109)),(69,.code (cs Tryz.f69) 42 (cr Tryz.f69)),(68,.code (cs Tryz.f68) 25 (cr Tryz.f68)),(67,.code (cs Tryz.f67) 56 (cr Tryz.f67)),(66,.code (cs Tryz.f66) 68 (cr Tryz.f66)),(65,.code (cs Tryz.f65) 57 (cr Tryz.f65)),(31,.code (cs Tryz.f31) 68 (cr Tryz.f31))]
theorem tc_ok:TbOk Tryz.prog tc :=
 ⟨fd_pure mixed tc2_ok rfl,
 ⟨fd_pure mixed tc1_ok rfl,
 ⟨fd_codeC Tryz.func116 rfl rfl rfl (by kernel_rfl),
 ⟨fd_codeC Tryz.func115 rfl rfl rfl (by kernel_rfl),
 ⟨fd_pure mixed tc1_ok rfl,
 ⟨fd_codeC Tryz.func69 rfl rfl rfl (by kernel_rfl),
 ⟨fd_codeC Tryz.func68 rfl rfl rfl (by kernel_rfl),
 ⟨fd_codeC Tryz.func67 rfl rfl rfl (by kernel_rfl),
 ⟨fd_codeC Tryz.func66 rfl rfl rfl (by kernel_rfl),
 ⟨fd_codeC Tryz.func65 rfl rfl rfl (by kernel_rfl),
 ⟨fd_codeC Tryz.func31 rfl rfl rfl (by kernel_rfl),
 trivial⟩⟩⟩⟩⟩⟩⟩⟩⟩⟩⟩
end Go.Proofs.YtpgkdcekpineaaaGreatDoor
