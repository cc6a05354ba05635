/-
 The tables of functions that the evaluator runs, printed by a program (wip/tools/evtab.py).
-/
import Derived.KernelRfl
import Derived.Test.YtpgkdcekpineaaaGreatDoorGRCode
import Derived.Test.YtpgkdcekpineaaaGreatDoorEvG
namespace Go.Proofs.YtpgkdcekpineaaaGreatDoor
open Go.Eng
set_option maxRecDepth 100000
noncomputable def ta0:List (Nat × FDef):=[(188,.code (cs Tryz.f188) 25 (cr Tryz.f188)),(189,.code (cs Tryz.f189) 2 (cr Tryz.f189)),(163,.code (cs Tryz.f163) 18 (cr Tryz.f163)),(175,.code (cs Tryz.f175) 9 (cr Tryz.f175)),(174,.code (cs Tryz.f174) 9 (cr Tryz.f174)),(170,.code sc170 19 rv170),(168,.code (cs Tryz.f168) 27 (cr Tryz.f168)),(167,.code (cs Tryz.f167) 6 (cr Tryz.f167)),(141,.code (cs Tryz.f141) 33 (cr Tryz.f141)),(139,.code (cs Tryz.f139) 8 (cr Tryz.f139)),(103,.code (cs Tryz.f103) 9 (cr Tryz.f103)),(102,.code (cs Tryz.f102) 13 (cr Tryz.f102)),(101,.code (cs Tryz.f101) 17 (cr Tryz.f101))]
theorem ta0_ok:TbOk Tryz.prog ta0 :=
 ⟨fd_codeC Tryz.func188 rfl rfl rfl (by kernel_rfl),
 ⟨fd_codeC Tryz.func189 rfl rfl rfl (by kernel_rfl),
 ⟨fd_codeC Tryz.func163 rfl rfl rfl (by kernel_rfl),
 ⟨fd_codeC Tryz.func175 rfl rfl rfl (by kernel_rfl),
 ⟨fd_codeC Tryz.func174 rfl rfl rfl (by kernel_rfl),
 ⟨fd_code Tryz.func170 rfl rfl rfl hc170 hr170,
 ⟨fd_codeC Tryz.func168 rfl rfl rfl (by kernel_rfl),
 ⟨fd_codeC Tryz.func167 rfl rfl rfl (by kernel_rfl),
 ⟨fd_codeC Tryz.func141 rfl rfl rfl (by kernel_rfl),
 ⟨fd_codeC Tryz.func139 rfl rfl rfl (by kernel_rfl),
 ⟨fd_codeC Tryz.func103 rfl rfl rfl (by kernel_rfl),
 ⟨fd_codeC Tryz.func102 rfl rfl rfl (by kernel_rfl),
 ⟨fd_codeC Tryz.func101 rfl rfl rfl (by kernel_rfl),
 trivial⟩⟩⟩⟩⟩⟩⟩⟩⟩⟩⟩⟩⟩
noncomputable def ta1:List (Nat × FDef):=[(164,.ext idxg),(140,.code (cs Tryz.f140) 8 (cr Tryz.f140)),(139,.ext (evX ta0 10000 60 139)),(141,.ext (evX ta0 10000 60 141)),(102,.ext (evX ta0 10000 60 102)),(101,.ext (evX ta0 10000 60 101)),(54,.code (cs Tryz.f54) 35 (cr Tryz.f54)),(105,.code (cs Tryz.f105) 19 (cr Tryz.f105)),(109,.code (cs Tryz.f109) 32 (cr Tryz.f109))]
theorem ta1_ok:TbOk Tryz.prog ta1 :=
 ⟨idx_ok,
 ⟨fd_codeC Tryz.func140 rfl rfl rfl (by kernel_rfl),
 ⟨fd_pure mixed ta0_ok rfl,
 ⟨fd_pure mixed ta0_ok rfl,
 ⟨fd_pure mixed ta0_ok rfl,
 ⟨fd_pure mixed ta0_ok rfl,
 ⟨fd_codeC Tryz.func54 rfl rfl rfl (by kernel_rfl),
 ⟨fd_codeC Tryz.func105 rfl rfl rfl (by kernel_rfl),
 ⟨fd_codeC Tryz.func109 rfl rfl rfl (by kernel_rfl),
 trivial⟩⟩⟩⟩⟩⟩⟩⟩⟩
noncomputable def ta:List (Nat × FDef):=[(190,.code (cs Tryz.f190) 7 (cr Tryz.f190)),(177,.code (cs Tryz.f177) 98 (cr Tryz.f177)),(174,.ext (evX ta0 10000 60 174)),(176,.code (cs Tryz.f176) 25 (cr Tryz.f176)),(175,.ext (evX ta0 10000 60 175)),(173,.code (cs Tryz.f173) 10 (cr Tryz.f173)),(172,.code (cs Tryz.f172) 7 (cr Tryz.f172)),(171,.code (cs Tryz.f171) 61 (cr Tryz.f171)),(170,.ext (evX ta0 10000 60 170)),(150,.code (cs Tryz.f150) 62 (cr Tryz.f150)),(149,.code (cs Tryz.f149) 11 (cr Tryz.f149)),(148,.code (cs Tryz.f148) 11 (cr Tryz.f148)),(147,.code (cs Tryz.f147) 32 (cr Tryz.f147)),(146,.code sc146 37 rv146),(71,.code sc71 5 rv71),(118,.code (cs Tryz.f118) 43 (cr Tryz.f118)),(117,.code (cs Tryz.f117) 36 (cr Tryz.f117)),(116,.code (cs Tryz.f116) 15 (cr Tryz.f116)),(115,.code (cs Tryz.f115) 13 (cr Tryz.f115)),(109,.ext (evX ta1 10000 60 109)),(105,.ext (evX ta1 10000 60 105)),(104,.code (cs Tryz.f104) 31 (cr Tryz.f104)),(103,.ext (evX ta0 10000 60 103)),(102,.ext (evX ta0 10000 60 102)),(101,.ext (evX ta0 10000 60 101)),(100,.code (cs Tryz.f100) 21 (cr Tryz.f100)),(70,.code sc70 14 rv70),(32,.code sc32 4 rv32),(69,.code (cs Tryz.f69) 42 (cr Tryz.f69)),(68,.code (cs Tryz.f68) 25 (cr Tryz.f68)),(67,.code (cs Tryz.f67) 56 (cr Tryz.f67)),(66,.code (cs Tryz.f66) 68 (cr Tryz.f66)),(65,.code (cs Tryz.f65) 57 (cr Tryz.f65)),(55,.code (cs Tryz.f55) 62 (cr Tryz.f55)),(54,.ext (evX ta1 10000 60 54)),(11,.code (cs Tryz.f11) 1 (cr Tryz.f11)),(7,.code (cs Tryz.f7) 1 (cr Tryz.f7)),(31,.code (cs Tryz.f31) 68 (cr Tryz.f31)),(28,.code (cs Tryz.f28) 41 (cr Tryz.f28))]
theorem ta_ok:TbOk Tryz.prog ta :=
 ⟨fd_codeC Tryz.func190 rfl rfl rfl (by kernel_rfl),
 ⟨fd_codeC Tryz.func177 rfl rfl rfl (by kernel_rfl),
 ⟨fd_pure mixed ta0_ok rfl,
 ⟨fd_codeC Tryz.func176 rfl rfl rfl (by kernel_rfl),
 ⟨fd_pure mixed ta0_ok rfl,
 ⟨fd_codeC Tryz.func173 rfl rfl rfl (by kernel_rfl),
 ⟨fd_codeC Tryz.func172 rfl rfl rfl (by kernel_rfl),
 ⟨fd_codeC Tryz.func171 rfl rfl rfl (by kernel_rfl),
 ⟨fd_pure mixed ta0_ok rfl,
 ⟨fd_codeC Tryz.func150 rfl rfl rfl (by kernel_rfl),
 ⟨fd_codeC Tryz.func149 rfl rfl rfl (by kernel_rfl),
 ⟨fd_codeC Tryz.func148 rfl rfl rfl (by kernel_rfl),
 ⟨fd_codeC Tryz.func147 rfl rfl rfl (by kernel_rfl),
 ⟨fd_code Tryz.func146 rfl rfl rfl hc146 hr146,
 ⟨fd_code Tryz.func71 rfl rfl rfl hc71 hr71,
 ⟨fd_codeC Tryz.func118 rfl rfl rfl (by kernel_rfl),
 ⟨fd_codeC Tryz.func117 rfl rfl rfl (by kernel_rfl),
 ⟨fd_codeC Tryz.func116 rfl rfl rfl (by kernel_rfl),
 ⟨fd_codeC Tryz.func115 rfl rfl rfl (by kernel_rfl),
 ⟨fd_pure mixed ta1_ok rfl,
 ⟨fd_pure mixed ta1_ok rfl,
 ⟨fd_codeC Tryz.func104 rfl rfl rfl (by kernel_rfl),
 ⟨fd_pure mixed ta0_ok rfl,
 ⟨fd_pure mixed ta0_ok rfl,
 ⟨fd_pure mixed ta0_ok rfl,
 ⟨fd_codeC Tryz.func100 rfl rfl rfl (by kernel_rfl),
 ⟨fd_code Tryz.func70 rfl rfl rfl hc70 hr70,
 ⟨fd_code Tryz.func32 rfl rfl rfl hc32 hr32,
 ⟨fd_codeC Tryz.func69 rfl rfl rfl (by kernel_rfl),
 ⟨fd_codeC Tryz.func68 rfl rfl rfl (by kernel_rfl),
 ⟨fd_codeC Tryz.func67 rfl rfl rfl (by kernel_rfl),
 ⟨fd_codeC Tryz.func66 rfl rfl rfl (by kernel_rfl),
 ⟨fd_codeC Tryz.func65 rfl rfl rfl (by kernel_rfl),
 ⟨fd_codeC Tryz.func55 rfl rfl rfl (by kernel_rfl),
 ⟨fd_pure mixed ta1_ok rfl,
 ⟨fd_codeC Tryz.func11 rfl rfl rfl (by kernel_rfl),
 ⟨fd_codeC Tryz.func7 rfl rfl rfl (by kernel_rfl),
 ⟨fd_codeC Tryz.func31 rfl rfl rfl (by kernel_rfl),
 ⟨fd_codeC Tryz.func28 rfl rfl rfl (by kernel_rfl),
 trivial⟩⟩⟩⟩⟩⟩⟩⟩⟩⟩⟩⟩⟩⟩⟩⟩⟩⟩⟩⟩⟩⟩⟩⟩⟩⟩⟩⟩⟩⟩⟩⟩⟩⟩⟩⟩⟩⟩⟩
end Go.Proofs.YtpgkdcekpineaaaGreatDoor
