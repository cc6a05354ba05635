/-
 Tables, printed by a program.
-/
import Derived.Test.YtefdkgkojlflaaaGreatDoorEvG
namespace Go.Proofs.YtefdkgkojlflaaaGreatDoor
open Go.Eng
set_option maxRecDepth 100000
noncomputable def ta0:List (Nat×J7Y):=[(205,.code (cs Tryz.f205) 25 (cr Tryz.f205)),(206,.code (cs Tryz.f206) 2 (cr Tryz.f206)),(184,.code (cs Tryz.f184) 18 (cr Tryz.f184)),(196,.code (cs Tryz.f196) 9 (cr Tryz.f196)),(195,.code (cs Tryz.f195) 9 (cr Tryz.f195)),(191,.code X3B 19 X3E),(189,.code (cs Tryz.f189) 27 (cr Tryz.f189)),(188,.code (cs Tryz.f188) 6 (cr Tryz.f188)),(173,.code (cs Tryz.f173) 33 (cr Tryz.f173)),(171,.code (cs Tryz.f171) 8 (cr Tryz.f171)),(148,.code (cs Tryz.f148) 9 (cr Tryz.f148)),(147,.code (cs Tryz.f147) 13 (cr Tryz.f147)),(146,.code (cs Tryz.f146) 17 (cr Tryz.f146))]
theorem J3B:Q1l Tryz.prog ta0 :=
 ⟨J0d Tryz.func205 rfl rfl rfl (by kernel_rfl),
 ⟨J0d Tryz.func206 rfl rfl rfl (by kernel_rfl),
 ⟨J0d Tryz.func184 rfl rfl rfl (by kernel_rfl),
 ⟨J0d Tryz.func196 rfl rfl rfl (by kernel_rfl),
 ⟨J0d Tryz.func195 rfl rfl rfl (by kernel_rfl),
 ⟨J4D Tryz.func191 rfl rfl rfl X4p X4l,
 ⟨J0d Tryz.func189 rfl rfl rfl (by kernel_rfl),
 ⟨J0d Tryz.func188 rfl rfl rfl (by kernel_rfl),
 ⟨J0d Tryz.func173 rfl rfl rfl (by kernel_rfl),
 ⟨J0d Tryz.func171 rfl rfl rfl (by kernel_rfl),
 ⟨J0d Tryz.func148 rfl rfl rfl (by kernel_rfl),
 ⟨J0d Tryz.func147 rfl rfl rfl (by kernel_rfl),
 ⟨J0d Tryz.func146 rfl rfl rfl (by kernel_rfl),
 trivial⟩⟩⟩⟩⟩⟩⟩⟩⟩⟩⟩⟩⟩
noncomputable def ta1:List (Nat×J7Y):=[(185,.ext X96),(172,.code (cs Tryz.f172) 8 (cr Tryz.f172)),(171,.ext (evX ta0 10000 60 171)),(173,.ext (evX ta0 10000 60 173)),(147,.ext (evX ta0 10000 60 147)),(146,.ext (evX ta0 10000 60 146)),(114,.code (cs Tryz.f114) 35 (cr Tryz.f114)),(150,.code (cs Tryz.f150) 19 (cr Tryz.f150)),(154,.code (cs Tryz.f154) 32 (cr Tryz.f154))]
theorem J9Z:Q1l Tryz.prog ta1 :=
 ⟨X6T,
 ⟨J0d Tryz.func172 rfl rfl rfl (by kernel_rfl),
 ⟨J0O mixed J3B rfl,
 ⟨J0O mixed J3B rfl,
 ⟨J0O mixed J3B rfl,
 ⟨J0O mixed J3B rfl,
 ⟨J0d Tryz.func114 rfl rfl rfl (by kernel_rfl),
 ⟨J0d Tryz.func150 rfl rfl rfl (by kernel_rfl),
 ⟨J0d Tryz.func154 rfl rfl rfl (by kernel_rfl),
 trivial⟩⟩⟩⟩⟩⟩⟩⟩⟩
noncomputable def ta:List (Nat×J7Y):=[(207,.code (cs Tryz.f207) 7 (cr Tryz.f207)),(198,.code (cs Tryz.f198) 98 (cr Tryz.f198)),(195,.ext (evX ta0 10000 60 195)),(197,.code (cs Tryz.f197) 25 (cr Tryz.f197)),(196,.ext (evX ta0 10000 60 196)),(194,.code (cs Tryz.f194) 10 (cr Tryz.f194)),(193,.code (cs Tryz.f193) 7 (cr Tryz.f193)),(192,.code (cs Tryz.f192) 61 (cr Tryz.f192)),(191,.ext (evX ta0 10000 60 191)),(182,.code (cs Tryz.f182) 62 (cr Tryz.f182)),(181,.code (cs Tryz.f181) 11 (cr Tryz.f181)),(180,.code (cs Tryz.f180) 11 (cr Tryz.f180)),(179,.code (cs Tryz.f179) 32 (cr Tryz.f179)),(178,.code X3C 37 X3F),(57,.code sc57 5 rv57),(163,.code (cs Tryz.f163) 43 (cr Tryz.f163)),(162,.code (cs Tryz.f162) 36 (cr Tryz.f162)),(161,.code (cs Tryz.f161) 15 (cr Tryz.f161)),(160,.code (cs Tryz.f160) 13 (cr Tryz.f160)),(154,.ext (evX ta1 10000 60 154)),(150,.ext (evX ta1 10000 60 150)),(149,.code (cs Tryz.f149) 31 (cr Tryz.f149)),(148,.ext (evX ta0 10000 60 148)),(147,.ext (evX ta0 10000 60 147)),(146,.ext (evX ta0 10000 60 146)),(145,.code (cs Tryz.f145) 21 (cr Tryz.f145)),(56,.code sc56 14 rv56),(129,.code (cs Tryz.f129) 42 (cr Tryz.f129)),(128,.code (cs Tryz.f128) 25 (cr Tryz.f128)),(127,.code (cs Tryz.f127) 56 (cr Tryz.f127)),(126,.code (cs Tryz.f126) 68 (cr Tryz.f126)),(125,.code (cs Tryz.f125) 57 (cr Tryz.f125)),(115,.code (cs Tryz.f115) 62 (cr Tryz.f115)),(114,.ext (evX ta1 10000 60 114)),(28,.code (cs Tryz.f28) 1 (cr Tryz.f28)),(97,.code (cs Tryz.f97) 68 (cr Tryz.f97)),(94,.code (cs Tryz.f94) 41 (cr Tryz.f94))]
theorem Q5U:Q1l Tryz.prog ta :=
 ⟨J0d Tryz.func207 rfl rfl rfl (by kernel_rfl),
 ⟨J0d Tryz.func198 rfl rfl rfl (by kernel_rfl),
 ⟨J0O mixed J3B rfl,
 ⟨J0d Tryz.func197 rfl rfl rfl (by kernel_rfl),
 ⟨J0O mixed J3B rfl,
 ⟨J0d Tryz.func194 rfl rfl rfl (by kernel_rfl),
 ⟨J0d Tryz.func193 rfl rfl rfl (by kernel_rfl),
 ⟨J0d Tryz.func192 rfl rfl rfl (by kernel_rfl),
 ⟨J0O mixed J3B rfl,
 ⟨J0d Tryz.func182 rfl rfl rfl (by kernel_rfl),
 ⟨J0d Tryz.func181 rfl rfl rfl (by kernel_rfl),
 ⟨J0d Tryz.func180 rfl rfl rfl (by kernel_rfl),
 ⟨J0d Tryz.func179 rfl rfl rfl (by kernel_rfl),
 ⟨J4D Tryz.func178 rfl rfl rfl X4q X4m,
 ⟨J4D Tryz.func57 rfl rfl rfl hc57 hr57,
 ⟨J0d Tryz.func163 rfl rfl rfl (by kernel_rfl),
 ⟨J0d Tryz.func162 rfl rfl rfl (by kernel_rfl),
 ⟨J0d Tryz.func161 rfl rfl rfl (by kernel_rfl),
 ⟨J0d Tryz.func160 rfl rfl rfl (by kernel_rfl),
 ⟨J0O mixed J9Z rfl,
 ⟨J0O mixed J9Z rfl,
 ⟨J0d Tryz.func149 rfl rfl rfl (by kernel_rfl),
 ⟨J0O mixed J3B rfl,
 ⟨J0O mixed J3B rfl,
 ⟨J0O mixed J3B rfl,
 ⟨J0d Tryz.func145 rfl rfl rfl (by kernel_rfl),
 ⟨J4D Tryz.func56 rfl rfl rfl hc56 hr56,
 ⟨J0d Tryz.func129 rfl rfl rfl (by kernel_rfl),
 ⟨J0d Tryz.func128 rfl rfl rfl (by kernel_rfl),
 ⟨J0d Tryz.func127 rfl rfl rfl (by kernel_rfl),
 ⟨J0d Tryz.func126 rfl rfl rfl (by kernel_rfl),
 ⟨J0d Tryz.func125 rfl rfl rfl (by kernel_rfl),
 ⟨J0d Tryz.func115 rfl rfl rfl (by kernel_rfl),
 ⟨J0O mixed J9Z rfl,
 ⟨J0d Tryz.func28 rfl rfl rfl (by kernel_rfl),
 ⟨J0d Tryz.func97 rfl rfl rfl (by kernel_rfl),
 ⟨J0d Tryz.func94 rfl rfl rfl (by kernel_rfl),
 trivial⟩⟩⟩⟩⟩⟩⟩⟩⟩⟩⟩⟩⟩⟩⟩⟩⟩⟩⟩⟩⟩⟩⟩⟩⟩⟩⟩⟩⟩⟩⟩⟩⟩⟩⟩⟩⟩
end Go.Proofs.YtefdkgkojlflaaaGreatDoor
