/-
 Tables, printed by a program.
-/
import Derived.Test.YtefdkgkojlflaaaGreatDoorXC
namespace Go.Proofs.YtefdkgkojlflaaaGreatDoor
open Go.Eng
set_option maxRecDepth 100000
noncomputable def tp:List (Nat×J7Y):=[(226,.code (cs Tryz.f226) 2 (cr Tryz.f226)),(224,.code (cs Tryz.f224) 2 (cr Tryz.f224)),(205,.code (cs Tryz.f205) 25 (cr Tryz.f205)),(223,.code (cs Tryz.f223) 2 (cr Tryz.f223)),(222,.code (cs Tryz.f222) 6 (cr Tryz.f222)),(216,.code (cs Tryz.f216) 6 (cr Tryz.f216)),(215,.code (cs Tryz.f215) 6 (cr Tryz.f215)),(214,.code (cs Tryz.f214) 20 (cr Tryz.f214)),(204,.code (cs Tryz.f204) 55 (cr Tryz.f204)),(190,.code (cs Tryz.f190) 9 (cr Tryz.f190)),(189,.ext (evX ta0 10000 60 189)),(188,.ext (evX ta0 10000 60 188)),(187,.code (cs Tryz.f187) 19 (cr Tryz.f187)),(186,.code (cs Tryz.f186) 35 (cr Tryz.f186)),(177,.code (cs Tryz.f177) 19 (cr Tryz.f177)),(176,.code (cs Tryz.f176) 21 (cr Tryz.f176)),(175,.code (cs Tryz.f175) 40 (cr Tryz.f175)),(174,.code (cs Tryz.f174) 9 (cr Tryz.f174)),(159,.code (cs Tryz.f159) 30 (cr Tryz.f159)),(158,.code (cs Tryz.f158) 21 (cr Tryz.f158)),(157,.code (cs Tryz.f157) 64 (cr Tryz.f157)),(156,.code (cs Tryz.f156) 42 (cr Tryz.f156)),(155,.code (cs Tryz.f155) 27 (cr Tryz.f155)),(154,.ext (evX ta1 10000 60 154)),(153,.code (cs Tryz.f153) 16 (cr Tryz.f153)),(152,.code (cs Tryz.f152) 28 (cr Tryz.f152)),(151,.code (cs Tryz.f151) 11 (cr Tryz.f151)),(124,.code (cs Tryz.f124) 27 (cr Tryz.f124)),(123,.code (cs Tryz.f123) 9 (cr Tryz.f123)),(122,.code (cs Tryz.f122) 76 (cr Tryz.f122)),(120,.code (cs Tryz.f120) 30 (cr Tryz.f120)),(121,.code (cs Tryz.f121) 66 (cr Tryz.f121)),(119,.code (cs Tryz.f119) 45 (cr Tryz.f119)),(118,.code (cs Tryz.f118) 10 (cr Tryz.f118)),(97,.ext X2C),(95,.catch_),(96,.code (cs Tryz.f96) 33 (cr Tryz.f96)),(94,.ext X52),(75,.code (cs Tryz.f75) 57 (cr Tryz.f75))]
theorem X8d:Q1l Tryz.prog tp :=
 ⟨J0d Tryz.func226 rfl rfl rfl (by kernel_rfl),
 ⟨J0d Tryz.func224 rfl rfl rfl (by kernel_rfl),
 ⟨J0d Tryz.func205 rfl rfl rfl (by kernel_rfl),
 ⟨J0d Tryz.func223 rfl rfl rfl (by kernel_rfl),
 ⟨J0d Tryz.func222 rfl rfl rfl (by kernel_rfl),
 ⟨J0d Tryz.func216 rfl rfl rfl (by kernel_rfl),
 ⟨J0d Tryz.func215 rfl rfl rfl (by kernel_rfl),
 ⟨J0d Tryz.func214 rfl rfl rfl (by kernel_rfl),
 ⟨J0d Tryz.func204 rfl rfl rfl (by kernel_rfl),
 ⟨J0d Tryz.func190 rfl rfl rfl (by kernel_rfl),
 ⟨J0O mixed J3B rfl,
 ⟨J0O mixed J3B rfl,
 ⟨J0d Tryz.func187 rfl rfl rfl (by kernel_rfl),
 ⟨J0d Tryz.func186 rfl rfl rfl (by kernel_rfl),
 ⟨J0d Tryz.func177 rfl rfl rfl (by kernel_rfl),
 ⟨J0d Tryz.func176 rfl rfl rfl (by kernel_rfl),
 ⟨J0d Tryz.func175 rfl rfl rfl (by kernel_rfl),
 ⟨J0d Tryz.func174 rfl rfl rfl (by kernel_rfl),
 ⟨J0d Tryz.func159 rfl rfl rfl (by kernel_rfl),
 ⟨J0d Tryz.func158 rfl rfl rfl (by kernel_rfl),
 ⟨J0d Tryz.func157 rfl rfl rfl (by kernel_rfl),
 ⟨J0d Tryz.func156 rfl rfl rfl (by kernel_rfl),
 ⟨J0d Tryz.func155 rfl rfl rfl (by kernel_rfl),
 ⟨J0O mixed J9Z rfl,
 ⟨J0d Tryz.func153 rfl rfl rfl (by kernel_rfl),
 ⟨J0d Tryz.func152 rfl rfl rfl (by kernel_rfl),
 ⟨J0d Tryz.func151 rfl rfl rfl (by kernel_rfl),
 ⟨J0d Tryz.func124 rfl rfl rfl (by kernel_rfl),
 ⟨J0d Tryz.func123 rfl rfl rfl (by kernel_rfl),
 ⟨J0d Tryz.func122 rfl rfl rfl (by kernel_rfl),
 ⟨J0d Tryz.func120 rfl rfl rfl (by kernel_rfl),
 ⟨J0d Tryz.func121 rfl rfl rfl (by kernel_rfl),
 ⟨J0d Tryz.func119 rfl rfl rfl (by kernel_rfl),
 ⟨J0d Tryz.func118 rfl rfl rfl (by kernel_rfl),
 ⟨Q8i,
 ⟨X1p,
 ⟨J0d Tryz.func96 rfl rfl rfl (by kernel_rfl),
 ⟨Q9O,
 ⟨J0d Tryz.func75 rfl rfl rfl (by kernel_rfl),
 trivial⟩⟩⟩⟩⟩⟩⟩⟩⟩⟩⟩⟩⟩⟩⟩⟩⟩⟩⟩⟩⟩⟩⟩⟩⟩⟩⟩⟩⟩⟩⟩⟩⟩⟩⟩⟩⟩⟩⟩
end Go.Proofs.YtefdkgkojlflaaaGreatDoor
