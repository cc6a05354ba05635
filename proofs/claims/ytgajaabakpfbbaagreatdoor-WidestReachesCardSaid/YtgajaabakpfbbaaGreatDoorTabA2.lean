/-
 The tables of functions that the evaluator runs, printed by a program (wip/tools/evtab.py).
-/
import Derived.KernelRfl
import Derived.Test.YtgajaabakpfbbaaGreatDoorGRCode
import Derived.Test.YtgajaabakpfbbaaGreatDoorEvG
import Derived.Test.YtgajaabakpfbbaaGreatDoorXS
namespace Go.Proofs.YtgajaabakpfbbaaGreatDoor
open Go.Eng
set_option maxRecDepth 100000
noncomputable def tc0:List (Nat × J7t):=[(212,.code (cs Tryz.f212) 9 (cr Tryz.f212)),(211,.code (cs Tryz.f211) 9 (cr Tryz.f211)),(207,.code sc207 19 rv207),(184,.code (cs Tryz.f184) 33 (cr Tryz.f184)),(152,.code (cs Tryz.f152) 9 (cr Tryz.f152)),(151,.code (cs Tryz.f151) 13 (cr Tryz.f151)),(150,.code (cs Tryz.f150) 17 (cr Tryz.f150))]
theorem J5h:TbOk Tryz.prog tc0 :=
 ⟨J0c Tryz.func212 rfl rfl rfl (by kernel_rfl),
 ⟨J0c Tryz.func211 rfl rfl rfl (by kernel_rfl),
 ⟨J4b Tryz.func207 rfl rfl rfl hc207 hr207,
 ⟨J0c Tryz.func184 rfl rfl rfl (by kernel_rfl),
 ⟨J0c Tryz.func152 rfl rfl rfl (by kernel_rfl),
 ⟨J0c Tryz.func151 rfl rfl rfl (by kernel_rfl),
 ⟨J0c Tryz.func150 rfl rfl rfl (by kernel_rfl),
 trivial⟩⟩⟩⟩⟩⟩⟩
noncomputable def tc1:List (Nat × J7t):=[(211,.ext (evX tc0 10000 60 211)),(210,.code (cs Tryz.f210) 10 (cr Tryz.f210)),(209,.code (cs Tryz.f209) 7 (cr Tryz.f209)),(208,.code (cs Tryz.f208) 61 (cr Tryz.f208)),(207,.ext (evX tc0 10000 60 207)),(192,.code (cs Tryz.f192) 11 (cr Tryz.f192)),(191,.code (cs Tryz.f191) 11 (cr Tryz.f191)),(190,.code (cs Tryz.f190) 32 (cr Tryz.f190)),(189,.code sc189 37 rv189),(184,.ext (evX tc0 10000 60 184)),(151,.ext (evX tc0 10000 60 151)),(150,.ext (evX tc0 10000 60 150)),(166,.code (cs Tryz.f166) 36 (cr Tryz.f166)),(158,.code (cs Tryz.f158) 32 (cr Tryz.f158))]
theorem J6b:TbOk Tryz.prog tc1 :=
 ⟨J0I J0a J5h rfl,
 ⟨J0c Tryz.func210 rfl rfl rfl (by kernel_rfl),
 ⟨J0c Tryz.func209 rfl rfl rfl (by kernel_rfl),
 ⟨J0c Tryz.func208 rfl rfl rfl (by kernel_rfl),
 ⟨J0I J0a J5h rfl,
 ⟨J0c Tryz.func192 rfl rfl rfl (by kernel_rfl),
 ⟨J0c Tryz.func191 rfl rfl rfl (by kernel_rfl),
 ⟨J0c Tryz.func190 rfl rfl rfl (by kernel_rfl),
 ⟨J4b Tryz.func189 rfl rfl rfl hc189 hr189,
 ⟨J0I J0a J5h rfl,
 ⟨J0I J0a J5h rfl,
 ⟨J0I J0a J5h rfl,
 ⟨J0c Tryz.func166 rfl rfl rfl (by kernel_rfl),
 ⟨J0c Tryz.func158 rfl rfl rfl (by kernel_rfl),
 trivial⟩⟩⟩⟩⟩⟩⟩⟩⟩⟩⟩⟩⟩⟩
end Go.Proofs.YtgajaabakpfbbaaGreatDoor
