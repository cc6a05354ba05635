/-
  The tables of functions that the evaluator runs, printed by a program (wip/tools/evtab.py).
-/
import Derived.Test.YtinmenifoebfmaaGreatGRCode
import Derived.Test.YtinmenifoebfmaaGreatEvG
import Derived.Test.YtinmenifoebfmaaGreatTKS
namespace Go.Proofs.YtinmenifoebfmaaGreat
open Go.Eng
set_option maxRecDepth 100000

noncomputable def tc0 : List (Nat × FDef) := [(215, .code sc215 9 rv215), (214, .code sc214 9 rv214), (210, .code sc210 19 rv210), (180, .code sc180 33 rv180), (138, .code sc138 9 rv138), (137, .code sc137 13 rv137), (136, .code sc136 17 rv136)]
theorem tc0_ok : TbOk Tryz.prog tc0 :=
  ⟨fd_code Tryz.func215 rfl rfl rfl hc215 hr215, 
  ⟨fd_code Tryz.func214 rfl rfl rfl hc214 hr214, 
  ⟨fd_code Tryz.func210 rfl rfl rfl hc210 hr210, 
  ⟨fd_code Tryz.func180 rfl rfl rfl hc180 hr180, 
  ⟨fd_code Tryz.func138 rfl rfl rfl hc138 hr138, 
  ⟨fd_code Tryz.func137 rfl rfl rfl hc137 hr137, 
  ⟨fd_code Tryz.func136 rfl rfl rfl hc136 hr136, 
  trivial⟩⟩⟩⟩⟩⟩⟩

noncomputable def tc1 : List (Nat × FDef) := [(214, .ext (evX tc0 10000 60 214)), (213, .code sc213 10 rv213), (212, .code sc212 7 rv212), (211, .code sc211 61 rv211), (210, .ext (evX tc0 10000 60 210)), (188, .code sc188 11 rv188), (187, .code sc187 11 rv187), (186, .code sc186 32 rv186), (185, .code sc185 37 rv185), (180, .ext (evX tc0 10000 60 180)), (137, .ext (evX tc0 10000 60 137)), (136, .ext (evX tc0 10000 60 136)), (152, .code sc152 36 rv152), (144, .code sc144 32 rv144)]
theorem tc1_ok : TbOk Tryz.prog tc1 :=
  ⟨fd_pure mixed tc0_ok rfl, 
  ⟨fd_code Tryz.func213 rfl rfl rfl hc213 hr213, 
  ⟨fd_code Tryz.func212 rfl rfl rfl hc212 hr212, 
  ⟨fd_code Tryz.func211 rfl rfl rfl hc211 hr211, 
  ⟨fd_pure mixed tc0_ok rfl, 
  ⟨fd_code Tryz.func188 rfl rfl rfl hc188 hr188, 
  ⟨fd_code Tryz.func187 rfl rfl rfl hc187 hr187, 
  ⟨fd_code Tryz.func186 rfl rfl rfl hc186 hr186, 
  ⟨fd_code Tryz.func185 rfl rfl rfl hc185 hr185, 
  ⟨fd_pure mixed tc0_ok rfl, 
  ⟨fd_pure mixed tc0_ok rfl, 
  ⟨fd_pure mixed tc0_ok rfl, 
  ⟨fd_code Tryz.func152 rfl rfl rfl hc152 hr152, 
  ⟨fd_code Tryz.func144 rfl rfl rfl hc144 hr144, 
  trivial⟩⟩⟩⟩⟩⟩⟩⟩⟩⟩⟩⟩⟩⟩

noncomputable def tc2 : List (Nat × FDef) := [(233, .code sc233 7 rv233), (217, .code sc217 98 rv217), (214, .ext (evX tc0 10000 60 214)), (216, .code sc216 25 rv216), (215, .ext (evX tc0 10000 60 215)), (210, .ext (evX tc0 10000 60 210)), (189, .code sc189 62 rv189), (152, .ext (evX tc1 10000 60 152)), (150, .code sc150 13 rv150), (153, .code sc153 43 rv153)]
theorem tc2_ok : TbOk Tryz.prog tc2 :=
  ⟨fd_code Tryz.func233 rfl rfl rfl hc233 hr233, 
  ⟨fd_code Tryz.func217 rfl rfl rfl hc217 hr217, 
  ⟨fd_pure mixed tc0_ok rfl, 
  ⟨fd_code Tryz.func216 rfl rfl rfl hc216 hr216, 
  ⟨fd_pure mixed tc0_ok rfl, 
  ⟨fd_pure mixed tc0_ok rfl, 
  ⟨fd_code Tryz.func189 rfl rfl rfl hc189 hr189, 
  ⟨fd_pure mixed tc1_ok rfl, 
  ⟨fd_code Tryz.func150 rfl rfl rfl hc150 hr150, 
  ⟨fd_code Tryz.func153 rfl rfl rfl hc153 hr153, 
  trivial⟩⟩⟩⟩⟩⟩⟩⟩⟩⟩

noncomputable def tc : List (Nat × FDef) := [(153, .ext (evX tc2 10000 60 153)), (152, .ext (evX tc1 10000 60 152)), (151, .code sc151 15 rv151), (150, .code sc150 13 rv150), (144, .ext (evX tc1 10000 60 144)), (97, .code sc97 42 rv97), (96, .code sc96 25 rv96), (95, .code sc95 56 rv95), (94, .code sc94 68 rv94), (93, .code sc93 57 rv93), (49, .code sc49 68 rv49)]
theorem tc_ok : TbOk Tryz.prog tc :=
  ⟨fd_pure mixed tc2_ok rfl, 
  ⟨fd_pure mixed tc1_ok rfl, 
  ⟨fd_code Tryz.func151 rfl rfl rfl hc151 hr151, 
  ⟨fd_code Tryz.func150 rfl rfl rfl hc150 hr150, 
  ⟨fd_pure mixed tc1_ok rfl, 
  ⟨fd_code Tryz.func97 rfl rfl rfl hc97 hr97, 
  ⟨fd_code Tryz.func96 rfl rfl rfl hc96 hr96, 
  ⟨fd_code Tryz.func95 rfl rfl rfl hc95 hr95, 
  ⟨fd_code Tryz.func94 rfl rfl rfl hc94 hr94, 
  ⟨fd_code Tryz.func93 rfl rfl rfl hc93 hr93, 
  ⟨fd_code Tryz.func49 rfl rfl rfl hc49 hr49, 
  trivial⟩⟩⟩⟩⟩⟩⟩⟩⟩⟩⟩

end Go.Proofs.YtinmenifoebfmaaGreat

