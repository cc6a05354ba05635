/-
  The tables of functions that the evaluator runs, printed by a program (wip/tools/evtab.py).
-/
import Derived.Test.YtinmenifoebfmaaGreatGRCode
import Derived.Test.YtinmenifoebfmaaGreatEvG
namespace Go.Proofs.YtinmenifoebfmaaGreat
open Go.Eng
set_option maxRecDepth 100000

noncomputable def ta0 : List (Nat × FDef) := [(231, .code sc231 25 rv231), (232, .code sc232 2 rv232), (203, .code sc203 18 rv203), (215, .code sc215 9 rv215), (214, .code sc214 9 rv214), (210, .code sc210 19 rv210), (208, .code sc208 27 rv208), (207, .code sc207 6 rv207), (180, .code sc180 33 rv180), (178, .code sc178 8 rv178), (138, .code sc138 9 rv138), (137, .code sc137 13 rv137), (136, .code sc136 17 rv136)]
theorem ta0_ok : TbOk Tryz.prog ta0 :=
  ⟨fd_code Tryz.func231 rfl rfl rfl hc231 hr231, 
  ⟨fd_code Tryz.func232 rfl rfl rfl hc232 hr232, 
  ⟨fd_code Tryz.func203 rfl rfl rfl hc203 hr203, 
  ⟨fd_code Tryz.func215 rfl rfl rfl hc215 hr215, 
  ⟨fd_code Tryz.func214 rfl rfl rfl hc214 hr214, 
  ⟨fd_code Tryz.func210 rfl rfl rfl hc210 hr210, 
  ⟨fd_code Tryz.func208 rfl rfl rfl hc208 hr208, 
  ⟨fd_code Tryz.func207 rfl rfl rfl hc207 hr207, 
  ⟨fd_code Tryz.func180 rfl rfl rfl hc180 hr180, 
  ⟨fd_code Tryz.func178 rfl rfl rfl hc178 hr178, 
  ⟨fd_code Tryz.func138 rfl rfl rfl hc138 hr138, 
  ⟨fd_code Tryz.func137 rfl rfl rfl hc137 hr137, 
  ⟨fd_code Tryz.func136 rfl rfl rfl hc136 hr136, 
  trivial⟩⟩⟩⟩⟩⟩⟩⟩⟩⟩⟩⟩⟩

noncomputable def ta1 : List (Nat × FDef) := [(204, .ext idxg), (179, .code sc179 8 rv179), (178, .ext (evX ta0 10000 60 178)), (180, .ext (evX ta0 10000 60 180)), (137, .ext (evX ta0 10000 60 137)), (136, .ext (evX ta0 10000 60 136)), (82, .code sc82 35 rv82), (140, .code sc140 19 rv140), (144, .code sc144 32 rv144)]
theorem ta1_ok : TbOk Tryz.prog ta1 :=
  ⟨idx_ok, 
  ⟨fd_code Tryz.func179 rfl rfl rfl hc179 hr179, 
  ⟨fd_pure mixed ta0_ok rfl, 
  ⟨fd_pure mixed ta0_ok rfl, 
  ⟨fd_pure mixed ta0_ok rfl, 
  ⟨fd_pure mixed ta0_ok rfl, 
  ⟨fd_code Tryz.func82 rfl rfl rfl hc82 hr82, 
  ⟨fd_code Tryz.func140 rfl rfl rfl hc140 hr140, 
  ⟨fd_code Tryz.func144 rfl rfl rfl hc144 hr144, 
  trivial⟩⟩⟩⟩⟩⟩⟩⟩⟩

noncomputable def ta : List (Nat × FDef) := [(233, .code sc233 7 rv233), (217, .code sc217 98 rv217), (214, .ext (evX ta0 10000 60 214)), (216, .code sc216 25 rv216), (215, .ext (evX ta0 10000 60 215)), (213, .code sc213 10 rv213), (212, .code sc212 7 rv212), (211, .code sc211 61 rv211), (210, .ext (evX ta0 10000 60 210)), (189, .code sc189 62 rv189), (188, .code sc188 11 rv188), (187, .code sc187 11 rv187), (186, .code sc186 32 rv186), (185, .code sc185 37 rv185), (54, .code sc54 5 rv54), (153, .code sc153 43 rv153), (152, .code sc152 36 rv152), (151, .code sc151 15 rv151), (150, .code sc150 13 rv150), (144, .ext (evX ta1 10000 60 144)), (140, .ext (evX ta1 10000 60 140)), (139, .code sc139 31 rv139), (138, .ext (evX ta0 10000 60 138)), (137, .ext (evX ta0 10000 60 137)), (136, .ext (evX ta0 10000 60 136)), (135, .code sc135 21 rv135), (58, .code sc58 14 rv58), (64, .code sc64 4 rv64), (97, .code sc97 42 rv97), (96, .code sc96 25 rv96), (95, .code sc95 56 rv95), (94, .code sc94 68 rv94), (93, .code sc93 57 rv93), (83, .code sc83 62 rv83), (82, .ext (evX ta1 10000 60 82)), (26, .code sc26 1 rv26), (24, .code sc24 5 rv24), (23, .code sc23 1 rv23), (49, .code sc49 68 rv49), (46, .code sc46 41 rv46)]
theorem ta_ok : TbOk Tryz.prog ta :=
  ⟨fd_code Tryz.func233 rfl rfl rfl hc233 hr233, 
  ⟨fd_code Tryz.func217 rfl rfl rfl hc217 hr217, 
  ⟨fd_pure mixed ta0_ok rfl, 
  ⟨fd_code Tryz.func216 rfl rfl rfl hc216 hr216, 
  ⟨fd_pure mixed ta0_ok rfl, 
  ⟨fd_code Tryz.func213 rfl rfl rfl hc213 hr213, 
  ⟨fd_code Tryz.func212 rfl rfl rfl hc212 hr212, 
  ⟨fd_code Tryz.func211 rfl rfl rfl hc211 hr211, 
  ⟨fd_pure mixed ta0_ok rfl, 
  ⟨fd_code Tryz.func189 rfl rfl rfl hc189 hr189, 
  ⟨fd_code Tryz.func188 rfl rfl rfl hc188 hr188, 
  ⟨fd_code Tryz.func187 rfl rfl rfl hc187 hr187, 
  ⟨fd_code Tryz.func186 rfl rfl rfl hc186 hr186, 
  ⟨fd_code Tryz.func185 rfl rfl rfl hc185 hr185, 
  ⟨fd_code Tryz.func54 rfl rfl rfl hc54 hr54, 
  ⟨fd_code Tryz.func153 rfl rfl rfl hc153 hr153, 
  ⟨fd_code Tryz.func152 rfl rfl rfl hc152 hr152, 
  ⟨fd_code Tryz.func151 rfl rfl rfl hc151 hr151, 
  ⟨fd_code Tryz.func150 rfl rfl rfl hc150 hr150, 
  ⟨fd_pure mixed ta1_ok rfl, 
  ⟨fd_pure mixed ta1_ok rfl, 
  ⟨fd_code Tryz.func139 rfl rfl rfl hc139 hr139, 
  ⟨fd_pure mixed ta0_ok rfl, 
  ⟨fd_pure mixed ta0_ok rfl, 
  ⟨fd_pure mixed ta0_ok rfl, 
  ⟨fd_code Tryz.func135 rfl rfl rfl hc135 hr135, 
  ⟨fd_code Tryz.func58 rfl rfl rfl hc58 hr58, 
  ⟨fd_code Tryz.func64 rfl rfl rfl hc64 hr64, 
  ⟨fd_code Tryz.func97 rfl rfl rfl hc97 hr97, 
  ⟨fd_code Tryz.func96 rfl rfl rfl hc96 hr96, 
  ⟨fd_code Tryz.func95 rfl rfl rfl hc95 hr95, 
  ⟨fd_code Tryz.func94 rfl rfl rfl hc94 hr94, 
  ⟨fd_code Tryz.func93 rfl rfl rfl hc93 hr93, 
  ⟨fd_code Tryz.func83 rfl rfl rfl hc83 hr83, 
  ⟨fd_pure mixed ta1_ok rfl, 
  ⟨fd_code Tryz.func26 rfl rfl rfl hc26 hr26, 
  ⟨fd_code Tryz.func24 rfl rfl rfl hc24 hr24, 
  ⟨fd_code Tryz.func23 rfl rfl rfl hc23 hr23, 
  ⟨fd_code Tryz.func49 rfl rfl rfl hc49 hr49, 
  ⟨fd_code Tryz.func46 rfl rfl rfl hc46 hr46, 
  trivial⟩⟩⟩⟩⟩⟩⟩⟩⟩⟩⟩⟩⟩⟩⟩⟩⟩⟩⟩⟩⟩⟩⟩⟩⟩⟩⟩⟩⟩⟩⟩⟩⟩⟩⟩⟩⟩⟩⟩⟩

end Go.Proofs.YtinmenifoebfmaaGreat

