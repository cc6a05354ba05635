import Derived.Test.YtcnpplcfabdoaaaGreatGRCode
import Derived.Test.YtcnpplcfabdoaaaGreatEvF
import Derived.Test.YtcnpplcfabdoaaaGreatEvX2
import Derived.KernelRfl
namespace Go.Proofs.YtcnpplcfabdoaaaGreat
open Go.Eng
set_option maxRecDepth 100000

noncomputable def tb0 : List (Nat × FDef) := [(231, .code sc231 25 rv231), (232, .code sc232 2 rv232), (203, .code sc203 18 rv203), (215, .code sc215 9 rv215), (214, .code sc214 9 rv214), (210, .code sc210 19 rv210), (208, .code sc208 27 rv208), (207, .code sc207 6 rv207), (180, .code sc180 33 rv180), (178, .code sc178 8 rv178), (138, .code sc138 9 rv138), (137, .code sc137 13 rv137), (136, .code sc136 17 rv136)]
theorem tb0_ok : TbOk Tryz.prog tb0 :=
  ⟨fd_code Tryz.func231 rfl rfl rfl hc231 hr231, 
  ⟨fd_code Tryz.func232 rfl rfl rfl hc232 hr232, 
  ⟨fd_code Tryz.func203 rfl rfl rfl hc203 hr203, 
  ⟨fd_code Tryz.func215 rfl rfl rfl hc215 hr215, 
  ⟨fd_code Tryz.func214 rfl rfl rfl hc214 hr214, 
  ⟨fd_code Tryz.func210 rfl rfl rfl hc210 hr210, 
  ⟨fd_code Tryz.func208 rfl rfl rfl hc208 hr208, 
  ⟨fd_code Tryz.func207 rfl rfl rfl hc207 hr207, 
  ⟨fd_code Tryz.func180 rfl rfl rfl hc180 hr180, 
  ⟨fd_code Tryz.func178 rfl rfl rfl hc178 hr178, 
  ⟨fd_code Tryz.func138 rfl rfl rfl hc138 hr138, 
  ⟨fd_code Tryz.func137 rfl rfl rfl hc137 hr137, 
  ⟨fd_code Tryz.func136 rfl rfl rfl hc136 hr136, 
  trivial⟩⟩⟩⟩⟩⟩⟩⟩⟩⟩⟩⟩⟩

noncomputable def tb1 : List (Nat × FDef) := [(204, .ext idxg), (180, .ext (evX tb0 10000 60 180)), (137, .ext (evX tb0 10000 60 137)), (136, .ext (evX tb0 10000 60 136)), (179, .code sc179 8 rv179), (178, .ext (evX tb0 10000 60 178)), (82, .code sc82 35 rv82), (144, .code sc144 32 rv144), (140, .code sc140 19 rv140)]
theorem tb1_ok : TbOk Tryz.prog tb1 :=
  ⟨idx_ok, 
  ⟨fd_pure mixed tb0_ok rfl, 
  ⟨fd_pure mixed tb0_ok rfl, 
  ⟨fd_pure mixed tb0_ok rfl, 
  ⟨fd_code Tryz.func179 rfl rfl rfl hc179 hr179, 
  ⟨fd_pure mixed tb0_ok rfl, 
  ⟨fd_code Tryz.func82 rfl rfl rfl hc82 hr82, 
  ⟨fd_code Tryz.func144 rfl rfl rfl hc144 hr144, 
  ⟨fd_code Tryz.func140 rfl rfl rfl hc140 hr140, 
  trivial⟩⟩⟩⟩⟩⟩⟩⟩⟩

noncomputable def tb2 : List (Nat × FDef) := [(140, .ext (evX tb1 10000 60 140)), (139, .code sc139 31 rv139), (138, .ext (evX tb0 10000 60 138)), (137, .ext (evX tb0 10000 60 137)), (136, .ext (evX tb0 10000 60 136)), (135, .code sc135 21 rv135), (83, .code sc83 62 rv83), (82, .ext (evX tb1 10000 60 82)), (46, .code sc46 41 rv46)]
theorem tb2_ok : TbOk Tryz.prog tb2 :=
  ⟨fd_pure mixed tb1_ok rfl, 
  ⟨fd_code Tryz.func139 rfl rfl rfl hc139 hr139, 
  ⟨fd_pure mixed tb0_ok rfl, 
  ⟨fd_pure mixed tb0_ok rfl, 
  ⟨fd_pure mixed tb0_ok rfl, 
  ⟨fd_code Tryz.func135 rfl rfl rfl hc135 hr135, 
  ⟨fd_code Tryz.func83 rfl rfl rfl hc83 hr83, 
  ⟨fd_pure mixed tb1_ok rfl, 
  ⟨fd_code Tryz.func46 rfl rfl rfl hc46 hr46, 
  trivial⟩⟩⟩⟩⟩⟩⟩⟩⟩

noncomputable def tb : List (Nat × FDef) := [(262, .code sc262 2 rv262), (256, .code sc256 2 rv256), (231, .code sc231 25 rv231), (255, .code sc255 2 rv255), (254, .code sc254 6 rv254), (246, .code sc246 6 rv246), (245, .code sc245 6 rv245), (244, .code sc244 20 rv244), (233, .code sc233 7 rv233), (230, .code sc230 55 rv230), (217, .code sc217 98 rv217), (214, .ext (evX tb0 10000 60 214)), (216, .code sc216 25 rv216), (215, .ext (evX tb0 10000 60 215)), (213, .code sc213 10 rv213), (212, .code sc212 7 rv212), (211, .code sc211 61 rv211), (210, .ext (evX tb0 10000 60 210)), (209, .code sc209 9 rv209), (208, .ext (evX tb0 10000 60 208)), (207, .ext (evX tb0 10000 60 207)), (206, .code sc206 19 rv206), (205, .code sc205 35 rv205), (189, .code sc189 62 rv189), (188, .code sc188 11 rv188), (187, .code sc187 11 rv187), (186, .code sc186 32 rv186), (185, .code sc185 37 rv185), (184, .code sc184 19 rv184), (183, .code sc183 21 rv183), (182, .code sc182 40 rv182), (181, .code sc181 9 rv181), (153, .code sc153 43 rv153), (152, .code sc152 36 rv152), (151, .code sc151 15 rv151), (150, .code sc150 13 rv150), (149, .code sc149 30 rv149), (148, .code sc148 21 rv148), (147, .code sc147 64 rv147), (146, .code sc146 42 rv146), (145, .code sc145 27 rv145), (144, .ext (evX tb1 10000 60 144)), (143, .code sc143 16 rv143), (142, .code sc142 28 rv142), (141, .code sc141 11 rv141), (97, .code sc97 42 rv97), (96, .code sc96 25 rv96), (95, .code sc95 56 rv95), (94, .code sc94 68 rv94), (93, .code sc93 57 rv93), (92, .code sc92 27 rv92), (91, .code sc91 9 rv91), (90, .code sc90 76 rv90), (88, .code sc88 30 rv88), (89, .code sc89 66 rv89), (87, .code sc87 45 rv87), (86, .code sc86 10 rv86), (49, .code sc49 68 rv49), (47, .catch_), (48, .code sc48 33 rv48), (46, .ext (evX tb2 10000 60 46)), (196, .code sc196 6 rv196), (9, .code sc9 57 rv9), (44, .code sc44 1 rv44)]
theorem tb_ok : TbOk Tryz.prog tb :=
  ⟨fd_code Tryz.func262 rfl rfl rfl hc262 hr262, 
  ⟨fd_code Tryz.func256 rfl rfl rfl hc256 hr256, 
  ⟨fd_code Tryz.func231 rfl rfl rfl hc231 hr231, 
  ⟨fd_code Tryz.func255 rfl rfl rfl hc255 hr255, 
  ⟨fd_code Tryz.func254 rfl rfl rfl hc254 hr254, 
  ⟨fd_code Tryz.func246 rfl rfl rfl hc246 hr246, 
  ⟨fd_code Tryz.func245 rfl rfl rfl hc245 hr245, 
  ⟨fd_code Tryz.func244 rfl rfl rfl hc244 hr244, 
  ⟨fd_code Tryz.func233 rfl rfl rfl hc233 hr233, 
  ⟨fd_code Tryz.func230 rfl rfl rfl hc230 hr230, 
  ⟨fd_code Tryz.func217 rfl rfl rfl hc217 hr217, 
  ⟨fd_pure mixed tb0_ok rfl, 
  ⟨fd_code Tryz.func216 rfl rfl rfl hc216 hr216, 
  ⟨fd_pure mixed tb0_ok rfl, 
  ⟨fd_code Tryz.func213 rfl rfl rfl hc213 hr213, 
  ⟨fd_code Tryz.func212 rfl rfl rfl hc212 hr212, 
  ⟨fd_code Tryz.func211 rfl rfl rfl hc211 hr211, 
  ⟨fd_pure mixed tb0_ok rfl, 
  ⟨fd_code Tryz.func209 rfl rfl rfl hc209 hr209, 
  ⟨fd_pure mixed tb0_ok rfl, 
  ⟨fd_pure mixed tb0_ok rfl, 
  ⟨fd_code Tryz.func206 rfl rfl rfl hc206 hr206, 
  ⟨fd_code Tryz.func205 rfl rfl rfl hc205 hr205, 
  ⟨fd_code Tryz.func189 rfl rfl rfl hc189 hr189, 
  ⟨fd_code Tryz.func188 rfl rfl rfl hc188 hr188, 
  ⟨fd_code Tryz.func187 rfl rfl rfl hc187 hr187, 
  ⟨fd_code Tryz.func186 rfl rfl rfl hc186 hr186, 
  ⟨fd_code Tryz.func185 rfl rfl rfl hc185 hr185, 
  ⟨fd_code Tryz.func184 rfl rfl rfl hc184 hr184, 
  ⟨fd_code Tryz.func183 rfl rfl rfl hc183 hr183, 
  ⟨fd_code Tryz.func182 rfl rfl rfl hc182 hr182, 
  ⟨fd_code Tryz.func181 rfl rfl rfl hc181 hr181, 
  ⟨fd_code Tryz.func153 rfl rfl rfl hc153 hr153, 
  ⟨fd_code Tryz.func152 rfl rfl rfl hc152 hr152, 
  ⟨fd_code Tryz.func151 rfl rfl rfl hc151 hr151, 
  ⟨fd_code Tryz.func150 rfl rfl rfl hc150 hr150, 
  ⟨fd_code Tryz.func149 rfl rfl rfl hc149 hr149, 
  ⟨fd_code Tryz.func148 rfl rfl rfl hc148 hr148, 
  ⟨fd_code Tryz.func147 rfl rfl rfl hc147 hr147, 
  ⟨fd_code Tryz.func146 rfl rfl rfl hc146 hr146, 
  ⟨fd_code Tryz.func145 rfl rfl rfl hc145 hr145, 
  ⟨fd_pure mixed tb1_ok rfl, 
  ⟨fd_code Tryz.func143 rfl rfl rfl hc143 hr143, 
  ⟨fd_code Tryz.func142 rfl rfl rfl hc142 hr142, 
  ⟨fd_code Tryz.func141 rfl rfl rfl hc141 hr141, 
  ⟨fd_code Tryz.func97 rfl rfl rfl hc97 hr97, 
  ⟨fd_code Tryz.func96 rfl rfl rfl hc96 hr96, 
  ⟨fd_code Tryz.func95 rfl rfl rfl hc95 hr95, 
  ⟨fd_code Tryz.func94 rfl rfl rfl hc94 hr94, 
  ⟨fd_code Tryz.func93 rfl rfl rfl hc93 hr93, 
  ⟨fd_code Tryz.func92 rfl rfl rfl hc92 hr92, 
  ⟨fd_code Tryz.func91 rfl rfl rfl hc91 hr91, 
  ⟨fd_code Tryz.func90 rfl rfl rfl hc90 hr90, 
  ⟨fd_code Tryz.func88 rfl rfl rfl hc88 hr88, 
  ⟨fd_code Tryz.func89 rfl rfl rfl hc89 hr89, 
  ⟨fd_code Tryz.func87 rfl rfl rfl hc87 hr87, 
  ⟨fd_code Tryz.func86 rfl rfl rfl hc86 hr86, 
  ⟨fd_code Tryz.func49 rfl rfl rfl hc49 hr49, 
  ⟨catch_ok, 
  ⟨fd_code Tryz.func48 rfl rfl rfl hc48 hr48, 
  ⟨fd_pure mixed tb2_ok rfl, 
  ⟨fd_code Tryz.func196 rfl rfl rfl hc196 hr196, 
  ⟨fd_code Tryz.func9 rfl rfl rfl hc9 hr9, 
  ⟨fd_code Tryz.func44 rfl rfl rfl hc44 hr44, 
  trivial⟩⟩⟩⟩⟩⟩⟩⟩⟩⟩⟩⟩⟩⟩⟩⟩⟩⟩⟩⟩⟩⟩⟩⟩⟩⟩⟩⟩⟩⟩⟩⟩⟩⟩⟩⟩⟩⟩⟩⟩⟩⟩⟩⟩⟩⟩⟩⟩⟩⟩⟩⟩⟩⟩⟩⟩⟩⟩⟩⟩⟩⟩⟩⟩

end Go.Proofs.YtcnpplcfabdoaaaGreat

namespace Go.Proofs.YtcnpplcfabdoaaaGreat
open Go.Eng
set_option maxRecDepth 100000

def textC : C := (.str 145 625860293021692610168751525661257452549496027007153667847979678975062214771830612422021449206564049332980251358363405650892446606352199337381023905264896222699584276419126188415886819601186976917714069920748427324523149062780290140052603905856261251762423604539917473364234598267943259650308814447962922525567720560290416922986513343422325809181296)
def aggC : C := (.agg [(.str 4 1735289202), (.fz 1 6 false [] [[(.str 1 120), (.int .i64 1), (.int .i64 0), (.int .i64 0), (.int .i64 1), (.int .i64 0)]]), (.fz 2 3 false [] [[(.str 4 1852994932), (.fz 6 2 false [] [[(.int .i64 41), (.int .i64 0)], [(.int .i64 10), (.int .i64 0)], [(.int .i64 35), (.int .i64 0)], [(.int .i64 5), (.int .i64 0)], [(.int .i64 29), (.int .i64 0)], [(.int .i64 12), (.int .i64 0)]]), (.fz 1 2 false [] [[(.int .i64 0), (.fz 7 2 false [] [[(.int .i64 32), (.int .i64 0)], [(.int .i64 33), (.int .i64 0)], [(.int .i64 5), (.int .i64 0)], [(.int .i64 1), (.int .i64 1)], [(.int .i64 33), (.int .i64 0)], [(.int .i64 6), (.int .i64 0)], [(.int .i64 1), (.int .i64 1)]])]])], [(.str 4 2037411683), (.fz 7 2 false [] [[(.int .i64 41), (.int .i64 0)], [(.int .i64 19), (.int .i64 0)], [(.int .i64 10), (.int .i64 0)], [(.int .i64 36), (.int .i64 0)], [(.int .i64 5), (.int .i64 0)], [(.int .i64 29), (.int .i64 0)], [(.int .i64 12), (.int .i64 0)]]), (.fz 1 2 false [] [[(.int .i64 0), (.fz 2 2 false [] [[(.int .i64 29), (.int .i64 0)], [(.int .i64 12), (.int .i64 0)]])]])]])])
def progC : C := .tup [aggC, .int .i64 0, .int .i64 0]
theorem ev_text : evX tb 10000 100 44 [] = some textC := by kernel_rfl
theorem ev_parse : evX tb 10000 100 9 [textC] = some progC := by kernel_rfl
end Go.Proofs.YtcnpplcfabdoaaaGreat

namespace Go.Proofs.YtcnpplcfabdoaaaGreat
open Go.Eng
set_option maxRecDepth 100000

theorem ev_types : evX tb 10000 100 196 [aggC] = some (.bool true) := by kernel_rfl
end Go.Proofs.YtcnpplcfabdoaaaGreat

