/-
  The tables of functions that the evaluator runs, printed by a program (wip/tools/evtab.py).
-/
import Derived.Test.YtinmenifoebfmaaGreatGRCode
import Derived.Test.YtinmenifoebfmaaGreatEvG
import Derived.Test.YtinmenifoebfmaaGreatTKC
namespace Go.Proofs.YtinmenifoebfmaaGreat
open Go.Eng
set_option maxRecDepth 100000

noncomputable def tp : List (Nat × FDef) := [(262, .code sc262 2 rv262), (256, .code sc256 2 rv256), (231, .code sc231 25 rv231), (255, .code sc255 2 rv255), (254, .code sc254 6 rv254), (246, .code sc246 6 rv246), (245, .code sc245 6 rv245), (244, .code sc244 20 rv244), (230, .code sc230 55 rv230), (209, .code sc209 9 rv209), (208, .ext (evX ta0 10000 60 208)), (207, .ext (evX ta0 10000 60 207)), (206, .code sc206 19 rv206), (205, .code sc205 35 rv205), (184, .code sc184 19 rv184), (183, .code sc183 21 rv183), (182, .code sc182 40 rv182), (181, .code sc181 9 rv181), (149, .code sc149 30 rv149), (148, .code sc148 21 rv148), (147, .code sc147 64 rv147), (146, .code sc146 42 rv146), (145, .code sc145 27 rv145), (144, .ext (evX ta1 10000 60 144)), (143, .code sc143 16 rv143), (142, .code sc142 28 rv142), (141, .code sc141 11 rv141), (92, .code sc92 27 rv92), (91, .code sc91 9 rv91), (90, .code sc90 76 rv90), (88, .code sc88 30 rv88), (89, .code sc89 66 rv89), (87, .code sc87 45 rv87), (86, .code sc86 10 rv86), (49, .ext checkG), (47, .catch_), (48, .code sc48 33 rv48), (46, .ext scanG), (9, .code sc9 57 rv9)]
theorem tp_ok : TbOk Tryz.prog tp :=
  ⟨fd_code Tryz.func262 rfl rfl rfl hc262 hr262, 
  ⟨fd_code Tryz.func256 rfl rfl rfl hc256 hr256, 
  ⟨fd_code Tryz.func231 rfl rfl rfl hc231 hr231, 
  ⟨fd_code Tryz.func255 rfl rfl rfl hc255 hr255, 
  ⟨fd_code Tryz.func254 rfl rfl rfl hc254 hr254, 
  ⟨fd_code Tryz.func246 rfl rfl rfl hc246 hr246, 
  ⟨fd_code Tryz.func245 rfl rfl rfl hc245 hr245, 
  ⟨fd_code Tryz.func244 rfl rfl rfl hc244 hr244, 
  ⟨fd_code Tryz.func230 rfl rfl rfl hc230 hr230, 
  ⟨fd_code Tryz.func209 rfl rfl rfl hc209 hr209, 
  ⟨fd_pure mixed ta0_ok rfl, 
  ⟨fd_pure mixed ta0_ok rfl, 
  ⟨fd_code Tryz.func206 rfl rfl rfl hc206 hr206, 
  ⟨fd_code Tryz.func205 rfl rfl rfl hc205 hr205, 
  ⟨fd_code Tryz.func184 rfl rfl rfl hc184 hr184, 
  ⟨fd_code Tryz.func183 rfl rfl rfl hc183 hr183, 
  ⟨fd_code Tryz.func182 rfl rfl rfl hc182 hr182, 
  ⟨fd_code Tryz.func181 rfl rfl rfl hc181 hr181, 
  ⟨fd_code Tryz.func149 rfl rfl rfl hc149 hr149, 
  ⟨fd_code Tryz.func148 rfl rfl rfl hc148 hr148, 
  ⟨fd_code Tryz.func147 rfl rfl rfl hc147 hr147, 
  ⟨fd_code Tryz.func146 rfl rfl rfl hc146 hr146, 
  ⟨fd_code Tryz.func145 rfl rfl rfl hc145 hr145, 
  ⟨fd_pure mixed ta1_ok rfl, 
  ⟨fd_code Tryz.func143 rfl rfl rfl hc143 hr143, 
  ⟨fd_code Tryz.func142 rfl rfl rfl hc142 hr142, 
  ⟨fd_code Tryz.func141 rfl rfl rfl hc141 hr141, 
  ⟨fd_code Tryz.func92 rfl rfl rfl hc92 hr92, 
  ⟨fd_code Tryz.func91 rfl rfl rfl hc91 hr91, 
  ⟨fd_code Tryz.func90 rfl rfl rfl hc90 hr90, 
  ⟨fd_code Tryz.func88 rfl rfl rfl hc88 hr88, 
  ⟨fd_code Tryz.func89 rfl rfl rfl hc89 hr89, 
  ⟨fd_code Tryz.func87 rfl rfl rfl hc87 hr87, 
  ⟨fd_code Tryz.func86 rfl rfl rfl hc86 hr86, 
  ⟨check_ext, 
  ⟨catch_ok, 
  ⟨fd_code Tryz.func48 rfl rfl rfl hc48 hr48, 
  ⟨scan_ext, 
  ⟨fd_code Tryz.func9 rfl rfl rfl hc9 hr9, 
  trivial⟩⟩⟩⟩⟩⟩⟩⟩⟩⟩⟩⟩⟩⟩⟩⟩⟩⟩⟩⟩⟩⟩⟩⟩⟩⟩⟩⟩⟩⟩⟩⟩⟩⟩⟩⟩⟩⟩⟩

end Go.Proofs.YtinmenifoebfmaaGreat

