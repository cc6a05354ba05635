/-
  The tables of functions that the evaluator runs, printed by a program (wip/tools/evtab.py).
-/
import Derived.Test.YtcnpplcfabdoaaaGRCode
import Derived.Test.YtcnpplcfabdoaaaEvF
import Derived.Test.YtcnpplcfabdoaaaEvX2
import Derived.Test.YtcnpplcfabdoaaaEvG
namespace Go.Proofs.Ytcnpplcfabdoaaa
open Go.Eng
set_option maxRecDepth 100000

noncomputable def tb0 : List (Nat × FDef) := [(170, .code sc170 25 rv170), (171, .code sc171 2 rv171), (147, .code sc147 18 rv147), (159, .code sc159 9 rv159), (158, .code sc158 9 rv158), (154, .code sc154 19 rv154), (152, .code sc152 27 rv152), (151, .code sc151 6 rv151), (126, .code sc126 33 rv126), (124, .code sc124 8 rv124), (98, .code sc98 9 rv98), (97, .code sc97 13 rv97), (96, .code sc96 17 rv96)]
theorem tb0_ok : TbOk Try.prog tb0 :=
  ⟨fd_code Try.func170 rfl rfl rfl hc170 hr170, 
  ⟨fd_code Try.func171 rfl rfl rfl hc171 hr171, 
  ⟨fd_code Try.func147 rfl rfl rfl hc147 hr147, 
  ⟨fd_code Try.func159 rfl rfl rfl hc159 hr159, 
  ⟨fd_code Try.func158 rfl rfl rfl hc158 hr158, 
  ⟨fd_code Try.func154 rfl rfl rfl hc154 hr154, 
  ⟨fd_code Try.func152 rfl rfl rfl hc152 hr152, 
  ⟨fd_code Try.func151 rfl rfl rfl hc151 hr151, 
  ⟨fd_code Try.func126 rfl rfl rfl hc126 hr126, 
  ⟨fd_code Try.func124 rfl rfl rfl hc124 hr124, 
  ⟨fd_code Try.func98 rfl rfl rfl hc98 hr98, 
  ⟨fd_code Try.func97 rfl rfl rfl hc97 hr97, 
  ⟨fd_code Try.func96 rfl rfl rfl hc96 hr96, 
  trivial⟩⟩⟩⟩⟩⟩⟩⟩⟩⟩⟩⟩⟩

noncomputable def tb1 : List (Nat × FDef) := [(148, .ext idxg), (125, .code sc125 8 rv125), (124, .ext (evX tb0 10000 60 124)), (126, .ext (evX tb0 10000 60 126)), (97, .ext (evX tb0 10000 60 97)), (96, .ext (evX tb0 10000 60 96)), (59, .code sc59 35 rv59), (100, .code sc100 19 rv100), (104, .code sc104 32 rv104)]
theorem tb1_ok : TbOk Try.prog tb1 :=
  ⟨idx_ok, 
  ⟨fd_code Try.func125 rfl rfl rfl hc125 hr125, 
  ⟨fd_pure mixed tb0_ok rfl, 
  ⟨fd_pure mixed tb0_ok rfl, 
  ⟨fd_pure mixed tb0_ok rfl, 
  ⟨fd_pure mixed tb0_ok rfl, 
  ⟨fd_code Try.func59 rfl rfl rfl hc59 hr59, 
  ⟨fd_code Try.func100 rfl rfl rfl hc100 hr100, 
  ⟨fd_code Try.func104 rfl rfl rfl hc104 hr104, 
  trivial⟩⟩⟩⟩⟩⟩⟩⟩⟩

noncomputable def tb2 : List (Nat × FDef) := [(100, .ext (evX tb1 10000 60 100)), (99, .code sc99 31 rv99), (98, .ext (evX tb0 10000 60 98)), (97, .ext (evX tb0 10000 60 97)), (96, .ext (evX tb0 10000 60 96)), (95, .code sc95 21 rv95), (60, .code sc60 62 rv60), (59, .ext (evX tb1 10000 60 59)), (28, .code sc28 41 rv28)]
theorem tb2_ok : TbOk Try.prog tb2 :=
  ⟨fd_pure mixed tb1_ok rfl, 
  ⟨fd_code Try.func99 rfl rfl rfl hc99 hr99, 
  ⟨fd_pure mixed tb0_ok rfl, 
  ⟨fd_pure mixed tb0_ok rfl, 
  ⟨fd_pure mixed tb0_ok rfl, 
  ⟨fd_code Try.func95 rfl rfl rfl hc95 hr95, 
  ⟨fd_code Try.func60 rfl rfl rfl hc60 hr60, 
  ⟨fd_pure mixed tb1_ok rfl, 
  ⟨fd_code Try.func28 rfl rfl rfl hc28 hr28, 
  trivial⟩⟩⟩⟩⟩⟩⟩⟩⟩

noncomputable def tb : List (Nat × FDef) := [(180, .code sc180 2 rv180), (179, .code sc179 2 rv179), (170, .code sc170 25 rv170), (178, .code sc178 2 rv178), (177, .code sc177 6 rv177), (176, .code sc176 6 rv176), (175, .code sc175 6 rv175), (174, .code sc174 20 rv174), (172, .code sc172 7 rv172), (169, .code sc169 55 rv169), (117, .ext symg), (116, .code sc116 26 rv116), (161, .code sc161 98 rv161), (158, .ext (evX tb0 10000 60 158)), (160, .code sc160 25 rv160), (159, .ext (evX tb0 10000 60 159)), (157, .code sc157 10 rv157), (156, .code sc156 7 rv156), (155, .code sc155 61 rv155), (154, .ext (evX tb0 10000 60 154)), (153, .code sc153 9 rv153), (152, .ext (evX tb0 10000 60 152)), (151, .ext (evX tb0 10000 60 151)), (150, .code sc150 19 rv150), (149, .code sc149 35 rv149), (80, .code sc80 28 rv80), (135, .code sc135 62 rv135), (134, .code sc134 11 rv134), (133, .code sc133 11 rv133), (132, .code sc132 32 rv132), (131, .code sc131 37 rv131), (130, .code sc130 19 rv130), (129, .code sc129 21 rv129), (128, .code sc128 40 rv128), (127, .code sc127 9 rv127), (90, .code sc90 61 rv90), (114, .code sc114 52 rv114), (113, .code sc113 43 rv113), (112, .code sc112 36 rv112), (111, .code sc111 15 rv111), (110, .code sc110 13 rv110), (109, .code sc109 30 rv109), (108, .code sc108 21 rv108), (107, .code sc107 64 rv107), (106, .code sc106 42 rv106), (105, .code sc105 27 rv105), (104, .ext (evX tb1 10000 60 104)), (103, .code sc103 16 rv103), (102, .code sc102 28 rv102), (101, .code sc101 11 rv101), (77, .code sc77 16 rv77), (9, .code sc9 16 rv9), (76, .code sc76 13 rv76), (75, .code sc75 51 rv75), (74, .code sc74 42 rv74), (73, .code sc73 25 rv73), (72, .code sc72 56 rv72), (71, .code sc71 68 rv71), (70, .code sc70 57 rv70), (68, .code sc68 9 rv68), (67, .code sc67 76 rv67), (65, .code sc65 30 rv65), (66, .code sc66 66 rv66), (64, .code sc64 45 rv64), (63, .code sc63 10 rv63), (35, .code sc35 47 rv35), (34, .code sc34 36 rv34), (33, .code sc33 92 rv33), (32, .code sc32 14 rv32), (31, .code sc31 68 rv31), (29, .catch_), (30, .code sc30 33 rv30), (28, .ext (evX tb2 10000 60 28)), (11, .code sc11 1 rv11), (10, .code sc10 37 rv10), (8, .code sc8 3 rv8), (7, .code sc7 1 rv7), (6, .code sc6 57 rv6)]
theorem tb_ok : TbOk Try.prog tb :=
  ⟨fd_code Try.func180 rfl rfl rfl hc180 hr180, 
  ⟨fd_code Try.func179 rfl rfl rfl hc179 hr179, 
  ⟨fd_code Try.func170 rfl rfl rfl hc170 hr170, 
  ⟨fd_code Try.func178 rfl rfl rfl hc178 hr178, 
  ⟨fd_code Try.func177 rfl rfl rfl hc177 hr177, 
  ⟨fd_code Try.func176 rfl rfl rfl hc176 hr176, 
  ⟨fd_code Try.func175 rfl rfl rfl hc175 hr175, 
  ⟨fd_code Try.func174 rfl rfl rfl hc174 hr174, 
  ⟨fd_code Try.func172 rfl rfl rfl hc172 hr172, 
  ⟨fd_code Try.func169 rfl rfl rfl hc169 hr169, 
  ⟨sym_ext, 
  ⟨fd_code Try.func116 rfl rfl rfl hc116 hr116, 
  ⟨fd_code Try.func161 rfl rfl rfl hc161 hr161, 
  ⟨fd_pure mixed tb0_ok rfl, 
  ⟨fd_code Try.func160 rfl rfl rfl hc160 hr160, 
  ⟨fd_pure mixed tb0_ok rfl, 
  ⟨fd_code Try.func157 rfl rfl rfl hc157 hr157, 
  ⟨fd_code Try.func156 rfl rfl rfl hc156 hr156, 
  ⟨fd_code Try.func155 rfl rfl rfl hc155 hr155, 
  ⟨fd_pure mixed tb0_ok rfl, 
  ⟨fd_code Try.func153 rfl rfl rfl hc153 hr153, 
  ⟨fd_pure mixed tb0_ok rfl, 
  ⟨fd_pure mixed tb0_ok rfl, 
  ⟨fd_code Try.func150 rfl rfl rfl hc150 hr150, 
  ⟨fd_code Try.func149 rfl rfl rfl hc149 hr149, 
  ⟨fd_code Try.func80 rfl rfl rfl hc80 hr80, 
  ⟨fd_code Try.func135 rfl rfl rfl hc135 hr135, 
  ⟨fd_code Try.func134 rfl rfl rfl hc134 hr134, 
  ⟨fd_code Try.func133 rfl rfl rfl hc133 hr133, 
  ⟨fd_code Try.func132 rfl rfl rfl hc132 hr132, 
  ⟨fd_code Try.func131 rfl rfl rfl hc131 hr131, 
  ⟨fd_code Try.func130 rfl rfl rfl hc130 hr130, 
  ⟨fd_code Try.func129 rfl rfl rfl hc129 hr129, 
  ⟨fd_code Try.func128 rfl rfl rfl hc128 hr128, 
  ⟨fd_code Try.func127 rfl rfl rfl hc127 hr127, 
  ⟨fd_code Try.func90 rfl rfl rfl hc90 hr90, 
  ⟨fd_code Try.func114 rfl rfl rfl hc114 hr114, 
  ⟨fd_code Try.func113 rfl rfl rfl hc113 hr113, 
  ⟨fd_code Try.func112 rfl rfl rfl hc112 hr112, 
  ⟨fd_code Try.func111 rfl rfl rfl hc111 hr111, 
  ⟨fd_code Try.func110 rfl rfl rfl hc110 hr110, 
  ⟨fd_code Try.func109 rfl rfl rfl hc109 hr109, 
  ⟨fd_code Try.func108 rfl rfl rfl hc108 hr108, 
  ⟨fd_code Try.func107 rfl rfl rfl hc107 hr107, 
  ⟨fd_code Try.func106 rfl rfl rfl hc106 hr106, 
  ⟨fd_code Try.func105 rfl rfl rfl hc105 hr105, 
  ⟨fd_pure mixed tb1_ok rfl, 
  ⟨fd_code Try.func103 rfl rfl rfl hc103 hr103, 
  ⟨fd_code Try.func102 rfl rfl rfl hc102 hr102, 
  ⟨fd_code Try.func101 rfl rfl rfl hc101 hr101, 
  ⟨fd_code Try.func77 rfl rfl rfl hc77 hr77, 
  ⟨fd_code Try.func9 rfl rfl rfl hc9 hr9, 
  ⟨fd_code Try.func76 rfl rfl rfl hc76 hr76, 
  ⟨fd_code Try.func75 rfl rfl rfl hc75 hr75, 
  ⟨fd_code Try.func74 rfl rfl rfl hc74 hr74, 
  ⟨fd_code Try.func73 rfl rfl rfl hc73 hr73, 
  ⟨fd_code Try.func72 rfl rfl rfl hc72 hr72, 
  ⟨fd_code Try.func71 rfl rfl rfl hc71 hr71, 
  ⟨fd_code Try.func70 rfl rfl rfl hc70 hr70, 
  ⟨fd_code Try.func68 rfl rfl rfl hc68 hr68, 
  ⟨fd_code Try.func67 rfl rfl rfl hc67 hr67, 
  ⟨fd_code Try.func65 rfl rfl rfl hc65 hr65, 
  ⟨fd_code Try.func66 rfl rfl rfl hc66 hr66, 
  ⟨fd_code Try.func64 rfl rfl rfl hc64 hr64, 
  ⟨fd_code Try.func63 rfl rfl rfl hc63 hr63, 
  ⟨fd_code Try.func35 rfl rfl rfl hc35 hr35, 
  ⟨fd_code Try.func34 rfl rfl rfl hc34 hr34, 
  ⟨fd_code Try.func33 rfl rfl rfl hc33 hr33, 
  ⟨fd_code Try.func32 rfl rfl rfl hc32 hr32, 
  ⟨fd_code Try.func31 rfl rfl rfl hc31 hr31, 
  ⟨catch_ok, 
  ⟨fd_code Try.func30 rfl rfl rfl hc30 hr30, 
  ⟨fd_pure mixed tb2_ok rfl, 
  ⟨fd_code Try.func11 rfl rfl rfl hc11 hr11, 
  ⟨fd_code Try.func10 rfl rfl rfl hc10 hr10, 
  ⟨fd_code Try.func8 rfl rfl rfl hc8 hr8, 
  ⟨fd_code Try.func7 rfl rfl rfl hc7 hr7, 
  ⟨fd_code Try.func6 rfl rfl rfl hc6 hr6, 
  trivial⟩⟩⟩⟩⟩⟩⟩⟩⟩⟩⟩⟩⟩⟩⟩⟩⟩⟩⟩⟩⟩⟩⟩⟩⟩⟩⟩⟩⟩⟩⟩⟩⟩⟩⟩⟩⟩⟩⟩⟩⟩⟩⟩⟩⟩⟩⟩⟩⟩⟩⟩⟩⟩⟩⟩⟩⟩⟩⟩⟩⟩⟩⟩⟩⟩⟩⟩⟩⟩⟩⟩⟩⟩⟩⟩⟩⟩⟩

end Go.Proofs.Ytcnpplcfabdoaaa
