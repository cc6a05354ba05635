/-
  The tables of functions that the evaluator runs, printed by a program (wip/tools/evtab.py).
-/
import Derived.Test.YtinmenifoebfmaaGreatDoorGRCode
import Derived.Test.YtinmenifoebfmaaGreatDoorEvX2
namespace Go.Proofs.YtinmenifoebfmaaGreatDoor
open Go.Eng
set_option maxRecDepth 100000

noncomputable def tb0 : List (Nat × FDef) := [(186, .code sc186 25 rv186), (187, .code sc187 2 rv187), (165, .code sc165 18 rv165), (177, .code sc177 9 rv177), (176, .code sc176 9 rv176), (172, .code sc172 19 rv172), (170, .code sc170 27 rv170), (169, .code sc169 6 rv169), (154, .code sc154 33 rv154), (152, .code sc152 8 rv152), (130, .code sc130 9 rv130), (129, .code sc129 13 rv129), (128, .code sc128 17 rv128)]
theorem tb0_ok : TbOk Tryz.prog tb0 :=
  ⟨fd_code Tryz.func186 rfl rfl rfl hc186 hr186, 
  ⟨fd_code Tryz.func187 rfl rfl rfl hc187 hr187, 
  ⟨fd_code Tryz.func165 rfl rfl rfl hc165 hr165, 
  ⟨fd_code Tryz.func177 rfl rfl rfl hc177 hr177, 
  ⟨fd_code Tryz.func176 rfl rfl rfl hc176 hr176, 
  ⟨fd_code Tryz.func172 rfl rfl rfl hc172 hr172, 
  ⟨fd_code Tryz.func170 rfl rfl rfl hc170 hr170, 
  ⟨fd_code Tryz.func169 rfl rfl rfl hc169 hr169, 
  ⟨fd_code Tryz.func154 rfl rfl rfl hc154 hr154, 
  ⟨fd_code Tryz.func152 rfl rfl rfl hc152 hr152, 
  ⟨fd_code Tryz.func130 rfl rfl rfl hc130 hr130, 
  ⟨fd_code Tryz.func129 rfl rfl rfl hc129 hr129, 
  ⟨fd_code Tryz.func128 rfl rfl rfl hc128 hr128, 
  trivial⟩⟩⟩⟩⟩⟩⟩⟩⟩⟩⟩⟩⟩

noncomputable def tb1 : List (Nat × FDef) := [(166, .ext idxg), (154, .ext (evX tb0 10000 60 154)), (129, .ext (evX tb0 10000 60 129)), (128, .ext (evX tb0 10000 60 128)), (153, .code sc153 8 rv153), (152, .ext (evX tb0 10000 60 152)), (95, .code sc95 35 rv95), (136, .code sc136 32 rv136), (132, .code sc132 19 rv132)]
theorem tb1_ok : TbOk Tryz.prog tb1 :=
  ⟨idx_ok, 
  ⟨fd_pure mixed tb0_ok rfl, 
  ⟨fd_pure mixed tb0_ok rfl, 
  ⟨fd_pure mixed tb0_ok rfl, 
  ⟨fd_code Tryz.func153 rfl rfl rfl hc153 hr153, 
  ⟨fd_pure mixed tb0_ok rfl, 
  ⟨fd_code Tryz.func95 rfl rfl rfl hc95 hr95, 
  ⟨fd_code Tryz.func136 rfl rfl rfl hc136 hr136, 
  ⟨fd_code Tryz.func132 rfl rfl rfl hc132 hr132, 
  trivial⟩⟩⟩⟩⟩⟩⟩⟩⟩

noncomputable def tb2 : List (Nat × FDef) := [(132, .ext (evX tb1 10000 60 132)), (131, .code sc131 31 rv131), (130, .ext (evX tb0 10000 60 130)), (129, .ext (evX tb0 10000 60 129)), (128, .ext (evX tb0 10000 60 128)), (127, .code sc127 21 rv127), (96, .code sc96 62 rv96), (95, .ext (evX tb1 10000 60 95)), (69, .code sc69 41 rv69)]
theorem tb2_ok : TbOk Tryz.prog tb2 :=
  ⟨fd_pure mixed tb1_ok rfl, 
  ⟨fd_code Tryz.func131 rfl rfl rfl hc131 hr131, 
  ⟨fd_pure mixed tb0_ok rfl, 
  ⟨fd_pure mixed tb0_ok rfl, 
  ⟨fd_pure mixed tb0_ok rfl, 
  ⟨fd_code Tryz.func127 rfl rfl rfl hc127 hr127, 
  ⟨fd_code Tryz.func96 rfl rfl rfl hc96 hr96, 
  ⟨fd_pure mixed tb1_ok rfl, 
  ⟨fd_code Tryz.func69 rfl rfl rfl hc69 hr69, 
  trivial⟩⟩⟩⟩⟩⟩⟩⟩⟩

noncomputable def tb : List (Nat × FDef) := [(207, .code sc207 2 rv207), (205, .code sc205 2 rv205), (186, .code sc186 25 rv186), (204, .code sc204 2 rv204), (203, .code sc203 6 rv203), (197, .code sc197 6 rv197), (196, .code sc196 6 rv196), (195, .code sc195 20 rv195), (188, .code sc188 7 rv188), (185, .code sc185 55 rv185), (179, .code sc179 98 rv179), (176, .ext (evX tb0 10000 60 176)), (178, .code sc178 25 rv178), (177, .ext (evX tb0 10000 60 177)), (175, .code sc175 10 rv175), (174, .code sc174 7 rv174), (173, .code sc173 61 rv173), (172, .ext (evX tb0 10000 60 172)), (171, .code sc171 9 rv171), (170, .ext (evX tb0 10000 60 170)), (169, .ext (evX tb0 10000 60 169)), (168, .code sc168 19 rv168), (167, .code sc167 35 rv167), (163, .code sc163 62 rv163), (162, .code sc162 11 rv162), (161, .code sc161 11 rv161), (160, .code sc160 32 rv160), (159, .code sc159 37 rv159), (158, .code sc158 19 rv158), (157, .code sc157 21 rv157), (156, .code sc156 40 rv156), (155, .code sc155 9 rv155), (145, .code sc145 43 rv145), (144, .code sc144 36 rv144), (143, .code sc143 15 rv143), (142, .code sc142 13 rv142), (141, .code sc141 30 rv141), (140, .code sc140 21 rv140), (139, .code sc139 64 rv139), (138, .code sc138 42 rv138), (137, .code sc137 27 rv137), (136, .ext (evX tb1 10000 60 136)), (135, .code sc135 16 rv135), (134, .code sc134 28 rv134), (133, .code sc133 11 rv133), (110, .code sc110 42 rv110), (109, .code sc109 25 rv109), (108, .code sc108 56 rv108), (107, .code sc107 68 rv107), (106, .code sc106 57 rv106), (105, .code sc105 27 rv105), (104, .code sc104 9 rv104), (103, .code sc103 76 rv103), (101, .code sc101 30 rv101), (102, .code sc102 66 rv102), (100, .code sc100 45 rv100), (99, .code sc99 10 rv99), (72, .code sc72 68 rv72), (70, .catch_), (71, .code sc71 33 rv71), (69, .ext (evX tb2 10000 60 69)), (118, .code sc118 6 rv118), (42, .code sc42 57 rv42), (14, .code sc14 1 rv14)]
theorem tb_ok : TbOk Tryz.prog tb :=
  ⟨fd_code Tryz.func207 rfl rfl rfl hc207 hr207, 
  ⟨fd_code Tryz.func205 rfl rfl rfl hc205 hr205, 
  ⟨fd_code Tryz.func186 rfl rfl rfl hc186 hr186, 
  ⟨fd_code Tryz.func204 rfl rfl rfl hc204 hr204, 
  ⟨fd_code Tryz.func203 rfl rfl rfl hc203 hr203, 
  ⟨fd_code Tryz.func197 rfl rfl rfl hc197 hr197, 
  ⟨fd_code Tryz.func196 rfl rfl rfl hc196 hr196, 
  ⟨fd_code Tryz.func195 rfl rfl rfl hc195 hr195, 
  ⟨fd_code Tryz.func188 rfl rfl rfl hc188 hr188, 
  ⟨fd_code Tryz.func185 rfl rfl rfl hc185 hr185, 
  ⟨fd_code Tryz.func179 rfl rfl rfl hc179 hr179, 
  ⟨fd_pure mixed tb0_ok rfl, 
  ⟨fd_code Tryz.func178 rfl rfl rfl hc178 hr178, 
  ⟨fd_pure mixed tb0_ok rfl, 
  ⟨fd_code Tryz.func175 rfl rfl rfl hc175 hr175, 
  ⟨fd_code Tryz.func174 rfl rfl rfl hc174 hr174, 
  ⟨fd_code Tryz.func173 rfl rfl rfl hc173 hr173, 
  ⟨fd_pure mixed tb0_ok rfl, 
  ⟨fd_code Tryz.func171 rfl rfl rfl hc171 hr171, 
  ⟨fd_pure mixed tb0_ok rfl, 
  ⟨fd_pure mixed tb0_ok rfl, 
  ⟨fd_code Tryz.func168 rfl rfl rfl hc168 hr168, 
  ⟨fd_code Tryz.func167 rfl rfl rfl hc167 hr167, 
  ⟨fd_code Tryz.func163 rfl rfl rfl hc163 hr163, 
  ⟨fd_code Tryz.func162 rfl rfl rfl hc162 hr162, 
  ⟨fd_code Tryz.func161 rfl rfl rfl hc161 hr161, 
  ⟨fd_code Tryz.func160 rfl rfl rfl hc160 hr160, 
  ⟨fd_code Tryz.func159 rfl rfl rfl hc159 hr159, 
  ⟨fd_code Tryz.func158 rfl rfl rfl hc158 hr158, 
  ⟨fd_code Tryz.func157 rfl rfl rfl hc157 hr157, 
  ⟨fd_code Tryz.func156 rfl rfl rfl hc156 hr156, 
  ⟨fd_code Tryz.func155 rfl rfl rfl hc155 hr155, 
  ⟨fd_code Tryz.func145 rfl rfl rfl hc145 hr145, 
  ⟨fd_code Tryz.func144 rfl rfl rfl hc144 hr144, 
  ⟨fd_code Tryz.func143 rfl rfl rfl hc143 hr143, 
  ⟨fd_code Tryz.func142 rfl rfl rfl hc142 hr142, 
  ⟨fd_code Tryz.func141 rfl rfl rfl hc141 hr141, 
  ⟨fd_code Tryz.func140 rfl rfl rfl hc140 hr140, 
  ⟨fd_code Tryz.func139 rfl rfl rfl hc139 hr139, 
  ⟨fd_code Tryz.func138 rfl rfl rfl hc138 hr138, 
  ⟨fd_code Tryz.func137 rfl rfl rfl hc137 hr137, 
  ⟨fd_pure mixed tb1_ok rfl, 
  ⟨fd_code Tryz.func135 rfl rfl rfl hc135 hr135, 
  ⟨fd_code Tryz.func134 rfl rfl rfl hc134 hr134, 
  ⟨fd_code Tryz.func133 rfl rfl rfl hc133 hr133, 
  ⟨fd_code Tryz.func110 rfl rfl rfl hc110 hr110, 
  ⟨fd_code Tryz.func109 rfl rfl rfl hc109 hr109, 
  ⟨fd_code Tryz.func108 rfl rfl rfl hc108 hr108, 
  ⟨fd_code Tryz.func107 rfl rfl rfl hc107 hr107, 
  ⟨fd_code Tryz.func106 rfl rfl rfl hc106 hr106, 
  ⟨fd_code Tryz.func105 rfl rfl rfl hc105 hr105, 
  ⟨fd_code Tryz.func104 rfl rfl rfl hc104 hr104, 
  ⟨fd_code Tryz.func103 rfl rfl rfl hc103 hr103, 
  ⟨fd_code Tryz.func101 rfl rfl rfl hc101 hr101, 
  ⟨fd_code Tryz.func102 rfl rfl rfl hc102 hr102, 
  ⟨fd_code Tryz.func100 rfl rfl rfl hc100 hr100, 
  ⟨fd_code Tryz.func99 rfl rfl rfl hc99 hr99, 
  ⟨fd_code Tryz.func72 rfl rfl rfl hc72 hr72, 
  ⟨catch_ok, 
  ⟨fd_code Tryz.func71 rfl rfl rfl hc71 hr71, 
  ⟨fd_pure mixed tb2_ok rfl, 
  ⟨fd_code Tryz.func118 rfl rfl rfl hc118 hr118, 
  ⟨fd_code Tryz.func42 rfl rfl rfl hc42 hr42, 
  ⟨fd_code Tryz.func14 rfl rfl rfl hc14 hr14, 
  trivial⟩⟩⟩⟩⟩⟩⟩⟩⟩⟩⟩⟩⟩⟩⟩⟩⟩⟩⟩⟩⟩⟩⟩⟩⟩⟩⟩⟩⟩⟩⟩⟩⟩⟩⟩⟩⟩⟩⟩⟩⟩⟩⟩⟩⟩⟩⟩⟩⟩⟩⟩⟩⟩⟩⟩⟩⟩⟩⟩⟩⟩⟩⟩⟩

end Go.Proofs.YtinmenifoebfmaaGreatDoor

