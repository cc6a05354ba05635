import Derived.Test.YtbceaajfhcgnjaaGreatTabL
import Derived.KernelRfl
namespace Go.Proofs.YtbceaajfhcgnjaaGreat
open Go.Eng
set_option maxRecDepth 100000
def textQ:C:=(.str 204 7631943617275176326598627511136534650622588754159433694638884210676821632207236102518032257260050775290127951778483909622980138738135588393556085044343456542711504216361510131156224341752927050283016026426351523792918312997847990343279184755759231405559644628180175631107809933213919496981501395817485390671173311729286394724155517791857809760649676421149834144875206971771401467816869484589927607706814626851521946722793009338147511500042277568736164961819296584625613609588402839285101168)
def aggQ:C:=(.agg [(.str 7 32199698172701795),(.fz 2 6 false [] [[(.str 1 109),(.int .i64 2),(.int .i64 0),(.int .i64 0),(.int .i64 0),(.int .i64 0)],[(.str 1 104),(.int .i64 3),(.int .i64 0),(.int .i64 0),(.int .i64 0),(.int .i64 0)]]),(.fz 3 3 false [] [[(.str 5 435777791340),(.fz 4 2 false [] [[(.int .i64 41),(.int .i64 0)],[(.int .i64 5),(.int .i64 0)],[(.int .i64 21),(.int .i64 0)],[(.int .i64 12),(.int .i64 0)]]),(.fz 1 2 false [] [[(.int .i64 0),(.fz 1 2 false [] [[(.int .i64 3),(.int .i64 0)]])]])],[(.str 5 491328400997),(.fz 6 2 false [] [[(.int .i64 41),(.int .i64 0)],[(.int .i64 19),(.int .i64 0)],[(.int .i64 5),(.int .i64 0)],[(.int .i64 19),(.int .i64 0)],[(.int .i64 21),(.int .i64 0)],[(.int .i64 12),(.int .i64 0)]]),(.fz 1 2 false [] [[(.int .i64 0),(.fz 1 2 false [] [[(.int .i64 2),(.int .i64 0)]])]])],[(.str 5 500068609904),(.fz 7 2 false [] [[(.int .i64 36),(.int .i64 0)],[(.int .i64 5),(.int .i64 1)],[(.int .i64 43),(.int .i64 0)],[(.int .i64 5),(.int .i64 0)],[(.int .i64 4),(.int .i64 0)],[(.int .i64 23),(.int .i64 0)],[(.int .i64 12),(.int .i64 0)]]),(.fz 1 2 false [] [[(.int .i64 1),(.fz 5 2 false [] [[(.int .i64 43),(.int .i64 0)],[(.int .i64 5),(.int .i64 0)],[(.int .i64 4),(.int .i64 0)],[(.int .i64 23),(.int .i64 0)],[(.int .i64 12),(.int .i64 0)]])]])]])])
def textI:C:=(.str 120 389508662282641590667193222818340124320258541324365428891725188086024207717159085315988594649689196209224937564443540662539472250600169891651064703471849739348391035222282332234873775082367041688393518087397133674180373991176283487897321372674739070210027174703280392956383328243748401776)
def nmI:C:=(.str 11 140756725746397274546925161)
def vrI:C:=(.fz 1 6 false [] [[(.str 1 109),(.int .i64 2),(.int .i64 0),(.int .i64 0),(.int .i64 0),(.int .i64 0)]])
def rlI:C:=(.fz 2 3 false [] [[(.str 5 435777791340),(.fz 4 2 false [] [[(.int .i64 41),(.int .i64 0)],[(.int .i64 5),(.int .i64 0)],[(.int .i64 21),(.int .i64 0)],[(.int .i64 12),(.int .i64 0)]]),(.fz 1 2 false [] [[(.int .i64 0),(.fz 1 2 false [] [[(.int .i64 3),(.int .i64 0)]])]])],[(.str 5 491328400997),(.fz 6 2 false [] [[(.int .i64 41),(.int .i64 0)],[(.int .i64 19),(.int .i64 0)],[(.int .i64 5),(.int .i64 0)],[(.int .i64 19),(.int .i64 0)],[(.int .i64 21),(.int .i64 0)],[(.int .i64 12),(.int .i64 0)]]),(.fz 1 2 false [] [[(.int .i64 0),(.fz 1 2 false [] [[(.int .i64 2),(.int .i64 0)]])]])]])
def aggI:C:=.agg [nmI,vrI,rlI]
def textU:C:=(.str 119 1521381397783328875800054891869389470968710036407022146164062063350646760420091751269870023643228662301142646745487614769940774862520637558632653182430370709638802690097388328837417618959696732732577591484448600169589648445987332645503857890874100748203457926408746945783623898725577328)
def aggU:C:=(.agg [(.str 7 32199698172701795),(.fz 2 6 false [] [[(.str 1 109),(.int .i64 2),(.int .i64 0),(.int .i64 0),(.int .i64 0),(.int .i64 0)],[(.str 1 104),(.int .i64 3),(.int .i64 0),(.int .i64 0),(.int .i64 0),(.int .i64 0)]]),(.fz 1 3 false [] [[(.str 5 500068609904),(.fz 7 2 false [] [[(.int .i64 36),(.int .i64 0)],[(.int .i64 5),(.int .i64 1)],[(.int .i64 43),(.int .i64 0)],[(.int .i64 5),(.int .i64 0)],[(.int .i64 4),(.int .i64 0)],[(.int .i64 23),(.int .i64 0)],[(.int .i64 12),(.int .i64 0)]]),(.fz 1 2 false [] [[(.int .i64 1),(.fz 5 2 false [] [[(.int .i64 43),(.int .i64 0)],[(.int .i64 5),(.int .i64 0)],[(.int .i64 4),(.int .i64 0)],[(.int .i64 23),(.int .i64 0)],[(.int .i64 12),(.int .i64 0)]])]])]])])
def nmQ:C:=(.str 7 32199698172701795)
def progOf (a:C):C:=.tup [a,.int .i64 0,.int .i64 0]
theorem ev_textQ:evX tb 10000 100 10 []=some textQ:=by kernel_rfl
theorem ev_textI:evX tb 10000 100 8 []=some textI:=by kernel_rfl
theorem ev_parseQ:evX tb 10000 100 24 [textQ]=some (progOf aggQ):=by kernel_rfl
theorem ev_parseI:evX tb 10000 100 24 [textI]=some (progOf aggI):=by kernel_rfl
theorem ev_parseU:evX tb 10000 100 24 [textU]=some (progOf aggU):=by kernel_rfl
theorem ev_typesQ:evX tb 10000 100 25 [aggQ]=some (.bool true):=by kernel_rfl
theorem ev_typesI:evX tb 10000 100 25 [aggI]=some (.bool true):=by kernel_rfl
theorem ev_typesU:evX tb 10000 100 25 [aggU]=some (.bool true):=by kernel_rfl
noncomputable def validL:List (List C×C):=[([aggQ],.bool true),([aggI],.bool true),([aggU],.bool true)]
noncomputable def validG:List C->Option C:=memoG validL
theorem valid_ext:FdOk Tryz.prog 25 (.ext validG):=fd_memo (by kernel_rfl) _ (memo_app (a:=[_]) (b:=[_,_]) (memo_one (ev_ret mixed tb_ok ev_typesQ)) (memo_app (a:=[_]) (b:=[_]) (memo_one (ev_ret mixed tb_ok ev_typesI)) (memo_one (ev_ret mixed tb_ok ev_typesU))))
end Go.Proofs.YtbceaajfhcgnjaaGreat
