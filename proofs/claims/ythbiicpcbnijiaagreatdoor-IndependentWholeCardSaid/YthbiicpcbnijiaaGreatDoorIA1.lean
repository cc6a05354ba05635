import Derived.Test.YthbiicpcbnijiaaGreatDoorTabI
import Derived.KernelRfl
namespace Go.Proofs.YthbiicpcbnijiaaGreatDoor
open Go.Eng
set_option maxRecDepth 100000
def textC:C:=(.str 120 389508662282641590667193222818340124320258541324365428891725188086024207717159085315988594649689196209224937564443540662539472250600169891651064703471849739348391035222282332234873775082367041688393518087397133674180373991176283487897321372674739070210027174703280392956383328243748401776)
def aggC:C:=(.agg [(.str 11 140756725746397274546925161),(.fz 1 6 false [] [[(.str 1 109),(.int .i64 2),(.int .i64 0),(.int .i64 0),(.int .i64 0),(.int .i64 0)]]),(.fz 2 3 false [] [[(.str 5 435777791340),(.fz 4 2 false [] [[(.int .i64 41),(.int .i64 0)],[(.int .i64 5),(.int .i64 0)],[(.int .i64 21),(.int .i64 0)],[(.int .i64 12),(.int .i64 0)]]),(.fz 1 2 false [] [[(.int .i64 0),(.fz 1 2 false [] [[(.int .i64 3),(.int .i64 0)]])]])],[(.str 5 491328400997),(.fz 6 2 false [] [[(.int .i64 41),(.int .i64 0)],[(.int .i64 19),(.int .i64 0)],[(.int .i64 5),(.int .i64 0)],[(.int .i64 19),(.int .i64 0)],[(.int .i64 21),(.int .i64 0)],[(.int .i64 12),(.int .i64 0)]]),(.fz 1 2 false [] [[(.int .i64 0),(.fz 1 2 false [] [[(.int .i64 2),(.int .i64 0)]])]])]])])
def progC:C:=.tup [aggC,.int .i64 0,.int .i64 0]
theorem ev_text:evX tb 10000 100 19 [] = some textC:=by kernel_rfl
theorem ev_parse:evX tb 10000 100 30 [textC] = some progC:=by kernel_rfl
end Go.Proofs.YthbiicpcbnijiaaGreatDoor
