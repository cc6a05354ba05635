import Derived.Test.YthbiicpcbnijiaaGreatDoorTabR
import Derived.KernelRfl
namespace Go.Proofs.YthbiicpcbnijiaaGreatDoor
open Go.Eng
set_option maxRecDepth 100000
def textC:C:=(.str 145 625860293021692610168751525661257452549496027007153667847979678975062214771830612422021449206564049332980251358363405650892446606352199337381023905264896222699584276419126188415886819601186976917714069920748427324523149062780290140052603905856261251762423604539917473364234598267943259650308814447962922525567720560290416922986513343422325809181296)
def aggC:C:=(.agg [(.str 4 1735289202),(.fz 1 6 false [] [[(.str 1 120),(.int .i64 1),(.int .i64 0),(.int .i64 0),(.int .i64 1),(.int .i64 0)]]),(.fz 2 3 false [] [[(.str 4 1852994932),(.fz 6 2 false [] [[(.int .i64 41),(.int .i64 0)],[(.int .i64 10),(.int .i64 0)],[(.int .i64 35),(.int .i64 0)],[(.int .i64 5),(.int .i64 0)],[(.int .i64 29),(.int .i64 0)],[(.int .i64 12),(.int .i64 0)]]),(.fz 1 2 false [] [[(.int .i64 0),(.fz 7 2 false [] [[(.int .i64 32),(.int .i64 0)],[(.int .i64 33),(.int .i64 0)],[(.int .i64 5),(.int .i64 0)],[(.int .i64 1),(.int .i64 1)],[(.int .i64 33),(.int .i64 0)],[(.int .i64 6),(.int .i64 0)],[(.int .i64 1),(.int .i64 1)]])]])],[(.str 4 2037411683),(.fz 7 2 false [] [[(.int .i64 41),(.int .i64 0)],[(.int .i64 19),(.int .i64 0)],[(.int .i64 10),(.int .i64 0)],[(.int .i64 36),(.int .i64 0)],[(.int .i64 5),(.int .i64 0)],[(.int .i64 29),(.int .i64 0)],[(.int .i64 12),(.int .i64 0)]]),(.fz 1 2 false [] [[(.int .i64 0),(.fz 2 2 false [] [[(.int .i64 29),(.int .i64 0)],[(.int .i64 12),(.int .i64 0)]])]])]])])
def progC:C:=.tup [aggC,.int .i64 0,.int .i64 0]
theorem ev_text:evX tb 10000 100 8 [] = some textC:=by kernel_rfl
theorem ev_parse:evX tb 10000 100 30 [textC] = some progC:=by kernel_rfl
end Go.Proofs.YthbiicpcbnijiaaGreatDoor
