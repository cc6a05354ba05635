/-
 Closed runs: the check of the program.
-/
import Derived.Test.YtpoplpohbpfbmaaGreatDoorTabA2
import Derived.KernelRfl
namespace Go.Proofs.YtpoplpohbpfbmaaGreatDoor
open Go.Eng
set_option maxRecDepth 100000
def tJ (a b:Int):List C:=[.int .i64 a,.int .i64 b]
def tV (n s:Nat) (a b c d e:Int):List C:=[.str n s,.int .i64 a,.int .i64 b,.int .i64 c,.int .i64 d,.int .i64 e]
def aggC:C:=(.agg [(.str 4 1702257015),(.fz 4 6 false [] [tV 1 100 1 0 0 1 0,tV 1 112 3 0 0 0 0,tV 1 115 2 0 0 0 0,tV 1 98 2 0 0 0 0]),(.fz 5 3 false [] [[(.str 3 7368564),(.fz 9 2 false [] [tJ 41 0,tJ 10 0,tJ 42 0,tJ 36 0,tJ 5 0,tJ 1 0,tJ 36 0,tJ 5 1,tJ 4 0]),(.fz 2 2 false [] [[(.int .i64 0),(.fz 1 2 false [] [tJ 1 0])],[(.int .i64 1),(.fz 1 2 false [] [tJ 4 0])]])],[(.str 3 7827308),(.fz 23 2 false [] [tJ 41 0,tJ 19 0,tJ 10 0,tJ 42 0,tJ 36 0,tJ 5 0,tJ 43 0,tJ 37 0,tJ 24 0,tJ 12 0,tJ 6 0,tJ 33 0,tJ 24 0,tJ 12 0,tJ 1 1,tJ 6 0,tJ 36 0,tJ 5 1,tJ 23 0,tJ 35 0,tJ 12 0,tJ 24 0,tJ 12 0]),(.fz 2 2 false [] [[(.int .i64 0),(.fz 10 2 false [] [tJ 43 0,tJ 37 0,tJ 24 0,tJ 12 0,tJ 6 0,tJ 33 0,tJ 24 0,tJ 12 0,tJ 1 1,tJ 6 0])],[(.int .i64 1),(.fz 5 2 false [] [tJ 23 0,tJ 35 0,tJ 12 0,tJ 24 0,tJ 12 0])]])],[(.str 5 474214786402),(.fz 4 2 false [] [tJ 41 0,tJ 10 0,tJ 19 0,tJ 5 2]),(.fz 2 2 false [] [[(.int .i64 2),(.fz 1 2 false [] [tJ 2 0])],[(.int .i64 3),(.fz 2 2 false [] [tJ 19 0,tJ 5 3])]])],[(.str 4 1701536116),(.fz 16 2 false [] [tJ 41 0,tJ 19 0,tJ 10 0,tJ 21 0,tJ 41 0,tJ 35 0,tJ 11 0,tJ 5 1,tJ 42 0,tJ 36 0,tJ 12 3,tJ 5 3,tJ 41 0,tJ 5 2,tJ 19 0,tJ 12 2]),(.fz 2 2 false [] [[(.int .i64 2),(.fz 6 2 false [] [tJ 21 0,tJ 41 0,tJ 35 0,tJ 11 0,tJ 5 1,tJ 12 2])],[(.int .i64 3),(.fz 6 2 false [] [tJ 21 0,tJ 41 0,tJ 35 0,tJ 11 0,tJ 5 1,tJ 12 3])]])],[(.str 6 114844899371366),(.fz 13 2 false [] [tJ 41 0,tJ 5 2,tJ 20 0,tJ 42 0,tJ 36 0,tJ 12 1,tJ 17 0,tJ 41 0,tJ 19 0,tJ 12 2,tJ 35 0,tJ 12 3,tJ 5 3]),(.fz 1 2 false [] [[(.int .i64 2),(.fz 1 2 false [] [tJ 3 0])]])]])])
def progC:C:=.tup [aggC,.int .i64 0,.int .i64 0]
theorem ev_check:evX tc 10000 100 53 [aggC]=some (.int .i64 0):=by kernel_rfl
noncomputable def checkG:List C->Option C:=memoG [([aggC],.int .i64 0)]
theorem check_ext:FdOk Tryz.prog 53 (.ext checkG):=fd_memo (by kernel_rfl) _ (memo_one (ev_ret mixed tc_ok ev_check))
end Go.Proofs.YtpoplpohbpfbmaaGreatDoor
