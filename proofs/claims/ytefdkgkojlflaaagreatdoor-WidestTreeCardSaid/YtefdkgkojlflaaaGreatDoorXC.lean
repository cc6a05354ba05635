/-
 Closed runs: the check of the program.
-/
import Derived.Test.YtefdkgkojlflaaaGreatDoorTabA4
import Derived.KernelRfl
namespace Go.Proofs.YtefdkgkojlflaaaGreatDoor
open Go.Eng
set_option maxRecDepth 100000
def aggC:C:=(.agg [(.str 6 128038971140471),(.fz 2 6 false [] [[(.str 1 120),(.int .i64 1),(.int .i64 0),(.int .i64 0),(.int .i64 16),(.int .i64 0)],[(.str 1 112),(.int .i64 3),(.int .i64 0),(.int .i64 0),(.int .i64 0),(.int .i64 0)]]),(.fz 2 3 false [] [[(.str 3 7368564),ex0,(.fz 2 2 false [] [[(.int .i64 0),ex1],[(.int .i64 1),ex2]])],[(.str 3 7827308),ex3,(.fz 2 2 false [] [[(.int .i64 0),ex4],[(.int .i64 1),ex5]])]])])
def progC:C:=.tup [aggC,.int .i64 0,.int .i64 0]
theorem ev_check:evX tc 10000 100 97 [aggC]=some (.int .i64 0):=by kernel_rfl
noncomputable def checkG:List C->Option C:=memoG [([aggC],.int .i64 0)]
theorem check_ext:FdOk Tryz.prog 97 (.ext checkG):=fd_memo (by kernel_rfl) _ (memo_one (ev_ret mixed tc_ok ev_check))
end Go.Proofs.YtefdkgkojlflaaaGreatDoor
