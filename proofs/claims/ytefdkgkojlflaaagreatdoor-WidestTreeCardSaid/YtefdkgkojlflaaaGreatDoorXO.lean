/-
 Closed runs: the types of expressions.
-/
import Derived.Test.YtefdkgkojlflaaaGreatDoorTabA3
import Derived.KernelRfl
namespace Go.Proofs.YtefdkgkojlflaaaGreatDoor
open Go.Eng
set_option maxRecDepth 100000
def kinds:C:=(.fz 2 1 false [(.int .i64 0),(.bool false)] [[(.int .i64 1)],[(.int .i64 3)]])
theorem of0:memoB tc2 10000 60 163 [([ex0,kinds,.bool false],.tup [.int .i64 2,.int .i64 0])]=true:=by kernel_rfl
theorem of1:memoB tc2 10000 60 163 [([ex1,kinds,.bool false],.tup [.int .i64 1,.int .i64 0])]=true:=by kernel_rfl
theorem of2:memoB tc2 10000 60 163 [([ex2,kinds,.bool false],.tup [.int .i64 3,.int .i64 0])]=true:=by kernel_rfl
theorem of3:memoB tc2 10000 60 163 [([ex3,kinds,.bool false],.tup [.int .i64 2,.int .i64 0])]=true:=by kernel_rfl
theorem of4:memoB tc2 10000 60 163 [([ex4,kinds,.bool false],.tup [.int .i64 1,.int .i64 0])]=true:=by kernel_rfl
theorem of5:memoB tc2 10000 60 163 [([ex5,kinds,.bool false],.tup [.int .i64 3,.int .i64 0])]=true:=by kernel_rfl
noncomputable def ofG:List C->Option C:=memoG ((((([([ex0,kinds,.bool false],.tup [.int .i64 2,.int .i64 0])]++[([ex1,kinds,.bool false],.tup [.int .i64 1,.int .i64 0])])++[([ex2,kinds,.bool false],.tup [.int .i64 3,.int .i64 0])])++[([ex3,kinds,.bool false],.tup [.int .i64 2,.int .i64 0])])++[([ex4,kinds,.bool false],.tup [.int .i64 1,.int .i64 0])])++[([ex5,kinds,.bool false],.tup [.int .i64 3,.int .i64 0])])
theorem of_ext:FdOk Tryz.prog 163 (.ext ofG):=fd_memo (by kernel_rfl) _ (memo_app (memo_app (memo_app (memo_app (memo_app (memo_run mixed tc2_ok of0) (memo_run mixed tc2_ok of1)) (memo_run mixed tc2_ok of2)) (memo_run mixed tc2_ok of3)) (memo_run mixed tc2_ok of4)) (memo_run mixed tc2_ok of5))
end Go.Proofs.YtefdkgkojlflaaaGreatDoor
