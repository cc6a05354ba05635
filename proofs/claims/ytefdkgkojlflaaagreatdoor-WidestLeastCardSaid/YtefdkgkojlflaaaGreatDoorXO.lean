/-
 Closed runs: the types of expressions.
-/
import Derived.Test.YtefdkgkojlflaaaGreatDoorTabA3
namespace Go.Proofs.YtefdkgkojlflaaaGreatDoor
open Go.Eng
set_option maxRecDepth 100000
def J50:C:=(.fz 2 1 false [(.int .i64 0),(.bool false)] [[(.int .i64 1)],[(.int .i64 3)]])
theorem of0:J3F tc2 10000 60 163 [([ex0,J50,.bool false],.tup [.int .i64 2,.int .i64 0])]=true:=by kernel_rfl
theorem of1:J3F tc2 10000 60 163 [([ex1,J50,.bool false],.tup [.int .i64 1,.int .i64 0])]=true:=by kernel_rfl
theorem of2:J3F tc2 10000 60 163 [([ex2,J50,.bool false],.tup [.int .i64 3,.int .i64 0])]=true:=by kernel_rfl
theorem of3:J3F tc2 10000 60 163 [([ex3,J50,.bool false],.tup [.int .i64 2,.int .i64 0])]=true:=by kernel_rfl
theorem of4:J3F tc2 10000 60 163 [([ex4,J50,.bool false],.tup [.int .i64 1,.int .i64 0])]=true:=by kernel_rfl
theorem of5:J3F tc2 10000 60 163 [([ex5,J50,.bool false],.tup [.int .i64 3,.int .i64 0])]=true:=by kernel_rfl
noncomputable def ofG:List C->Option C:=Q1P ((((([([ex0,J50,.bool false],.tup [.int .i64 2,.int .i64 0])]++[([ex1,J50,.bool false],.tup [.int .i64 1,.int .i64 0])])++[([ex2,J50,.bool false],.tup [.int .i64 3,.int .i64 0])])++[([ex3,J50,.bool false],.tup [.int .i64 2,.int .i64 0])])++[([ex4,J50,.bool false],.tup [.int .i64 1,.int .i64 0])])++[([ex5,J50,.bool false],.tup [.int .i64 3,.int .i64 0])])
theorem X6s:Q5e Tryz.prog 163 (.ext ofG):=J7p (by kernel_rfl) _ (J1y (J1y (J1y (J1y (J1y (J1d mixed J77 of0) (J1d mixed J77 of1)) (J1d mixed J77 of2)) (J1d mixed J77 of3)) (J1d mixed J77 of4)) (J1d mixed J77 of5))
end Go.Proofs.YtefdkgkojlflaaaGreatDoor
