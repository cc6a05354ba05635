/-
 Closed parts that are run: the types of expressions.
-/
import Derived.Test.YtmifmchinfhbnaaGreatDoorTabA3
import Derived.KernelRfl
namespace Go.Proofs.YtmifmchinfhbnaaGreatDoor
open Go.Eng
set_option maxRecDepth 100000
def J53:C:=(.fz 2 1 false [(.int .i64 0),(.bool false)] [[(.int .i64 1)],[(.int .i64 3)]])
theorem of0:J3E tc2 10000 60 138 [([ex0,J53,.bool false],.tup [.int .i64 2,.int .i64 0])]=true:=by kernel_rfl
theorem of1:J3E tc2 10000 60 138 [([ex1,J53,.bool false],.tup [.int .i64 1,.int .i64 0])]=true:=by kernel_rfl
theorem of2:J3E tc2 10000 60 138 [([ex2,J53,.bool false],.tup [.int .i64 3,.int .i64 0])]=true:=by kernel_rfl
theorem of3:J3E tc2 10000 60 138 [([ex3,J53,.bool false],.tup [.int .i64 2,.int .i64 0])]=true:=by kernel_rfl
theorem of4:J3E tc2 10000 60 138 [([ex4,J53,.bool false],.tup [.int .i64 1,.int .i64 0])]=true:=by kernel_rfl
theorem of5:J3E tc2 10000 60 138 [([ex5,J53,.bool false],.tup [.int .i64 3,.int .i64 0])]=true:=by kernel_rfl
noncomputable def ofG:List C->Option C:=Q2z ((((([([ex0,J53,.bool false],.tup [.int .i64 2,.int .i64 0])]++[([ex1,J53,.bool false],.tup [.int .i64 1,.int .i64 0])])++[([ex2,J53,.bool false],.tup [.int .i64 3,.int .i64 0])])++[([ex3,J53,.bool false],.tup [.int .i64 2,.int .i64 0])])++[([ex4,J53,.bool false],.tup [.int .i64 1,.int .i64 0])])++[([ex5,J53,.bool false],.tup [.int .i64 3,.int .i64 0])])
theorem X7a:Q5R Tryz.prog 138 (.ext ofG):=J7l (by kernel_rfl) _ (J1B (J1B (J1B (J1B (J1B (J1e J0b J8a of0) (J1e J0b J8a of1)) (J1e J0b J8a of2)) (J1e J0b J8a of3)) (J1e J0b J8a of4)) (J1e J0b J8a of5))
end Go.Proofs.YtmifmchinfhbnaaGreatDoor
