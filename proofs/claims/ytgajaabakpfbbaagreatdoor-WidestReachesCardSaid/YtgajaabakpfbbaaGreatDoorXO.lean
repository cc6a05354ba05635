/-
 Closed parts that are run: the types of expressions.
-/
import Derived.Test.YtgajaabakpfbbaaGreatDoorTabA3
import Derived.KernelRfl
namespace Go.Proofs.YtgajaabakpfbbaaGreatDoor
open Go.Eng
set_option maxRecDepth 100000
def J5C:C:=(.fz 2 1 false [(.int .i64 0),(.bool false)] [[(.int .i64 1)],[(.int .i64 3)]])
theorem of0:J3e tc2 10000 60 167 [([ex0,J5C,.bool false],.tup [.int .i64 2,.int .i64 0])] = true:=by kernel_rfl
theorem of1:J3e tc2 10000 60 167 [([ex1,J5C,.bool false],.tup [.int .i64 1,.int .i64 0])] = true:=by kernel_rfl
theorem of2:J3e tc2 10000 60 167 [([ex2,J5C,.bool false],.tup [.int .i64 3,.int .i64 0])] = true:=by kernel_rfl
theorem of3:J3e tc2 10000 60 167 [([ex3,J5C,.bool false],.tup [.int .i64 2,.int .i64 0])] = true:=by kernel_rfl
theorem of4:J3e tc2 10000 60 167 [([ex4,J5C,.bool false],.tup [.int .i64 1,.int .i64 0])] = true:=by kernel_rfl
theorem of5:J3e tc2 10000 60 167 [([ex5,J5C,.bool false],.tup [.int .i64 3,.int .i64 0])] = true:=by kernel_rfl
noncomputable def ofG:List C→Option C:=memoG ((((([([ex0,J5C,.bool false],.tup [.int .i64 2,.int .i64 0])] ++ [([ex1,J5C,.bool false],.tup [.int .i64 1,.int .i64 0])]) ++ [([ex2,J5C,.bool false],.tup [.int .i64 3,.int .i64 0])]) ++ [([ex3,J5C,.bool false],.tup [.int .i64 2,.int .i64 0])]) ++ [([ex4,J5C,.bool false],.tup [.int .i64 1,.int .i64 0])]) ++ [([ex5,J5C,.bool false],.tup [.int .i64 3,.int .i64 0])])
theorem of_ext:FdOk Tryz.prog 167 (.ext ofG):=J6V (by kernel_rfl) _ (J1q (J1q (J1q (J1q (J1q (J05 J0a J7D of0) (J05 J0a J7D of1)) (J05 J0a J7D of2)) (J05 J0a J7D of3)) (J05 J0a J7D of4)) (J05 J0a J7D of5))
end Go.Proofs.YtgajaabakpfbbaaGreatDoor
