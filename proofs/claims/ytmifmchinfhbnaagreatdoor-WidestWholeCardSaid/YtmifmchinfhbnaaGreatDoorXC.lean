/-
 Closed parts that are run: the check of the program.
-/
import Derived.Test.YtmifmchinfhbnaaGreatDoorTabA4
import Derived.KernelRfl
namespace Go.Proofs.YtmifmchinfhbnaaGreatDoor
open Go.Eng
set_option maxRecDepth 100000
def Q29:C:=(.agg [(.str 6 128038971140471),(.fz 2 6 false [] [[(.str 1 120),(.int .i64 1),(.int .i64 0),(.int .i64 0),(.int .i64 16),(.int .i64 0)],[(.str 1 112),(.int .i64 3),(.int .i64 0),(.int .i64 0),(.int .i64 0),(.int .i64 0)]]),(.fz 2 3 false [] [[(.str 3 7368564),ex0,(.fz 2 2 false [] [[(.int .i64 0),ex1],[(.int .i64 1),ex2]])],[(.str 3 7827308),ex3,(.fz 2 2 false [] [[(.int .i64 0),ex4],[(.int .i64 1),ex5]])]])])
def X6Z:C:=.tup [Q29,.int .i64 0,.int .i64 0]
theorem Q4q:evX tc 10000 100 56 [Q29]=some (.int .i64 0):=by kernel_rfl
noncomputable def X27:List C->Option C:=Q2z [([Q29],.int .i64 0)]
theorem Q88:Q5R Tryz.prog 56 (.ext X27):=J7l (by kernel_rfl) _ (Q31 (J7o J0b X6G Q4q))
end Go.Proofs.YtmifmchinfhbnaaGreatDoor
