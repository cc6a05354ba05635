/-
 Closed runs: the check of the program.
-/
import Derived.Test.YtefdkgkojlflaaaGreatDoorTabA4
namespace Go.Proofs.YtefdkgkojlflaaaGreatDoor
open Go.Eng
set_option maxRecDepth 100000
def Q2q:C:=(.agg [(.str 6 128038971140471),(.fz 2 6 false [] [[(.str 1 120),(.int .i64 1),(.int .i64 0),(.int .i64 0),(.int .i64 16),(.int .i64 0)],[(.str 1 112),(.int .i64 3),(.int .i64 0),(.int .i64 0),(.int .i64 0),(.int .i64 0)]]),(.fz 2 3 false [] [[(.str 3 7368564),ex0,(.fz 2 2 false [] [[(.int .i64 0),ex1],[(.int .i64 1),ex2]])],[(.str 3 7827308),ex3,(.fz 2 2 false [] [[(.int .i64 0),ex4],[(.int .i64 1),ex5]])]])])
def X6h:C:=.tup [Q2q,.int .i64 0,.int .i64 0]
theorem Q3H:evX tc 10000 100 97 [Q2q]=some (.int .i64 0):=by kernel_rfl
noncomputable def X2C:List C->Option C:=Q1P [([Q2q],.int .i64 0)]
theorem Q8i:Q5e Tryz.prog 97 (.ext X2C):=J7p (by kernel_rfl) _ (Q3i (J7r mixed X5W Q3H))
end Go.Proofs.YtefdkgkojlflaaaGreatDoor
