/-
 Closed runs: the scanner.
-/
import Derived.Test.YtlpfphlbghdokaaGreatDoorTabS
namespace Go.Proofs.YtlpfphlbghdokaaGreatDoor
open Go.Eng
set_option maxRecDepth 100000
theorem X41:evX ts 10000 100 55 [Q0o]=some X6n:=by kernel_rfl
noncomputable def X6v:List C->Option C:=Q7y [([Q0o],X6n)]
theorem X0z:Q9H Tryz.prog 55 (.ext X6v):=Q2H (by kernel_rfl) _ (Q3Y (J7w J0b X8V X41))
end Go.Proofs.YtlpfphlbghdokaaGreatDoor
