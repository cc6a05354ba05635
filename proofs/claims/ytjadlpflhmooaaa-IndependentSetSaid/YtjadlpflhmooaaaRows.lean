/-
  No cell of these rows narrows 'for every input' (looked for: loops, veiled, ifaces, maps, wideKeys, modest, calm, conditions, laid).
  DERIVED. THE GIVEN ROWS OF THIS SEAT. 4 by the template 'for every input the law returns true; each argument reads behind the call as it read before'; 0 by the template 'total and deterministic' (their statements: YtjadlpflhmooaaaTotals.lean).
  GIVEN WITH THE SEED: the statements are not yours to turn. If you find one false, say at which input.
  Laid BY PROGRAM, IN A SANDBOX (cutbox-rows.mjs): the forced cells as the released guide's own fill.sh prints them over the translation 2587035fdd235a46… (all of the seat's roots in one cut). By AI agents, Wed Nov 11 2026. No macro, syntax, notation, axiom, sorry.
-/
import Derived.Test.YtjadlpflhmooaaaChecked
import GoSem.Claim
import GoSem.ClaimJoined
import GoSem.ClaimMapViews
import Derived.JoinedTies
import Derived.KernelRfl
namespace Go.Proofs.Ytjadlpflhmooaaa
/- THE CELL 'sum', in the pinned program and in every row, IS THE sha256 OF THE DUMP (.gsa) THAT YtjadlpflhmooaaaProg.lean LOADS. Nothing in Lean hashes anything: it is a label: what it is worth is what the hold of that sum in a sandbox is worth. -/
noncomputable def Try.pinned : Pinned := { name := "ytjadlpflhmooaaa", sum := "2587035fdd235a468cafd6f728e810b3d74957534c3347ffe84bf1be6435d095", checked := Try.checked }
namespace Rows
def none {H : Type} : Left H := { results := [], args := [] }

/-- 'selfstablaw31.IndependentSet': WHATEVER THE INPUT: true; the input reads as it did. -/
def independentSetSpec : ChangeSpec := { name := "independentSet", fn := fun _ => fun
  | [d1, d2] => { results := [.lit (.bool true)], args := [d1, d2] }
  | _ => none }
def independentSetRow : OpenClaim := { program := "ytjadlpflhmooaaa", sum := "2587035fdd235a468cafd6f728e810b3d74957534c3347ffe84bf1be6435d095", func := "selfstab/selfstablaw31.IndependentSet", spec := "independentSet", plainKeys := false, apart := false }
def IndependentSetSaid : Prop := independentSetRow.holds Try.pinned (OpenSpec.ofChange independentSetSpec)

/-- ITS FALSE NEIGHBOUR: 'it returns false'. Refute it at one input. -/
def independentSetWrong : ChangeSpec := { name := "independentSet", fn := fun _ => fun
  | [d1, d2] => { results := [.lit (.bool false)], args := [d1, d2] }
  | _ => none }
def IndependentSetWrongFalsely : Prop := independentSetRow.holds Try.pinned (OpenSpec.ofChange independentSetWrong)

/-- 'selfstablaw29.RingJudges': WHATEVER THE INPUT: true; the input reads as it did. -/
def ringJudgesSpec : ChangeSpec := { name := "ringJudges", fn := fun _ => fun
  | [d1, d2] => { results := [.lit (.bool true)], args := [d1, d2] }
  | _ => none }
def ringJudgesRow : OpenClaim := { program := "ytjadlpflhmooaaa", sum := "2587035fdd235a468cafd6f728e810b3d74957534c3347ffe84bf1be6435d095", func := "selfstab/selfstablaw29.RingJudges", spec := "ringJudges", plainKeys := false, apart := false }
def RingJudgesSaid : Prop := ringJudgesRow.holds Try.pinned (OpenSpec.ofChange ringJudgesSpec)

/-- ITS FALSE NEIGHBOUR: 'it returns false'. Refute it at one input. -/
def ringJudgesWrong : ChangeSpec := { name := "ringJudges", fn := fun _ => fun
  | [d1, d2] => { results := [.lit (.bool false)], args := [d1, d2] }
  | _ => none }
def RingJudgesWrongFalsely : Prop := ringJudgesRow.holds Try.pinned (OpenSpec.ofChange ringJudgesWrong)

/-- 'selfstablaw31.IndependentJudges': WHATEVER THE INPUT: true; the input reads as it did. -/
def independentJudgesSpec : ChangeSpec := { name := "independentJudges", fn := fun _ => fun
  | [d1, d2] => { results := [.lit (.bool true)], args := [d1, d2] }
  | _ => none }
def independentJudgesRow : OpenClaim := { program := "ytjadlpflhmooaaa", sum := "2587035fdd235a468cafd6f728e810b3d74957534c3347ffe84bf1be6435d095", func := "selfstab/selfstablaw31.IndependentJudges", spec := "independentJudges", plainKeys := false, apart := false }
def IndependentJudgesSaid : Prop := independentJudgesRow.holds Try.pinned (OpenSpec.ofChange independentJudgesSpec)

/-- ITS FALSE NEIGHBOUR: 'it returns false'. Refute it at one input. -/
def independentJudgesWrong : ChangeSpec := { name := "independentJudges", fn := fun _ => fun
  | [d1, d2] => { results := [.lit (.bool false)], args := [d1, d2] }
  | _ => none }
def IndependentJudgesWrongFalsely : Prop := independentJudgesRow.holds Try.pinned (OpenSpec.ofChange independentJudgesWrong)

/-- 'selfstablaw34.ClusterJudges': WHATEVER THE INPUT: true; the input reads as it did. -/
def clusterJudgesSpec : ChangeSpec := { name := "clusterJudges", fn := fun _ => fun
  | [d1, d2] => { results := [.lit (.bool true)], args := [d1, d2] }
  | _ => none }
def clusterJudgesRow : OpenClaim := { program := "ytjadlpflhmooaaa", sum := "2587035fdd235a468cafd6f728e810b3d74957534c3347ffe84bf1be6435d095", func := "selfstab/selfstablaw34.ClusterJudges", spec := "clusterJudges", unfollowed := true, recurses := true, plainKeys := false, apart := false }
def ClusterJudgesSaid : Prop := clusterJudgesRow.holds Try.pinned (OpenSpec.ofChange clusterJudgesSpec)

/-- ITS FALSE NEIGHBOUR: 'it returns false'. Refute it at one input. -/
def clusterJudgesWrong : ChangeSpec := { name := "clusterJudges", fn := fun _ => fun
  | [d1, d2] => { results := [.lit (.bool false)], args := [d1, d2] }
  | _ => none }
def ClusterJudgesWrongFalsely : Prop := clusterJudgesRow.holds Try.pinned (OpenSpec.ofChange clusterJudgesWrong)

/- THE SECOND FORM. 'bulk': how many values and letters a reading holds, each counted each time it is reached (what is shared counts as often as it is met; a slice's spare places count too). A statement '..UptoSaid' is the law's where the arguments, and the package variables that the reading takes, are together of bulk at most 1048576: NARROWER than '..Said'. Prove '..Said' where nothing that the law and all that it calls make is longer than what came in: it says more and counts as full. Else prove '..UptoSaid'. A law counts once. -/
mutual
def uptoBulk {H : Type} : DataW H → Nat
  | .lit (.string bytes) => bytes.length + 1
  | .lit _ => 1
  | .nil => 1
  | .ptr d => uptoBulk d + 1
  | .slice elems spare => uptoBulkAll elems + uptoBulkAll spare + 1
  | .agg parts => uptoBulkAll parts + 1
  | .iface _ d => uptoBulk d + 1
  | .map entries => uptoBulkEntries entries + 1
  | .held _ => 1
def uptoBulkAll {H : Type} : List (DataW H) → Nat
  | [] => 0
  | d :: r => uptoBulk d + uptoBulkAll r
def uptoBulkEntries {H : Type} : List (Lit × DataW H) → Nat
  | [] => 0
  | x :: r => uptoBulkEntry x + uptoBulkEntries r
def uptoBulkEntry {H : Type} : Lit × DataW H → Nat
  | (.string bytes, d) => bytes.length + uptoBulk d + 1
  | (_, d) => uptoBulk d + 1
 end
def uptoSmall : (H : Type) → List (DataW H) → Bool := fun _ ds => decide (uptoBulkAll ds ≤ 1048576)
def OpenSpec.upto (s : _root_.Go.ChangeSpec) : _root_.Go.OpenSpec := { _root_.Go.OpenSpec.ofChange s with cond := some uptoSmall }

/-- 'selfstablaw31.IndependentSet', WHERE WHAT IT READS IS OF BULK AT MOST 1048576: true; the input reads as it did. -/
def independentSetUptoRow : OpenClaim := { program := "ytjadlpflhmooaaa", sum := "2587035fdd235a468cafd6f728e810b3d74957534c3347ffe84bf1be6435d095", func := "selfstab/selfstablaw31.IndependentSet", spec := "independentSet", plainKeys := false, apart := false, narrowed := true }
def IndependentSetUptoSaid : Prop := independentSetUptoRow.holds Try.pinned (OpenSpec.upto independentSetSpec)

/-- 'selfstablaw29.RingJudges', WHERE WHAT IT READS IS OF BULK AT MOST 1048576: true; the input reads as it did. -/
def ringJudgesUptoRow : OpenClaim := { program := "ytjadlpflhmooaaa", sum := "2587035fdd235a468cafd6f728e810b3d74957534c3347ffe84bf1be6435d095", func := "selfstab/selfstablaw29.RingJudges", spec := "ringJudges", plainKeys := false, apart := false, narrowed := true }
def RingJudgesUptoSaid : Prop := ringJudgesUptoRow.holds Try.pinned (OpenSpec.upto ringJudgesSpec)

/-- 'selfstablaw31.IndependentJudges', WHERE WHAT IT READS IS OF BULK AT MOST 1048576: true; the input reads as it did. -/
def independentJudgesUptoRow : OpenClaim := { program := "ytjadlpflhmooaaa", sum := "2587035fdd235a468cafd6f728e810b3d74957534c3347ffe84bf1be6435d095", func := "selfstab/selfstablaw31.IndependentJudges", spec := "independentJudges", plainKeys := false, apart := false, narrowed := true }
def IndependentJudgesUptoSaid : Prop := independentJudgesUptoRow.holds Try.pinned (OpenSpec.upto independentJudgesSpec)

/-- 'selfstablaw34.ClusterJudges', WHERE WHAT IT READS IS OF BULK AT MOST 1048576: true; the input reads as it did. -/
def clusterJudgesUptoRow : OpenClaim := { program := "ytjadlpflhmooaaa", sum := "2587035fdd235a468cafd6f728e810b3d74957534c3347ffe84bf1be6435d095", func := "selfstab/selfstablaw34.ClusterJudges", spec := "clusterJudges", unfollowed := true, recurses := true, plainKeys := false, apart := false, narrowed := true }
def ClusterJudgesUptoSaid : Prop := clusterJudgesUptoRow.holds Try.pinned (OpenSpec.upto clusterJudgesSpec)

end Rows
end Go.Proofs.Ytjadlpflhmooaaa
