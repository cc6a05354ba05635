/-
  No cell of these rows narrows 'for every input' (looked for: loops, veiled, ifaces, maps, wideKeys, modest, calm, conditions, laid).
  DERIVED. THE GIVEN ROWS OF THIS SEAT. 6 by the template 'for every input the law returns true; each argument reads behind the call as it read before'; 0 by the template 'total and deterministic' (their statements: YtinmenifoebfmaaGreatTotals.lean).
  GIVEN WITH THE SEED: the statements are not yours to turn. If you find one false, say at which input.
  Laid BY PROGRAM, IN A SANDBOX (cutbox-rows.mjs): the forced cells as the released guide's own fill.sh prints them over the translation 1c595d855a9e4661… (all of the seat's roots in one cut). By AI agents, Wed Nov 11 2026. No macro, syntax, notation, axiom, sorry.
-/
import Derived.Test.YtinmenifoebfmaaGreatChecked
import GoSem.Claim
import GoSem.ClaimJoined
import GoSem.ClaimMapViews
import Derived.JoinedTies
import Derived.KernelRfl
namespace Go.Proofs.YtinmenifoebfmaaGreat
/- THE CELL 'sum', in the pinned program and in every row, IS THE sha256 OF THE DUMP (.gsa) THAT YtinmenifoebfmaaGreatProg.lean LOADS. Nothing in Lean hashes anything: it is a label: what it is worth is what the hold of that sum in a sandbox is worth. -/
noncomputable def Tryz.pinned : Pinned := { name := "ytinmenifoebfmaagreat", sum := "1c595d855a9e4661067d7a6403e71740ad661ba5d0e433cf005db25818310fe6", checked := Tryz.checked }
namespace Rows
def none {H : Type} : Left H := { results := [], args := [] }

/-- 'selfstablaw31.IndependentText': WHATEVER THE INPUT: true; the input reads as it did. -/
def independentTextSpec : ChangeSpec := { name := "independentText", fn := fun _ => fun
  | [d] => { results := [.lit (.bool true)], args := [d] }
  | _ => none }
def independentTextRow : OpenClaim := { program := "ytinmenifoebfmaagreat", sum := "1c595d855a9e4661067d7a6403e71740ad661ba5d0e433cf005db25818310fe6", func := "selfstab/selfstablaw31.IndependentText", spec := "independentText", inPlace := ["internal/bytealg.IndexByteString"], unfollowed := true, recurses := true, plainKeys := false, apart := false }
def IndependentTextSaid : Prop := independentTextRow.holds Tryz.pinned (OpenSpec.ofChange independentTextSpec)

/-- ITS FALSE NEIGHBOUR: 'it returns false'. Refute it at one input. -/
def independentTextWrong : ChangeSpec := { name := "independentText", fn := fun _ => fun
  | [d] => { results := [.lit (.bool false)], args := [d] }
  | _ => none }
def IndependentTextWrongFalsely : Prop := independentTextRow.holds Tryz.pinned (OpenSpec.ofChange independentTextWrong)

/-- 'selfstablaw34.ClusterText': WHATEVER THE INPUT: true; the input reads as it did. -/
def clusterTextSpec : ChangeSpec := { name := "clusterText", fn := fun _ => fun
  | [d] => { results := [.lit (.bool true)], args := [d] }
  | _ => none }
def clusterTextRow : OpenClaim := { program := "ytinmenifoebfmaagreat", sum := "1c595d855a9e4661067d7a6403e71740ad661ba5d0e433cf005db25818310fe6", func := "selfstab/selfstablaw34.ClusterText", spec := "clusterText", inPlace := ["internal/bytealg.IndexByteString"], unfollowed := true, recurses := true, plainKeys := false, apart := false }
def ClusterTextSaid : Prop := clusterTextRow.holds Tryz.pinned (OpenSpec.ofChange clusterTextSpec)

/-- ITS FALSE NEIGHBOUR: 'it returns false'. Refute it at one input. -/
def clusterTextWrong : ChangeSpec := { name := "clusterText", fn := fun _ => fun
  | [d] => { results := [.lit (.bool false)], args := [d] }
  | _ => none }
def ClusterTextWrongFalsely : Prop := clusterTextRow.holds Tryz.pinned (OpenSpec.ofChange clusterTextWrong)

/-- 'selfstablaw25.WidestText': WHATEVER THE INPUT: true; the input reads as it did. -/
def widestTextSpec : ChangeSpec := { name := "widestText", fn := fun _ => fun
  | [d] => { results := [.lit (.bool true)], args := [d] }
  | _ => none }
def widestTextRow : OpenClaim := { program := "ytinmenifoebfmaagreat", sum := "1c595d855a9e4661067d7a6403e71740ad661ba5d0e433cf005db25818310fe6", func := "selfstab/selfstablaw25.WidestText", spec := "widestText", inPlace := ["internal/bytealg.IndexByteString"], unfollowed := true, recurses := true, plainKeys := false, apart := false }
def WidestTextSaid : Prop := widestTextRow.holds Tryz.pinned (OpenSpec.ofChange widestTextSpec)

/-- ITS FALSE NEIGHBOUR: 'it returns false'. Refute it at one input. -/
def widestTextWrong : ChangeSpec := { name := "widestText", fn := fun _ => fun
  | [d] => { results := [.lit (.bool false)], args := [d] }
  | _ => none }
def WidestTextWrongFalsely : Prop := widestTextRow.holds Tryz.pinned (OpenSpec.ofChange widestTextWrong)

/-- 'selfstablaw36.ClockText': WHATEVER THE INPUT: true; the input reads as it did. -/
def clockTextSpec : ChangeSpec := { name := "clockText", fn := fun _ => fun
  | [d] => { results := [.lit (.bool true)], args := [d] }
  | _ => none }
def clockTextRow : OpenClaim := { program := "ytinmenifoebfmaagreat", sum := "1c595d855a9e4661067d7a6403e71740ad661ba5d0e433cf005db25818310fe6", func := "selfstab/selfstablaw36.ClockText", spec := "clockText", inPlace := ["internal/bytealg.IndexByteString"], unfollowed := true, recurses := true, plainKeys := false, apart := false }
def ClockTextSaid : Prop := clockTextRow.holds Tryz.pinned (OpenSpec.ofChange clockTextSpec)

/-- ITS FALSE NEIGHBOUR: 'it returns false'. Refute it at one input. -/
def clockTextWrong : ChangeSpec := { name := "clockText", fn := fun _ => fun
  | [d] => { results := [.lit (.bool false)], args := [d] }
  | _ => none }
def ClockTextWrongFalsely : Prop := clockTextRow.holds Tryz.pinned (OpenSpec.ofChange clockTextWrong)

/-- 'selfstablaw36.ClockJudges': WHATEVER THE INPUT: true; the input reads as it did. -/
def clockJudgesSpec : ChangeSpec := { name := "clockJudges", fn := fun _ => fun
  | [d1, d2] => { results := [.lit (.bool true)], args := [d1, d2] }
  | _ => none }
def clockJudgesRow : OpenClaim := { program := "ytinmenifoebfmaagreat", sum := "1c595d855a9e4661067d7a6403e71740ad661ba5d0e433cf005db25818310fe6", func := "selfstab/selfstablaw36.ClockJudges", spec := "clockJudges", inPlace := ["internal/bytealg.IndexByteString"], unfollowed := true, recurses := true, plainKeys := false, apart := false }
def ClockJudgesSaid : Prop := clockJudgesRow.holds Tryz.pinned (OpenSpec.ofChange clockJudgesSpec)

/-- ITS FALSE NEIGHBOUR: 'it returns false'. Refute it at one input. -/
def clockJudgesWrong : ChangeSpec := { name := "clockJudges", fn := fun _ => fun
  | [d1, d2] => { results := [.lit (.bool false)], args := [d1, d2] }
  | _ => none }
def ClockJudgesWrongFalsely : Prop := clockJudgesRow.holds Tryz.pinned (OpenSpec.ofChange clockJudgesWrong)

/-- 'selfstablaw29.RingTokens': WHATEVER THE INPUT: true; the input reads as it did. -/
def ringTokensSpec : ChangeSpec := { name := "ringTokens", fn := fun _ => fun
  | [d1, d2] => { results := [.lit (.bool true)], args := [d1, d2] }
  | _ => none }
def ringTokensRow : OpenClaim := { program := "ytinmenifoebfmaagreat", sum := "1c595d855a9e4661067d7a6403e71740ad661ba5d0e433cf005db25818310fe6", func := "selfstab/selfstablaw29.RingTokens", spec := "ringTokens", inPlace := ["internal/bytealg.IndexByteString"], unfollowed := true, recurses := true, plainKeys := false, apart := false }
def RingTokensSaid : Prop := ringTokensRow.holds Tryz.pinned (OpenSpec.ofChange ringTokensSpec)

/-- ITS FALSE NEIGHBOUR: 'it returns false'. Refute it at one input. -/
def ringTokensWrong : ChangeSpec := { name := "ringTokens", fn := fun _ => fun
  | [d1, d2] => { results := [.lit (.bool false)], args := [d1, d2] }
  | _ => none }
def RingTokensWrongFalsely : Prop := ringTokensRow.holds Tryz.pinned (OpenSpec.ofChange ringTokensWrong)

/- THE SECOND FORM. 'bulk': how many values and letters a reading holds, each counted each time it is reached (what is shared counts as often as it is met; a slice's spare places count too). A statement '..UptoSaid' is the law's where the arguments, and the package variables that the reading takes, are together of bulk at most 1048576: NARROWER than '..Said'. Prove '..Said' where nothing that the law and all that it calls make is longer than what came in: it says more and counts as full. Else prove '..UptoSaid'. A law counts once. -/
mutual
def uptoBulk {H : Type} : DataW H → Nat
  | .lit (.string bytes) => bytes.length + 1
  | .lit _ => 1
  | .nil => 1
  | .ptr d => uptoBulk d + 1
  | .slice elems spare => uptoBulkAll elems + uptoBulkAll spare + 1
  | .agg parts => uptoBulkAll parts + 1
  | .iface _ d => uptoBulk d + 1
  | .map entries => uptoBulkEntries entries + 1
  | .held _ => 1
def uptoBulkAll {H : Type} : List (DataW H) → Nat
  | [] => 0
  | d :: r => uptoBulk d + uptoBulkAll r
def uptoBulkEntries {H : Type} : List (Lit × DataW H) → Nat
  | [] => 0
  | x :: r => uptoBulkEntry x + uptoBulkEntries r
def uptoBulkEntry {H : Type} : Lit × DataW H → Nat
  | (.string bytes, d) => bytes.length + uptoBulk d + 1
  | (_, d) => uptoBulk d + 1
 end
def uptoSmall : (H : Type) → List (DataW H) → Bool := fun _ ds => decide (uptoBulkAll ds ≤ 1048576)
def OpenSpec.upto (s : _root_.Go.ChangeSpec) : _root_.Go.OpenSpec := { _root_.Go.OpenSpec.ofChange s with cond := some uptoSmall }

/-- 'selfstablaw31.IndependentText', WHERE WHAT IT READS IS OF BULK AT MOST 1048576: true; the input reads as it did. -/
def independentTextUptoRow : OpenClaim := { program := "ytinmenifoebfmaagreat", sum := "1c595d855a9e4661067d7a6403e71740ad661ba5d0e433cf005db25818310fe6", func := "selfstab/selfstablaw31.IndependentText", spec := "independentText", inPlace := ["internal/bytealg.IndexByteString"], unfollowed := true, recurses := true, plainKeys := false, apart := false, narrowed := true }
def IndependentTextUptoSaid : Prop := independentTextUptoRow.holds Tryz.pinned (OpenSpec.upto independentTextSpec)

/-- 'selfstablaw34.ClusterText', WHERE WHAT IT READS IS OF BULK AT MOST 1048576: true; the input reads as it did. -/
def clusterTextUptoRow : OpenClaim := { program := "ytinmenifoebfmaagreat", sum := "1c595d855a9e4661067d7a6403e71740ad661ba5d0e433cf005db25818310fe6", func := "selfstab/selfstablaw34.ClusterText", spec := "clusterText", inPlace := ["internal/bytealg.IndexByteString"], unfollowed := true, recurses := true, plainKeys := false, apart := false, narrowed := true }
def ClusterTextUptoSaid : Prop := clusterTextUptoRow.holds Tryz.pinned (OpenSpec.upto clusterTextSpec)

/-- 'selfstablaw25.WidestText', WHERE WHAT IT READS IS OF BULK AT MOST 1048576: true; the input reads as it did. -/
def widestTextUptoRow : OpenClaim := { program := "ytinmenifoebfmaagreat", sum := "1c595d855a9e4661067d7a6403e71740ad661ba5d0e433cf005db25818310fe6", func := "selfstab/selfstablaw25.WidestText", spec := "widestText", inPlace := ["internal/bytealg.IndexByteString"], unfollowed := true, recurses := true, plainKeys := false, apart := false, narrowed := true }
def WidestTextUptoSaid : Prop := widestTextUptoRow.holds Tryz.pinned (OpenSpec.upto widestTextSpec)

/-- 'selfstablaw36.ClockText', WHERE WHAT IT READS IS OF BULK AT MOST 1048576: true; the input reads as it did. -/
def clockTextUptoRow : OpenClaim := { program := "ytinmenifoebfmaagreat", sum := "1c595d855a9e4661067d7a6403e71740ad661ba5d0e433cf005db25818310fe6", func := "selfstab/selfstablaw36.ClockText", spec := "clockText", inPlace := ["internal/bytealg.IndexByteString"], unfollowed := true, recurses := true, plainKeys := false, apart := false, narrowed := true }
def ClockTextUptoSaid : Prop := clockTextUptoRow.holds Tryz.pinned (OpenSpec.upto clockTextSpec)

/-- 'selfstablaw36.ClockJudges', WHERE WHAT IT READS IS OF BULK AT MOST 1048576: true; the input reads as it did. -/
def clockJudgesUptoRow : OpenClaim := { program := "ytinmenifoebfmaagreat", sum := "1c595d855a9e4661067d7a6403e71740ad661ba5d0e433cf005db25818310fe6", func := "selfstab/selfstablaw36.ClockJudges", spec := "clockJudges", inPlace := ["internal/bytealg.IndexByteString"], unfollowed := true, recurses := true, plainKeys := false, apart := false, narrowed := true }
def ClockJudgesUptoSaid : Prop := clockJudgesUptoRow.holds Tryz.pinned (OpenSpec.upto clockJudgesSpec)

/-- 'selfstablaw29.RingTokens', WHERE WHAT IT READS IS OF BULK AT MOST 1048576: true; the input reads as it did. -/
def ringTokensUptoRow : OpenClaim := { program := "ytinmenifoebfmaagreat", sum := "1c595d855a9e4661067d7a6403e71740ad661ba5d0e433cf005db25818310fe6", func := "selfstab/selfstablaw29.RingTokens", spec := "ringTokens", inPlace := ["internal/bytealg.IndexByteString"], unfollowed := true, recurses := true, plainKeys := false, apart := false, narrowed := true }
def RingTokensUptoSaid : Prop := ringTokensUptoRow.holds Tryz.pinned (OpenSpec.upto ringTokensSpec)

end Rows
end Go.Proofs.YtinmenifoebfmaaGreat
