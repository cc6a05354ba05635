/-
  NARROWER THAN 'FOR EVERY INPUT', by the rows' own cells (each row's printed sentence says how): DaemonChooses: laid · DaemonGreedyIsMaximal: laid · DaemonListsWhatItPermits: laid · DaemonResolvesToPermitted: laid · DaemonPermitsParts: laid · DaemonPermits: laid · DaemonIsWithin: laid.
  DERIVED. THE GIVEN ROWS OF THIS SEAT. 7 by the template 'for every input the law returns true; each argument reads behind the call as it read before'; 0 by the template 'total and deterministic' (their statements: YtjadlpflhmooaaaDoorTotals.lean).
  GIVEN WITH THE SEED: the statements are not yours to turn. If you find one false, say at which input.
  Laid BY PROGRAM, IN A SANDBOX (cutbox-rows.mjs): the forced cells as the released guide's own fill.sh prints them over the translation a08c35b36c25d795… (all of the seat's roots in one cut). By AI agents, Wed Nov 11 2026. No macro, syntax, notation, axiom, sorry.
-/
import Derived.Test.YtjadlpflhmooaaaDoorChecked
import GoSem.Claim
import GoSem.ClaimJoined
import GoSem.ClaimMapViews
import Derived.JoinedTies
import Derived.KernelRfl
namespace Go.Proofs.YtjadlpflhmooaaaDoor
/- THE CELL 'sum', in the pinned program and in every row, IS THE sha256 OF THE DUMP (.gsa) THAT YtjadlpflhmooaaaDoorProg.lean LOADS. Nothing in Lean hashes anything: it is a label: what it is worth is what the hold of that sum in a sandbox is worth. -/
noncomputable def Tryd.pinned : Pinned := { name := "ytjadlpflhmooaaadoor", sum := "a08c35b36c25d795ace0c7ff0b816f45da568e14de06712cd1f3a23756a5fa90", checked := Tryd.checked }
namespace Rows
def none {H : Type} : Left H := { results := [], args := [] }

/- WHAT THE LISTED PACKAGE-LEVEL VARIABLES READ AS WHEN THE CALL BEGINS. Each datum BY PROGRAM (the guide's laid-datum.mjs) off the statement by which the dump's own 'gosem.cut.vars' lays the variable. In a bare row this is a premise. The card (YtjadlpflhmooaaaDoorCards.lean) ties it to the program's text. -/
def laid_math_bits_deBruijn32tab {H : Type} : DataW H := .agg [.lit (.int .u8 0), .lit (.int .u8 1), .lit (.int .u8 28), .lit (.int .u8 2), .lit (.int .u8 29), .lit (.int .u8 14), .lit (.int .u8 24), .lit (.int .u8 3), .lit (.int .u8 30), .lit (.int .u8 22), .lit (.int .u8 20), .lit (.int .u8 15), .lit (.int .u8 25), .lit (.int .u8 17), .lit (.int .u8 4), .lit (.int .u8 8), .lit (.int .u8 31), .lit (.int .u8 27), .lit (.int .u8 13), .lit (.int .u8 23), .lit (.int .u8 21), .lit (.int .u8 19), .lit (.int .u8 16), .lit (.int .u8 7), .lit (.int .u8 26), .lit (.int .u8 12), .lit (.int .u8 18), .lit (.int .u8 6), .lit (.int .u8 11), .lit (.int .u8 5), .lit (.int .u8 10), .lit (.int .u8 9)]

/-- 'selfstablaw15.DaemonChooses': WHATEVER THE INPUT: true; the input reads as it did. -/
def daemonChoosesSpec : ChangeSpec := { name := "daemonChooses", fn := fun _ => fun
  | [d1, d2, d3, d4] => { results := [.lit (.bool true)], args := [d1, d2, d3, d4] }
  | _ => none }
def daemonChoosesRow : OpenClaim := { program := "ytjadlpflhmooaaadoor", sum := "a08c35b36c25d795ace0c7ff0b816f45da568e14de06712cd1f3a23756a5fa90", func := "selfstab/selfstablaw15.DaemonChooses", spec := "daemonChooses", unfollowed := true, recurses := true, named := ["math/bits.deBruijn32tab"], plainKeys := false, apart := false, laid := [("math/bits.deBruijn32tab", laid_math_bits_deBruijn32tab)] }
def DaemonChoosesSaid : Prop := daemonChoosesRow.holds Tryd.pinned (OpenSpec.ofChange daemonChoosesSpec)

/-- ITS FALSE NEIGHBOUR: 'it returns false'. Refute it at one input. -/
def daemonChoosesWrong : ChangeSpec := { name := "daemonChooses", fn := fun _ => fun
  | [d1, d2, d3, d4] => { results := [.lit (.bool false)], args := [d1, d2, d3, d4] }
  | _ => none }
def DaemonChoosesWrongFalsely : Prop := daemonChoosesRow.holds Tryd.pinned (OpenSpec.ofChange daemonChoosesWrong)

/-- 'selfstablaw15.DaemonGreedyIsMaximal': WHATEVER THE INPUT: true; the input reads as it did. -/
def daemonGreedyIsMaximalSpec : ChangeSpec := { name := "daemonGreedyIsMaximal", fn := fun _ => fun
  | [d1, d2, d3] => { results := [.lit (.bool true)], args := [d1, d2, d3] }
  | _ => none }
def daemonGreedyIsMaximalRow : OpenClaim := { program := "ytjadlpflhmooaaadoor", sum := "a08c35b36c25d795ace0c7ff0b816f45da568e14de06712cd1f3a23756a5fa90", func := "selfstab/selfstablaw15.DaemonGreedyIsMaximal", spec := "daemonGreedyIsMaximal", unfollowed := true, recurses := true, named := ["math/bits.deBruijn32tab"], plainKeys := false, apart := false, laid := [("math/bits.deBruijn32tab", laid_math_bits_deBruijn32tab)] }
def DaemonGreedyIsMaximalSaid : Prop := daemonGreedyIsMaximalRow.holds Tryd.pinned (OpenSpec.ofChange daemonGreedyIsMaximalSpec)

/-- ITS FALSE NEIGHBOUR: 'it returns false'. Refute it at one input. -/
def daemonGreedyIsMaximalWrong : ChangeSpec := { name := "daemonGreedyIsMaximal", fn := fun _ => fun
  | [d1, d2, d3] => { results := [.lit (.bool false)], args := [d1, d2, d3] }
  | _ => none }
def DaemonGreedyIsMaximalWrongFalsely : Prop := daemonGreedyIsMaximalRow.holds Tryd.pinned (OpenSpec.ofChange daemonGreedyIsMaximalWrong)

/-- 'selfstablaw15.DaemonListsWhatItPermits': WHATEVER THE INPUT: true; the input reads as it did. -/
def daemonListsWhatItPermitsSpec : ChangeSpec := { name := "daemonListsWhatItPermits", fn := fun _ => fun
  | [d1, d2, d3, d4] => { results := [.lit (.bool true)], args := [d1, d2, d3, d4] }
  | _ => none }
def daemonListsWhatItPermitsRow : OpenClaim := { program := "ytjadlpflhmooaaadoor", sum := "a08c35b36c25d795ace0c7ff0b816f45da568e14de06712cd1f3a23756a5fa90", func := "selfstab/selfstablaw15.DaemonListsWhatItPermits", spec := "daemonListsWhatItPermits", unfollowed := true, recurses := true, named := ["math/bits.deBruijn32tab"], plainKeys := false, apart := false, laid := [("math/bits.deBruijn32tab", laid_math_bits_deBruijn32tab)] }
def DaemonListsWhatItPermitsSaid : Prop := daemonListsWhatItPermitsRow.holds Tryd.pinned (OpenSpec.ofChange daemonListsWhatItPermitsSpec)

/-- ITS FALSE NEIGHBOUR: 'it returns false'. Refute it at one input. -/
def daemonListsWhatItPermitsWrong : ChangeSpec := { name := "daemonListsWhatItPermits", fn := fun _ => fun
  | [d1, d2, d3, d4] => { results := [.lit (.bool false)], args := [d1, d2, d3, d4] }
  | _ => none }
def DaemonListsWhatItPermitsWrongFalsely : Prop := daemonListsWhatItPermitsRow.holds Tryd.pinned (OpenSpec.ofChange daemonListsWhatItPermitsWrong)

/-- 'selfstablaw15.DaemonResolvesToPermitted': WHATEVER THE INPUT: true; the input reads as it did. -/
def daemonResolvesToPermittedSpec : ChangeSpec := { name := "daemonResolvesToPermitted", fn := fun _ => fun
  | [d1, d2, d3, d4] => { results := [.lit (.bool true)], args := [d1, d2, d3, d4] }
  | _ => none }
def daemonResolvesToPermittedRow : OpenClaim := { program := "ytjadlpflhmooaaadoor", sum := "a08c35b36c25d795ace0c7ff0b816f45da568e14de06712cd1f3a23756a5fa90", func := "selfstab/selfstablaw15.DaemonResolvesToPermitted", spec := "daemonResolvesToPermitted", unfollowed := true, recurses := true, named := ["math/bits.deBruijn32tab"], plainKeys := false, apart := false, laid := [("math/bits.deBruijn32tab", laid_math_bits_deBruijn32tab)] }
def DaemonResolvesToPermittedSaid : Prop := daemonResolvesToPermittedRow.holds Tryd.pinned (OpenSpec.ofChange daemonResolvesToPermittedSpec)

/-- ITS FALSE NEIGHBOUR: 'it returns false'. Refute it at one input. -/
def daemonResolvesToPermittedWrong : ChangeSpec := { name := "daemonResolvesToPermitted", fn := fun _ => fun
  | [d1, d2, d3, d4] => { results := [.lit (.bool false)], args := [d1, d2, d3, d4] }
  | _ => none }
def DaemonResolvesToPermittedWrongFalsely : Prop := daemonResolvesToPermittedRow.holds Tryd.pinned (OpenSpec.ofChange daemonResolvesToPermittedWrong)

/-- 'selfstablaw15.DaemonPermitsParts': WHATEVER THE INPUT: true; the input reads as it did. -/
def daemonPermitsPartsSpec : ChangeSpec := { name := "daemonPermitsParts", fn := fun _ => fun
  | [d1, d2, d3, d4, d5] => { results := [.lit (.bool true)], args := [d1, d2, d3, d4, d5] }
  | _ => none }
def daemonPermitsPartsRow : OpenClaim := { program := "ytjadlpflhmooaaadoor", sum := "a08c35b36c25d795ace0c7ff0b816f45da568e14de06712cd1f3a23756a5fa90", func := "selfstab/selfstablaw15.DaemonPermitsParts", spec := "daemonPermitsParts", unfollowed := true, recurses := true, named := ["math/bits.deBruijn32tab"], plainKeys := false, apart := false, laid := [("math/bits.deBruijn32tab", laid_math_bits_deBruijn32tab)] }
def DaemonPermitsPartsSaid : Prop := daemonPermitsPartsRow.holds Tryd.pinned (OpenSpec.ofChange daemonPermitsPartsSpec)

/-- ITS FALSE NEIGHBOUR: 'it returns false'. Refute it at one input. -/
def daemonPermitsPartsWrong : ChangeSpec := { name := "daemonPermitsParts", fn := fun _ => fun
  | [d1, d2, d3, d4, d5] => { results := [.lit (.bool false)], args := [d1, d2, d3, d4, d5] }
  | _ => none }
def DaemonPermitsPartsWrongFalsely : Prop := daemonPermitsPartsRow.holds Tryd.pinned (OpenSpec.ofChange daemonPermitsPartsWrong)

/-- 'selfstablaw15.DaemonPermits': WHATEVER THE INPUT: true; the input reads as it did. -/
def daemonPermitsSpec : ChangeSpec := { name := "daemonPermits", fn := fun _ => fun
  | [d1, d2, d3, d4, d5] => { results := [.lit (.bool true)], args := [d1, d2, d3, d4, d5] }
  | _ => none }
def daemonPermitsRow : OpenClaim := { program := "ytjadlpflhmooaaadoor", sum := "a08c35b36c25d795ace0c7ff0b816f45da568e14de06712cd1f3a23756a5fa90", func := "selfstab/selfstablaw15.DaemonPermits", spec := "daemonPermits", unfollowed := true, recurses := true, named := ["math/bits.deBruijn32tab"], plainKeys := false, apart := false, laid := [("math/bits.deBruijn32tab", laid_math_bits_deBruijn32tab)] }
def DaemonPermitsSaid : Prop := daemonPermitsRow.holds Tryd.pinned (OpenSpec.ofChange daemonPermitsSpec)

/-- ITS FALSE NEIGHBOUR: 'it returns false'. Refute it at one input. -/
def daemonPermitsWrong : ChangeSpec := { name := "daemonPermits", fn := fun _ => fun
  | [d1, d2, d3, d4, d5] => { results := [.lit (.bool false)], args := [d1, d2, d3, d4, d5] }
  | _ => none }
def DaemonPermitsWrongFalsely : Prop := daemonPermitsRow.holds Tryd.pinned (OpenSpec.ofChange daemonPermitsWrong)

/-- 'selfstablaw15.DaemonIsWithin': WHATEVER THE INPUT: true; the input reads as it did. -/
def daemonIsWithinSpec : ChangeSpec := { name := "daemonIsWithin", fn := fun _ => fun
  | [d1, d2, d3, d4, d5, d6] => { results := [.lit (.bool true)], args := [d1, d2, d3, d4, d5, d6] }
  | _ => none }
def daemonIsWithinRow : OpenClaim := { program := "ytjadlpflhmooaaadoor", sum := "a08c35b36c25d795ace0c7ff0b816f45da568e14de06712cd1f3a23756a5fa90", func := "selfstab/selfstablaw15.DaemonIsWithin", spec := "daemonIsWithin", unfollowed := true, recurses := true, named := ["math/bits.deBruijn32tab"], plainKeys := false, apart := false, laid := [("math/bits.deBruijn32tab", laid_math_bits_deBruijn32tab)] }
def DaemonIsWithinSaid : Prop := daemonIsWithinRow.holds Tryd.pinned (OpenSpec.ofChange daemonIsWithinSpec)

/-- ITS FALSE NEIGHBOUR: 'it returns false'. Refute it at one input. -/
def daemonIsWithinWrong : ChangeSpec := { name := "daemonIsWithin", fn := fun _ => fun
  | [d1, d2, d3, d4, d5, d6] => { results := [.lit (.bool false)], args := [d1, d2, d3, d4, d5, d6] }
  | _ => none }
def DaemonIsWithinWrongFalsely : Prop := daemonIsWithinRow.holds Tryd.pinned (OpenSpec.ofChange daemonIsWithinWrong)

/- THE SECOND FORM. 'bulk': how many values and letters a reading holds, each counted each time it is reached (what is shared counts as often as it is met; a slice's spare places count too). A statement '..UptoSaid' is the law's where the arguments, and the package variables that the reading takes, are together of bulk at most 1048576: NARROWER than '..Said'. Prove '..Said' where nothing that the law and all that it calls make is longer than what came in: it says more and counts as full. Else prove '..UptoSaid'. A law counts once. -/
mutual
def uptoBulk {H : Type} : DataW H → Nat
  | .lit (.string bytes) => bytes.length + 1
  | .lit _ => 1
  | .nil => 1
  | .ptr d => uptoBulk d + 1
  | .slice elems spare => uptoBulkAll elems + uptoBulkAll spare + 1
  | .agg parts => uptoBulkAll parts + 1
  | .iface _ d => uptoBulk d + 1
  | .map entries => uptoBulkEntries entries + 1
  | .held _ => 1
def uptoBulkAll {H : Type} : List (DataW H) → Nat
  | [] => 0
  | d :: r => uptoBulk d + uptoBulkAll r
def uptoBulkEntries {H : Type} : List (Lit × DataW H) → Nat
  | [] => 0
  | x :: r => uptoBulkEntry x + uptoBulkEntries r
def uptoBulkEntry {H : Type} : Lit × DataW H → Nat
  | (.string bytes, d) => bytes.length + uptoBulk d + 1
  | (_, d) => uptoBulk d + 1
 end
def uptoSmall : (H : Type) → List (DataW H) → Bool := fun _ ds => decide (uptoBulkAll ds ≤ 1048576)
def OpenSpec.upto (s : _root_.Go.ChangeSpec) : _root_.Go.OpenSpec := { _root_.Go.OpenSpec.ofChange s with cond := some uptoSmall }

/-- 'selfstablaw15.DaemonChooses', WHERE WHAT IT READS IS OF BULK AT MOST 1048576: true; the input reads as it did. -/
def daemonChoosesUptoRow : OpenClaim := { program := "ytjadlpflhmooaaadoor", sum := "a08c35b36c25d795ace0c7ff0b816f45da568e14de06712cd1f3a23756a5fa90", func := "selfstab/selfstablaw15.DaemonChooses", spec := "daemonChooses", unfollowed := true, recurses := true, named := ["math/bits.deBruijn32tab"], plainKeys := false, apart := false, laid := [("math/bits.deBruijn32tab", laid_math_bits_deBruijn32tab)], narrowed := true }
def DaemonChoosesUptoSaid : Prop := daemonChoosesUptoRow.holds Tryd.pinned (OpenSpec.upto daemonChoosesSpec)

/-- 'selfstablaw15.DaemonGreedyIsMaximal', WHERE WHAT IT READS IS OF BULK AT MOST 1048576: true; the input reads as it did. -/
def daemonGreedyIsMaximalUptoRow : OpenClaim := { program := "ytjadlpflhmooaaadoor", sum := "a08c35b36c25d795ace0c7ff0b816f45da568e14de06712cd1f3a23756a5fa90", func := "selfstab/selfstablaw15.DaemonGreedyIsMaximal", spec := "daemonGreedyIsMaximal", unfollowed := true, recurses := true, named := ["math/bits.deBruijn32tab"], plainKeys := false, apart := false, laid := [("math/bits.deBruijn32tab", laid_math_bits_deBruijn32tab)], narrowed := true }
def DaemonGreedyIsMaximalUptoSaid : Prop := daemonGreedyIsMaximalUptoRow.holds Tryd.pinned (OpenSpec.upto daemonGreedyIsMaximalSpec)

/-- 'selfstablaw15.DaemonListsWhatItPermits', WHERE WHAT IT READS IS OF BULK AT MOST 1048576: true; the input reads as it did. -/
def daemonListsWhatItPermitsUptoRow : OpenClaim := { program := "ytjadlpflhmooaaadoor", sum := "a08c35b36c25d795ace0c7ff0b816f45da568e14de06712cd1f3a23756a5fa90", func := "selfstab/selfstablaw15.DaemonListsWhatItPermits", spec := "daemonListsWhatItPermits", unfollowed := true, recurses := true, named := ["math/bits.deBruijn32tab"], plainKeys := false, apart := false, laid := [("math/bits.deBruijn32tab", laid_math_bits_deBruijn32tab)], narrowed := true }
def DaemonListsWhatItPermitsUptoSaid : Prop := daemonListsWhatItPermitsUptoRow.holds Tryd.pinned (OpenSpec.upto daemonListsWhatItPermitsSpec)

/-- 'selfstablaw15.DaemonResolvesToPermitted', WHERE WHAT IT READS IS OF BULK AT MOST 1048576: true; the input reads as it did. -/
def daemonResolvesToPermittedUptoRow : OpenClaim := { program := "ytjadlpflhmooaaadoor", sum := "a08c35b36c25d795ace0c7ff0b816f45da568e14de06712cd1f3a23756a5fa90", func := "selfstab/selfstablaw15.DaemonResolvesToPermitted", spec := "daemonResolvesToPermitted", unfollowed := true, recurses := true, named := ["math/bits.deBruijn32tab"], plainKeys := false, apart := false, laid := [("math/bits.deBruijn32tab", laid_math_bits_deBruijn32tab)], narrowed := true }
def DaemonResolvesToPermittedUptoSaid : Prop := daemonResolvesToPermittedUptoRow.holds Tryd.pinned (OpenSpec.upto daemonResolvesToPermittedSpec)

/-- 'selfstablaw15.DaemonPermitsParts', WHERE WHAT IT READS IS OF BULK AT MOST 1048576: true; the input reads as it did. -/
def daemonPermitsPartsUptoRow : OpenClaim := { program := "ytjadlpflhmooaaadoor", sum := "a08c35b36c25d795ace0c7ff0b816f45da568e14de06712cd1f3a23756a5fa90", func := "selfstab/selfstablaw15.DaemonPermitsParts", spec := "daemonPermitsParts", unfollowed := true, recurses := true, named := ["math/bits.deBruijn32tab"], plainKeys := false, apart := false, laid := [("math/bits.deBruijn32tab", laid_math_bits_deBruijn32tab)], narrowed := true }
def DaemonPermitsPartsUptoSaid : Prop := daemonPermitsPartsUptoRow.holds Tryd.pinned (OpenSpec.upto daemonPermitsPartsSpec)

/-- 'selfstablaw15.DaemonPermits', WHERE WHAT IT READS IS OF BULK AT MOST 1048576: true; the input reads as it did. -/
def daemonPermitsUptoRow : OpenClaim := { program := "ytjadlpflhmooaaadoor", sum := "a08c35b36c25d795ace0c7ff0b816f45da568e14de06712cd1f3a23756a5fa90", func := "selfstab/selfstablaw15.DaemonPermits", spec := "daemonPermits", unfollowed := true, recurses := true, named := ["math/bits.deBruijn32tab"], plainKeys := false, apart := false, laid := [("math/bits.deBruijn32tab", laid_math_bits_deBruijn32tab)], narrowed := true }
def DaemonPermitsUptoSaid : Prop := daemonPermitsUptoRow.holds Tryd.pinned (OpenSpec.upto daemonPermitsSpec)

/-- 'selfstablaw15.DaemonIsWithin', WHERE WHAT IT READS IS OF BULK AT MOST 1048576: true; the input reads as it did. -/
def daemonIsWithinUptoRow : OpenClaim := { program := "ytjadlpflhmooaaadoor", sum := "a08c35b36c25d795ace0c7ff0b816f45da568e14de06712cd1f3a23756a5fa90", func := "selfstab/selfstablaw15.DaemonIsWithin", spec := "daemonIsWithin", unfollowed := true, recurses := true, named := ["math/bits.deBruijn32tab"], plainKeys := false, apart := false, laid := [("math/bits.deBruijn32tab", laid_math_bits_deBruijn32tab)], narrowed := true }
def DaemonIsWithinUptoSaid : Prop := daemonIsWithinUptoRow.holds Tryd.pinned (OpenSpec.upto daemonIsWithinSpec)

end Rows
end Go.Proofs.YtjadlpflhmooaaaDoor
