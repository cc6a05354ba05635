/-
  NARROWER THAN 'FOR EVERY INPUT', by the rows' own cells (each row's printed sentence says how): WidestBottlenecks: laid · WidestLeast: laid · WidestReaches: laid · WidestRests: laid · WidestTree: laid.
  DERIVED. THE GIVEN ROWS OF THIS SEAT. 5 by the template 'for every input the law returns true; each argument reads behind the call as it read before'; 0 by the template 'total and deterministic' (their statements: YtgajaabakpfbbaaGreatDoorTotals.lean).
  GIVEN WITH THE SEED: the statements are not yours to turn. If you find one false, say at which input.
  Laid BY PROGRAM, IN A SANDBOX (cutbox-rows.mjs): the forced cells as the released guide's own fill.sh prints them over the translation fd6bbfe7f8eb39a4… (all of the seat's roots in one cut). By AI agents, Wed Nov 11 2026. No macro, syntax, notation, axiom, sorry.
-/
import Derived.Test.YtgajaabakpfbbaaGreatDoorChecked
import GoSem.Claim
import GoSem.ClaimJoined
import GoSem.ClaimMapViews
import Derived.JoinedTies
import Derived.KernelRfl
namespace Go.Proofs.YtgajaabakpfbbaaGreatDoor
/- THE CELL 'sum', in the pinned program and in every row, IS THE sha256 OF THE DUMP (.gsa) THAT YtgajaabakpfbbaaGreatDoorProg.lean LOADS. Nothing in Lean hashes anything: it is a label: what it is worth is what the hold of that sum in a sandbox is worth. -/
noncomputable def Tryz.pinned : Pinned := { name := "ytgajaabakpfbbaagreatdoor", sum := "fd6bbfe7f8eb39a40969a0d9c5a52d909ca4f82f917aa380985d9d7160743584", checked := Tryz.checked }
namespace Rows
def none {H : Type} : Left H := { results := [], args := [] }

/- WHAT THE LISTED PACKAGE-LEVEL VARIABLES READ AS WHEN THE CALL BEGINS. Each datum BY PROGRAM (the guide's laid-datum.mjs) off the statement by which the dump's own 'gosem.cut.vars' lays the variable. In a bare row this is a premise. The card (YtgajaabakpfbbaaGreatDoorCards.lean) ties it to the program's text. -/
def laid_math_bits_deBruijn32tab {H : Type} : DataW H := .agg [.lit (.int .u8 0), .lit (.int .u8 1), .lit (.int .u8 28), .lit (.int .u8 2), .lit (.int .u8 29), .lit (.int .u8 14), .lit (.int .u8 24), .lit (.int .u8 3), .lit (.int .u8 30), .lit (.int .u8 22), .lit (.int .u8 20), .lit (.int .u8 15), .lit (.int .u8 25), .lit (.int .u8 17), .lit (.int .u8 4), .lit (.int .u8 8), .lit (.int .u8 31), .lit (.int .u8 27), .lit (.int .u8 13), .lit (.int .u8 23), .lit (.int .u8 21), .lit (.int .u8 19), .lit (.int .u8 16), .lit (.int .u8 7), .lit (.int .u8 26), .lit (.int .u8 12), .lit (.int .u8 18), .lit (.int .u8 6), .lit (.int .u8 11), .lit (.int .u8 5), .lit (.int .u8 10), .lit (.int .u8 9)]

/-- 'selfstablaw25.WidestBottlenecks': WHATEVER THE INPUT: true; the input reads as it did. -/
def widestBottlenecksSpec : ChangeSpec := { name := "widestBottlenecks", fn := fun _ => fun
  | [d1, d2] => { results := [.lit (.bool true)], args := [d1, d2] }
  | _ => none }
def widestBottlenecksRow : OpenClaim := { program := "ytgajaabakpfbbaagreatdoor", sum := "fd6bbfe7f8eb39a40969a0d9c5a52d909ca4f82f917aa380985d9d7160743584", func := "selfstab/selfstablaw25.WidestBottlenecks", spec := "widestBottlenecks", inPlace := ["internal/bytealg.IndexByteString"], unfollowed := true, recurses := true, named := ["math/bits.deBruijn32tab"], plainKeys := false, apart := false, laid := [("math/bits.deBruijn32tab", laid_math_bits_deBruijn32tab)] }
def WidestBottlenecksSaid : Prop := widestBottlenecksRow.holds Tryz.pinned (OpenSpec.ofChange widestBottlenecksSpec)

/-- ITS FALSE NEIGHBOUR: 'it returns false'. Refute it at one input. -/
def widestBottlenecksWrong : ChangeSpec := { name := "widestBottlenecks", fn := fun _ => fun
  | [d1, d2] => { results := [.lit (.bool false)], args := [d1, d2] }
  | _ => none }
def WidestBottlenecksWrongFalsely : Prop := widestBottlenecksRow.holds Tryz.pinned (OpenSpec.ofChange widestBottlenecksWrong)

/-- 'selfstablaw25.WidestLeast': WHATEVER THE INPUT: true; the input reads as it did. -/
def widestLeastSpec : ChangeSpec := { name := "widestLeast", fn := fun _ => fun
  | [d] => { results := [.lit (.bool true)], args := [d] }
  | _ => none }
def widestLeastRow : OpenClaim := { program := "ytgajaabakpfbbaagreatdoor", sum := "fd6bbfe7f8eb39a40969a0d9c5a52d909ca4f82f917aa380985d9d7160743584", func := "selfstab/selfstablaw25.WidestLeast", spec := "widestLeast", inPlace := ["internal/bytealg.IndexByteString"], unfollowed := true, recurses := true, named := ["math/bits.deBruijn32tab"], plainKeys := false, apart := false, laid := [("math/bits.deBruijn32tab", laid_math_bits_deBruijn32tab)] }
def WidestLeastSaid : Prop := widestLeastRow.holds Tryz.pinned (OpenSpec.ofChange widestLeastSpec)

/-- ITS FALSE NEIGHBOUR: 'it returns false'. Refute it at one input. -/
def widestLeastWrong : ChangeSpec := { name := "widestLeast", fn := fun _ => fun
  | [d] => { results := [.lit (.bool false)], args := [d] }
  | _ => none }
def WidestLeastWrongFalsely : Prop := widestLeastRow.holds Tryz.pinned (OpenSpec.ofChange widestLeastWrong)

/-- 'selfstablaw25.WidestReaches': WHATEVER THE INPUT: true; the input reads as it did. -/
def widestReachesSpec : ChangeSpec := { name := "widestReaches", fn := fun _ => fun
  | [d1, d2, d3] => { results := [.lit (.bool true)], args := [d1, d2, d3] }
  | _ => none }
def widestReachesRow : OpenClaim := { program := "ytgajaabakpfbbaagreatdoor", sum := "fd6bbfe7f8eb39a40969a0d9c5a52d909ca4f82f917aa380985d9d7160743584", func := "selfstab/selfstablaw25.WidestReaches", spec := "widestReaches", inPlace := ["internal/bytealg.IndexByteString"], unfollowed := true, recurses := true, named := ["math/bits.deBruijn32tab"], plainKeys := false, apart := false, laid := [("math/bits.deBruijn32tab", laid_math_bits_deBruijn32tab)] }
def WidestReachesSaid : Prop := widestReachesRow.holds Tryz.pinned (OpenSpec.ofChange widestReachesSpec)

/-- ITS FALSE NEIGHBOUR: 'it returns false'. Refute it at one input. -/
def widestReachesWrong : ChangeSpec := { name := "widestReaches", fn := fun _ => fun
  | [d1, d2, d3] => { results := [.lit (.bool false)], args := [d1, d2, d3] }
  | _ => none }
def WidestReachesWrongFalsely : Prop := widestReachesRow.holds Tryz.pinned (OpenSpec.ofChange widestReachesWrong)

/-- 'selfstablaw25.WidestRests': WHATEVER THE INPUT: true; the input reads as it did. -/
def widestRestsSpec : ChangeSpec := { name := "widestRests", fn := fun _ => fun
  | [d1, d2, d3] => { results := [.lit (.bool true)], args := [d1, d2, d3] }
  | _ => none }
def widestRestsRow : OpenClaim := { program := "ytgajaabakpfbbaagreatdoor", sum := "fd6bbfe7f8eb39a40969a0d9c5a52d909ca4f82f917aa380985d9d7160743584", func := "selfstab/selfstablaw25.WidestRests", spec := "widestRests", inPlace := ["internal/bytealg.IndexByteString"], unfollowed := true, recurses := true, named := ["math/bits.deBruijn32tab"], plainKeys := false, apart := false, laid := [("math/bits.deBruijn32tab", laid_math_bits_deBruijn32tab)] }
def WidestRestsSaid : Prop := widestRestsRow.holds Tryz.pinned (OpenSpec.ofChange widestRestsSpec)

/-- ITS FALSE NEIGHBOUR: 'it returns false'. Refute it at one input. -/
def widestRestsWrong : ChangeSpec := { name := "widestRests", fn := fun _ => fun
  | [d1, d2, d3] => { results := [.lit (.bool false)], args := [d1, d2, d3] }
  | _ => none }
def WidestRestsWrongFalsely : Prop := widestRestsRow.holds Tryz.pinned (OpenSpec.ofChange widestRestsWrong)

/-- 'selfstablaw25.WidestTree': WHATEVER THE INPUT: true; the input reads as it did. -/
def widestTreeSpec : ChangeSpec := { name := "widestTree", fn := fun _ => fun
  | [d1, d2] => { results := [.lit (.bool true)], args := [d1, d2] }
  | _ => none }
def widestTreeRow : OpenClaim := { program := "ytgajaabakpfbbaagreatdoor", sum := "fd6bbfe7f8eb39a40969a0d9c5a52d909ca4f82f917aa380985d9d7160743584", func := "selfstab/selfstablaw25.WidestTree", spec := "widestTree", inPlace := ["internal/bytealg.IndexByteString"], unfollowed := true, recurses := true, named := ["math/bits.deBruijn32tab"], plainKeys := false, apart := false, laid := [("math/bits.deBruijn32tab", laid_math_bits_deBruijn32tab)] }
def WidestTreeSaid : Prop := widestTreeRow.holds Tryz.pinned (OpenSpec.ofChange widestTreeSpec)

/-- ITS FALSE NEIGHBOUR: 'it returns false'. Refute it at one input. -/
def widestTreeWrong : ChangeSpec := { name := "widestTree", fn := fun _ => fun
  | [d1, d2] => { results := [.lit (.bool false)], args := [d1, d2] }
  | _ => none }
def WidestTreeWrongFalsely : Prop := widestTreeRow.holds Tryz.pinned (OpenSpec.ofChange widestTreeWrong)

/- THE SECOND FORM. 'bulk': how many values and letters a reading holds, each counted each time it is reached (what is shared counts as often as it is met; a slice's spare places count too). A statement '..UptoSaid' is the law's where the arguments, and the package variables that the reading takes, are together of bulk at most 1048576: NARROWER than '..Said'. Prove '..Said' where nothing that the law and all that it calls make is longer than what came in: it says more and counts as full. Else prove '..UptoSaid'. A law counts once. -/
mutual
def uptoBulk {H : Type} : DataW H → Nat
  | .lit (.string bytes) => bytes.length + 1
  | .lit _ => 1
  | .nil => 1
  | .ptr d => uptoBulk d + 1
  | .slice elems spare => uptoBulkAll elems + uptoBulkAll spare + 1
  | .agg parts => uptoBulkAll parts + 1
  | .iface _ d => uptoBulk d + 1
  | .map entries => uptoBulkEntries entries + 1
  | .held _ => 1
def uptoBulkAll {H : Type} : List (DataW H) → Nat
  | [] => 0
  | d :: r => uptoBulk d + uptoBulkAll r
def uptoBulkEntries {H : Type} : List (Lit × DataW H) → Nat
  | [] => 0
  | x :: r => uptoBulkEntry x + uptoBulkEntries r
def uptoBulkEntry {H : Type} : Lit × DataW H → Nat
  | (.string bytes, d) => bytes.length + uptoBulk d + 1
  | (_, d) => uptoBulk d + 1
 end
def uptoSmall : (H : Type) → List (DataW H) → Bool := fun _ ds => decide (uptoBulkAll ds ≤ 1048576)
def OpenSpec.upto (s : _root_.Go.ChangeSpec) : _root_.Go.OpenSpec := { _root_.Go.OpenSpec.ofChange s with cond := some uptoSmall }

/-- 'selfstablaw25.WidestBottlenecks', WHERE WHAT IT READS IS OF BULK AT MOST 1048576: true; the input reads as it did. -/
def widestBottlenecksUptoRow : OpenClaim := { program := "ytgajaabakpfbbaagreatdoor", sum := "fd6bbfe7f8eb39a40969a0d9c5a52d909ca4f82f917aa380985d9d7160743584", func := "selfstab/selfstablaw25.WidestBottlenecks", spec := "widestBottlenecks", inPlace := ["internal/bytealg.IndexByteString"], unfollowed := true, recurses := true, named := ["math/bits.deBruijn32tab"], plainKeys := false, apart := false, laid := [("math/bits.deBruijn32tab", laid_math_bits_deBruijn32tab)], narrowed := true }
def WidestBottlenecksUptoSaid : Prop := widestBottlenecksUptoRow.holds Tryz.pinned (OpenSpec.upto widestBottlenecksSpec)

/-- 'selfstablaw25.WidestLeast', WHERE WHAT IT READS IS OF BULK AT MOST 1048576: true; the input reads as it did. -/
def widestLeastUptoRow : OpenClaim := { program := "ytgajaabakpfbbaagreatdoor", sum := "fd6bbfe7f8eb39a40969a0d9c5a52d909ca4f82f917aa380985d9d7160743584", func := "selfstab/selfstablaw25.WidestLeast", spec := "widestLeast", inPlace := ["internal/bytealg.IndexByteString"], unfollowed := true, recurses := true, named := ["math/bits.deBruijn32tab"], plainKeys := false, apart := false, laid := [("math/bits.deBruijn32tab", laid_math_bits_deBruijn32tab)], narrowed := true }
def WidestLeastUptoSaid : Prop := widestLeastUptoRow.holds Tryz.pinned (OpenSpec.upto widestLeastSpec)

/-- 'selfstablaw25.WidestReaches', WHERE WHAT IT READS IS OF BULK AT MOST 1048576: true; the input reads as it did. -/
def widestReachesUptoRow : OpenClaim := { program := "ytgajaabakpfbbaagreatdoor", sum := "fd6bbfe7f8eb39a40969a0d9c5a52d909ca4f82f917aa380985d9d7160743584", func := "selfstab/selfstablaw25.WidestReaches", spec := "widestReaches", inPlace := ["internal/bytealg.IndexByteString"], unfollowed := true, recurses := true, named := ["math/bits.deBruijn32tab"], plainKeys := false, apart := false, laid := [("math/bits.deBruijn32tab", laid_math_bits_deBruijn32tab)], narrowed := true }
def WidestReachesUptoSaid : Prop := widestReachesUptoRow.holds Tryz.pinned (OpenSpec.upto widestReachesSpec)

/-- 'selfstablaw25.WidestRests', WHERE WHAT IT READS IS OF BULK AT MOST 1048576: true; the input reads as it did. -/
def widestRestsUptoRow : OpenClaim := { program := "ytgajaabakpfbbaagreatdoor", sum := "fd6bbfe7f8eb39a40969a0d9c5a52d909ca4f82f917aa380985d9d7160743584", func := "selfstab/selfstablaw25.WidestRests", spec := "widestRests", inPlace := ["internal/bytealg.IndexByteString"], unfollowed := true, recurses := true, named := ["math/bits.deBruijn32tab"], plainKeys := false, apart := false, laid := [("math/bits.deBruijn32tab", laid_math_bits_deBruijn32tab)], narrowed := true }
def WidestRestsUptoSaid : Prop := widestRestsUptoRow.holds Tryz.pinned (OpenSpec.upto widestRestsSpec)

/-- 'selfstablaw25.WidestTree', WHERE WHAT IT READS IS OF BULK AT MOST 1048576: true; the input reads as it did. -/
def widestTreeUptoRow : OpenClaim := { program := "ytgajaabakpfbbaagreatdoor", sum := "fd6bbfe7f8eb39a40969a0d9c5a52d909ca4f82f917aa380985d9d7160743584", func := "selfstab/selfstablaw25.WidestTree", spec := "widestTree", inPlace := ["internal/bytealg.IndexByteString"], unfollowed := true, recurses := true, named := ["math/bits.deBruijn32tab"], plainKeys := false, apart := false, laid := [("math/bits.deBruijn32tab", laid_math_bits_deBruijn32tab)], narrowed := true }
def WidestTreeUptoSaid : Prop := widestTreeUptoRow.holds Tryz.pinned (OpenSpec.upto widestTreeSpec)

end Rows
end Go.Proofs.YtgajaabakpfbbaaGreatDoor
