/-
  NARROWER THAN 'FOR EVERY INPUT', by the rows' own cells (each row's printed sentence says how): ClusterReaches: laid · ClusterRests: laid · ClusterCovers: laid · ClockReaches: laid · ClockPhases: laid · ClockTicks: laid.
  DERIVED. THE GIVEN ROWS OF THIS SEAT. 6 by the template 'for every input the law returns true; each argument reads behind the call as it read before'; 0 by the template 'total and deterministic' (their statements: YtkimongfladmfaaGreatDoorTotals.lean).
  GIVEN WITH THE SEED: the statements are not yours to turn. If you find one false, say at which input.
  Laid BY PROGRAM, IN A SANDBOX (cutbox-rows.mjs): the forced cells as the released guide's own fill.sh prints them over the translation 35f18ff4032ba7b9… (all of the seat's roots in one cut). By AI agents, Wed Nov 11 2026. No macro, syntax, notation, axiom, sorry.
-/
import Derived.Test.YtkimongfladmfaaGreatDoorChecked
import GoSem.Claim
import GoSem.ClaimJoined
import GoSem.ClaimMapViews
import Derived.JoinedTies
import Derived.KernelRfl
namespace Go.Proofs.YtkimongfladmfaaGreatDoor
/- THE CELL 'sum', in the pinned program and in every row, IS THE sha256 OF THE DUMP (.gsa) THAT YtkimongfladmfaaGreatDoorProg.lean LOADS. Nothing in Lean hashes anything: it is a label: what it is worth is what the hold of that sum in a sandbox is worth. -/
noncomputable def Tryz.pinned : Pinned := { name := "ytkimongfladmfaagreatdoor", sum := "35f18ff4032ba7b9849fd877523a05215bf72f322b2899b43bc5182024739cd0", checked := Tryz.checked }
namespace Rows
def none {H : Type} : Left H := { results := [], args := [] }

/- WHAT THE LISTED PACKAGE-LEVEL VARIABLES READ AS WHEN THE CALL BEGINS. Each datum BY PROGRAM (the guide's laid-datum.mjs) off the statement by which the dump's own 'gosem.cut.vars' lays the variable. In a bare row this is a premise. The card (YtkimongfladmfaaGreatDoorCards.lean) ties it to the program's text. -/
def laid_math_bits_deBruijn32tab {H : Type} : DataW H := .agg [.lit (.int .u8 0), .lit (.int .u8 1), .lit (.int .u8 28), .lit (.int .u8 2), .lit (.int .u8 29), .lit (.int .u8 14), .lit (.int .u8 24), .lit (.int .u8 3), .lit (.int .u8 30), .lit (.int .u8 22), .lit (.int .u8 20), .lit (.int .u8 15), .lit (.int .u8 25), .lit (.int .u8 17), .lit (.int .u8 4), .lit (.int .u8 8), .lit (.int .u8 31), .lit (.int .u8 27), .lit (.int .u8 13), .lit (.int .u8 23), .lit (.int .u8 21), .lit (.int .u8 19), .lit (.int .u8 16), .lit (.int .u8 7), .lit (.int .u8 26), .lit (.int .u8 12), .lit (.int .u8 18), .lit (.int .u8 6), .lit (.int .u8 11), .lit (.int .u8 5), .lit (.int .u8 10), .lit (.int .u8 9)]

/-- 'selfstablaw34.ClusterReaches': WHATEVER THE INPUT: true; the input reads as it did. -/
def clusterReachesSpec : ChangeSpec := { name := "clusterReaches", fn := fun _ => fun
  | [d1, d2, d3] => { results := [.lit (.bool true)], args := [d1, d2, d3] }
  | _ => none }
def clusterReachesRow : OpenClaim := { program := "ytkimongfladmfaagreatdoor", sum := "35f18ff4032ba7b9849fd877523a05215bf72f322b2899b43bc5182024739cd0", func := "selfstab/selfstablaw34.ClusterReaches", spec := "clusterReaches", inPlace := ["internal/bytealg.IndexByteString"], unfollowed := true, recurses := true, named := ["math/bits.deBruijn32tab"], plainKeys := false, apart := false, laid := [("math/bits.deBruijn32tab", laid_math_bits_deBruijn32tab)] }
def ClusterReachesSaid : Prop := clusterReachesRow.holds Tryz.pinned (OpenSpec.ofChange clusterReachesSpec)

/-- ITS FALSE NEIGHBOUR: 'it returns false'. Refute it at one input. -/
def clusterReachesWrong : ChangeSpec := { name := "clusterReaches", fn := fun _ => fun
  | [d1, d2, d3] => { results := [.lit (.bool false)], args := [d1, d2, d3] }
  | _ => none }
def ClusterReachesWrongFalsely : Prop := clusterReachesRow.holds Tryz.pinned (OpenSpec.ofChange clusterReachesWrong)

/-- 'selfstablaw34.ClusterRests': WHATEVER THE INPUT: true; the input reads as it did. -/
def clusterRestsSpec : ChangeSpec := { name := "clusterRests", fn := fun _ => fun
  | [d1, d2, d3] => { results := [.lit (.bool true)], args := [d1, d2, d3] }
  | _ => none }
def clusterRestsRow : OpenClaim := { program := "ytkimongfladmfaagreatdoor", sum := "35f18ff4032ba7b9849fd877523a05215bf72f322b2899b43bc5182024739cd0", func := "selfstab/selfstablaw34.ClusterRests", spec := "clusterRests", inPlace := ["internal/bytealg.IndexByteString"], unfollowed := true, recurses := true, named := ["math/bits.deBruijn32tab"], plainKeys := false, apart := false, laid := [("math/bits.deBruijn32tab", laid_math_bits_deBruijn32tab)] }
def ClusterRestsSaid : Prop := clusterRestsRow.holds Tryz.pinned (OpenSpec.ofChange clusterRestsSpec)

/-- ITS FALSE NEIGHBOUR: 'it returns false'. Refute it at one input. -/
def clusterRestsWrong : ChangeSpec := { name := "clusterRests", fn := fun _ => fun
  | [d1, d2, d3] => { results := [.lit (.bool false)], args := [d1, d2, d3] }
  | _ => none }
def ClusterRestsWrongFalsely : Prop := clusterRestsRow.holds Tryz.pinned (OpenSpec.ofChange clusterRestsWrong)

/-- 'selfstablaw34.ClusterCovers': WHATEVER THE INPUT: true; the input reads as it did. -/
def clusterCoversSpec : ChangeSpec := { name := "clusterCovers", fn := fun _ => fun
  | [d1, d2, d3] => { results := [.lit (.bool true)], args := [d1, d2, d3] }
  | _ => none }
def clusterCoversRow : OpenClaim := { program := "ytkimongfladmfaagreatdoor", sum := "35f18ff4032ba7b9849fd877523a05215bf72f322b2899b43bc5182024739cd0", func := "selfstab/selfstablaw34.ClusterCovers", spec := "clusterCovers", inPlace := ["internal/bytealg.IndexByteString"], unfollowed := true, recurses := true, named := ["math/bits.deBruijn32tab"], plainKeys := false, apart := false, laid := [("math/bits.deBruijn32tab", laid_math_bits_deBruijn32tab)] }
def ClusterCoversSaid : Prop := clusterCoversRow.holds Tryz.pinned (OpenSpec.ofChange clusterCoversSpec)

/-- ITS FALSE NEIGHBOUR: 'it returns false'. Refute it at one input. -/
def clusterCoversWrong : ChangeSpec := { name := "clusterCovers", fn := fun _ => fun
  | [d1, d2, d3] => { results := [.lit (.bool false)], args := [d1, d2, d3] }
  | _ => none }
def ClusterCoversWrongFalsely : Prop := clusterCoversRow.holds Tryz.pinned (OpenSpec.ofChange clusterCoversWrong)

/-- 'selfstablaw36.ClockReaches': WHATEVER THE INPUT: true; the input reads as it did. -/
def clockReachesSpec : ChangeSpec := { name := "clockReaches", fn := fun _ => fun
  | [d1, d2, d3] => { results := [.lit (.bool true)], args := [d1, d2, d3] }
  | _ => none }
def clockReachesRow : OpenClaim := { program := "ytkimongfladmfaagreatdoor", sum := "35f18ff4032ba7b9849fd877523a05215bf72f322b2899b43bc5182024739cd0", func := "selfstab/selfstablaw36.ClockReaches", spec := "clockReaches", inPlace := ["internal/bytealg.IndexByteString"], unfollowed := true, recurses := true, named := ["math/bits.deBruijn32tab"], plainKeys := false, apart := false, laid := [("math/bits.deBruijn32tab", laid_math_bits_deBruijn32tab)] }
def ClockReachesSaid : Prop := clockReachesRow.holds Tryz.pinned (OpenSpec.ofChange clockReachesSpec)

/-- ITS FALSE NEIGHBOUR: 'it returns false'. Refute it at one input. -/
def clockReachesWrong : ChangeSpec := { name := "clockReaches", fn := fun _ => fun
  | [d1, d2, d3] => { results := [.lit (.bool false)], args := [d1, d2, d3] }
  | _ => none }
def ClockReachesWrongFalsely : Prop := clockReachesRow.holds Tryz.pinned (OpenSpec.ofChange clockReachesWrong)

/-- 'selfstablaw36.ClockPhases': WHATEVER THE INPUT: true; the input reads as it did. -/
def clockPhasesSpec : ChangeSpec := { name := "clockPhases", fn := fun _ => fun
  | [d1, d2, d3] => { results := [.lit (.bool true)], args := [d1, d2, d3] }
  | _ => none }
def clockPhasesRow : OpenClaim := { program := "ytkimongfladmfaagreatdoor", sum := "35f18ff4032ba7b9849fd877523a05215bf72f322b2899b43bc5182024739cd0", func := "selfstab/selfstablaw36.ClockPhases", spec := "clockPhases", inPlace := ["internal/bytealg.IndexByteString"], unfollowed := true, recurses := true, named := ["math/bits.deBruijn32tab"], plainKeys := false, apart := false, laid := [("math/bits.deBruijn32tab", laid_math_bits_deBruijn32tab)] }
def ClockPhasesSaid : Prop := clockPhasesRow.holds Tryz.pinned (OpenSpec.ofChange clockPhasesSpec)

/-- ITS FALSE NEIGHBOUR: 'it returns false'. Refute it at one input. -/
def clockPhasesWrong : ChangeSpec := { name := "clockPhases", fn := fun _ => fun
  | [d1, d2, d3] => { results := [.lit (.bool false)], args := [d1, d2, d3] }
  | _ => none }
def ClockPhasesWrongFalsely : Prop := clockPhasesRow.holds Tryz.pinned (OpenSpec.ofChange clockPhasesWrong)

/-- 'selfstablaw36.ClockTicks': WHATEVER THE INPUT: true; the input reads as it did. -/
def clockTicksSpec : ChangeSpec := { name := "clockTicks", fn := fun _ => fun
  | [d1, d2, d3] => { results := [.lit (.bool true)], args := [d1, d2, d3] }
  | _ => none }
def clockTicksRow : OpenClaim := { program := "ytkimongfladmfaagreatdoor", sum := "35f18ff4032ba7b9849fd877523a05215bf72f322b2899b43bc5182024739cd0", func := "selfstab/selfstablaw36.ClockTicks", spec := "clockTicks", inPlace := ["internal/bytealg.IndexByteString"], unfollowed := true, recurses := true, named := ["math/bits.deBruijn32tab"], plainKeys := false, apart := false, laid := [("math/bits.deBruijn32tab", laid_math_bits_deBruijn32tab)] }
def ClockTicksSaid : Prop := clockTicksRow.holds Tryz.pinned (OpenSpec.ofChange clockTicksSpec)

/-- ITS FALSE NEIGHBOUR: 'it returns false'. Refute it at one input. -/
def clockTicksWrong : ChangeSpec := { name := "clockTicks", fn := fun _ => fun
  | [d1, d2, d3] => { results := [.lit (.bool false)], args := [d1, d2, d3] }
  | _ => none }
def ClockTicksWrongFalsely : Prop := clockTicksRow.holds Tryz.pinned (OpenSpec.ofChange clockTicksWrong)

/- THE SECOND FORM. 'bulk': how many values and letters a reading holds, each counted each time it is reached (what is shared counts as often as it is met; a slice's spare places count too). A statement '..UptoSaid' is the law's where the arguments, and the package variables that the reading takes, are together of bulk at most 1048576: NARROWER than '..Said'. Prove '..Said' where nothing that the law and all that it calls make is longer than what came in: it says more and counts as full. Else prove '..UptoSaid'. A law counts once. -/
mutual
def uptoBulk {H : Type} : DataW H → Nat
  | .lit (.string bytes) => bytes.length + 1
  | .lit _ => 1
  | .nil => 1
  | .ptr d => uptoBulk d + 1
  | .slice elems spare => uptoBulkAll elems + uptoBulkAll spare + 1
  | .agg parts => uptoBulkAll parts + 1
  | .iface _ d => uptoBulk d + 1
  | .map entries => uptoBulkEntries entries + 1
  | .held _ => 1
def uptoBulkAll {H : Type} : List (DataW H) → Nat
  | [] => 0
  | d :: r => uptoBulk d + uptoBulkAll r
def uptoBulkEntries {H : Type} : List (Lit × DataW H) → Nat
  | [] => 0
  | x :: r => uptoBulkEntry x + uptoBulkEntries r
def uptoBulkEntry {H : Type} : Lit × DataW H → Nat
  | (.string bytes, d) => bytes.length + uptoBulk d + 1
  | (_, d) => uptoBulk d + 1
 end
def uptoSmall : (H : Type) → List (DataW H) → Bool := fun _ ds => decide (uptoBulkAll ds ≤ 1048576)
def OpenSpec.upto (s : _root_.Go.ChangeSpec) : _root_.Go.OpenSpec := { _root_.Go.OpenSpec.ofChange s with cond := some uptoSmall }

/-- 'selfstablaw34.ClusterReaches', WHERE WHAT IT READS IS OF BULK AT MOST 1048576: true; the input reads as it did. -/
def clusterReachesUptoRow : OpenClaim := { program := "ytkimongfladmfaagreatdoor", sum := "35f18ff4032ba7b9849fd877523a05215bf72f322b2899b43bc5182024739cd0", func := "selfstab/selfstablaw34.ClusterReaches", spec := "clusterReaches", inPlace := ["internal/bytealg.IndexByteString"], unfollowed := true, recurses := true, named := ["math/bits.deBruijn32tab"], plainKeys := false, apart := false, laid := [("math/bits.deBruijn32tab", laid_math_bits_deBruijn32tab)], narrowed := true }
def ClusterReachesUptoSaid : Prop := clusterReachesUptoRow.holds Tryz.pinned (OpenSpec.upto clusterReachesSpec)

/-- 'selfstablaw34.ClusterRests', WHERE WHAT IT READS IS OF BULK AT MOST 1048576: true; the input reads as it did. -/
def clusterRestsUptoRow : OpenClaim := { program := "ytkimongfladmfaagreatdoor", sum := "35f18ff4032ba7b9849fd877523a05215bf72f322b2899b43bc5182024739cd0", func := "selfstab/selfstablaw34.ClusterRests", spec := "clusterRests", inPlace := ["internal/bytealg.IndexByteString"], unfollowed := true, recurses := true, named := ["math/bits.deBruijn32tab"], plainKeys := false, apart := false, laid := [("math/bits.deBruijn32tab", laid_math_bits_deBruijn32tab)], narrowed := true }
def ClusterRestsUptoSaid : Prop := clusterRestsUptoRow.holds Tryz.pinned (OpenSpec.upto clusterRestsSpec)

/-- 'selfstablaw34.ClusterCovers', WHERE WHAT IT READS IS OF BULK AT MOST 1048576: true; the input reads as it did. -/
def clusterCoversUptoRow : OpenClaim := { program := "ytkimongfladmfaagreatdoor", sum := "35f18ff4032ba7b9849fd877523a05215bf72f322b2899b43bc5182024739cd0", func := "selfstab/selfstablaw34.ClusterCovers", spec := "clusterCovers", inPlace := ["internal/bytealg.IndexByteString"], unfollowed := true, recurses := true, named := ["math/bits.deBruijn32tab"], plainKeys := false, apart := false, laid := [("math/bits.deBruijn32tab", laid_math_bits_deBruijn32tab)], narrowed := true }
def ClusterCoversUptoSaid : Prop := clusterCoversUptoRow.holds Tryz.pinned (OpenSpec.upto clusterCoversSpec)

/-- 'selfstablaw36.ClockReaches', WHERE WHAT IT READS IS OF BULK AT MOST 1048576: true; the input reads as it did. -/
def clockReachesUptoRow : OpenClaim := { program := "ytkimongfladmfaagreatdoor", sum := "35f18ff4032ba7b9849fd877523a05215bf72f322b2899b43bc5182024739cd0", func := "selfstab/selfstablaw36.ClockReaches", spec := "clockReaches", inPlace := ["internal/bytealg.IndexByteString"], unfollowed := true, recurses := true, named := ["math/bits.deBruijn32tab"], plainKeys := false, apart := false, laid := [("math/bits.deBruijn32tab", laid_math_bits_deBruijn32tab)], narrowed := true }
def ClockReachesUptoSaid : Prop := clockReachesUptoRow.holds Tryz.pinned (OpenSpec.upto clockReachesSpec)

/-- 'selfstablaw36.ClockPhases', WHERE WHAT IT READS IS OF BULK AT MOST 1048576: true; the input reads as it did. -/
def clockPhasesUptoRow : OpenClaim := { program := "ytkimongfladmfaagreatdoor", sum := "35f18ff4032ba7b9849fd877523a05215bf72f322b2899b43bc5182024739cd0", func := "selfstab/selfstablaw36.ClockPhases", spec := "clockPhases", inPlace := ["internal/bytealg.IndexByteString"], unfollowed := true, recurses := true, named := ["math/bits.deBruijn32tab"], plainKeys := false, apart := false, laid := [("math/bits.deBruijn32tab", laid_math_bits_deBruijn32tab)], narrowed := true }
def ClockPhasesUptoSaid : Prop := clockPhasesUptoRow.holds Tryz.pinned (OpenSpec.upto clockPhasesSpec)

/-- 'selfstablaw36.ClockTicks', WHERE WHAT IT READS IS OF BULK AT MOST 1048576: true; the input reads as it did. -/
def clockTicksUptoRow : OpenClaim := { program := "ytkimongfladmfaagreatdoor", sum := "35f18ff4032ba7b9849fd877523a05215bf72f322b2899b43bc5182024739cd0", func := "selfstab/selfstablaw36.ClockTicks", spec := "clockTicks", inPlace := ["internal/bytealg.IndexByteString"], unfollowed := true, recurses := true, named := ["math/bits.deBruijn32tab"], plainKeys := false, apart := false, laid := [("math/bits.deBruijn32tab", laid_math_bits_deBruijn32tab)], narrowed := true }
def ClockTicksUptoSaid : Prop := clockTicksUptoRow.holds Tryz.pinned (OpenSpec.upto clockTicksSpec)

end Rows
end Go.Proofs.YtkimongfladmfaaGreatDoor
