/-
  NARROWER THAN 'FOR EVERY INPUT', by the rows' own cells (each row's printed sentence says how): RingFew: laid · RingReaches: laid · RingTurns: laid · IndependentFirst: laid · IndependentReaches: laid · IndependentRests: laid.
  DERIVED. THE GIVEN ROWS OF THIS SEAT. 6 by the template 'for every input the law returns true; each argument reads behind the call as it read before'; 0 by the template 'total and deterministic' (their statements: YtinmenifoebfmaaGreatDoorTotals.lean).
  GIVEN WITH THE SEED: the statements are not yours to turn. If you find one false, say at which input.
  Laid BY PROGRAM, IN A SANDBOX (cutbox-rows.mjs): the forced cells as the released guide's own fill.sh prints them over the translation b6f516f1fc5be571… (all of the seat's roots in one cut). By AI agents, Wed Nov 11 2026. No macro, syntax, notation, axiom, sorry.
-/
import Derived.Test.YtinmenifoebfmaaGreatDoorChecked
import GoSem.Claim
import GoSem.ClaimJoined
import GoSem.ClaimMapViews
import Derived.JoinedTies
import Derived.KernelRfl
namespace Go.Proofs.YtinmenifoebfmaaGreatDoor
/- THE CELL 'sum', in the pinned program and in every row, IS THE sha256 OF THE DUMP (.gsa) THAT YtinmenifoebfmaaGreatDoorProg.lean LOADS. Nothing in Lean hashes anything: it is a label: what it is worth is what the hold of that sum in a sandbox is worth. -/
noncomputable def Tryz.pinned : Pinned := { name := "ytinmenifoebfmaagreatdoor", sum := "b6f516f1fc5be57172382ee569920f64672ebfd4d1740254b2d7a6cb224306b2", checked := Tryz.checked }
namespace Rows
def none {H : Type} : Left H := { results := [], args := [] }

/- WHAT THE LISTED PACKAGE-LEVEL VARIABLES READ AS WHEN THE CALL BEGINS. Each datum BY PROGRAM (the guide's laid-datum.mjs) off the statement by which the dump's own 'gosem.cut.vars' lays the variable. In a bare row this is a premise. The card (YtinmenifoebfmaaGreatDoorCards.lean) ties it to the program's text. -/
def laid_math_bits_deBruijn32tab {H : Type} : DataW H := .agg [.lit (.int .u8 0), .lit (.int .u8 1), .lit (.int .u8 28), .lit (.int .u8 2), .lit (.int .u8 29), .lit (.int .u8 14), .lit (.int .u8 24), .lit (.int .u8 3), .lit (.int .u8 30), .lit (.int .u8 22), .lit (.int .u8 20), .lit (.int .u8 15), .lit (.int .u8 25), .lit (.int .u8 17), .lit (.int .u8 4), .lit (.int .u8 8), .lit (.int .u8 31), .lit (.int .u8 27), .lit (.int .u8 13), .lit (.int .u8 23), .lit (.int .u8 21), .lit (.int .u8 19), .lit (.int .u8 16), .lit (.int .u8 7), .lit (.int .u8 26), .lit (.int .u8 12), .lit (.int .u8 18), .lit (.int .u8 6), .lit (.int .u8 11), .lit (.int .u8 5), .lit (.int .u8 10), .lit (.int .u8 9)]

/-- 'selfstablaw29.RingFew': WHATEVER THE INPUT: true; the input reads as it did. -/
def ringFewSpec : ChangeSpec := { name := "ringFew", fn := fun _ => fun
  | [d1, d2, d3] => { results := [.lit (.bool true)], args := [d1, d2, d3] }
  | _ => none }
def ringFewRow : OpenClaim := { program := "ytinmenifoebfmaagreatdoor", sum := "b6f516f1fc5be57172382ee569920f64672ebfd4d1740254b2d7a6cb224306b2", func := "selfstab/selfstablaw29.RingFew", spec := "ringFew", inPlace := ["internal/bytealg.IndexByteString"], unfollowed := true, recurses := true, named := ["math/bits.deBruijn32tab"], plainKeys := false, apart := false, laid := [("math/bits.deBruijn32tab", laid_math_bits_deBruijn32tab)] }
def RingFewSaid : Prop := ringFewRow.holds Tryz.pinned (OpenSpec.ofChange ringFewSpec)

/-- ITS FALSE NEIGHBOUR: 'it returns false'. Refute it at one input. -/
def ringFewWrong : ChangeSpec := { name := "ringFew", fn := fun _ => fun
  | [d1, d2, d3] => { results := [.lit (.bool false)], args := [d1, d2, d3] }
  | _ => none }
def RingFewWrongFalsely : Prop := ringFewRow.holds Tryz.pinned (OpenSpec.ofChange ringFewWrong)

/-- 'selfstablaw29.RingReaches': WHATEVER THE INPUT: true; the input reads as it did. -/
def ringReachesSpec : ChangeSpec := { name := "ringReaches", fn := fun _ => fun
  | [d1, d2, d3] => { results := [.lit (.bool true)], args := [d1, d2, d3] }
  | _ => none }
def ringReachesRow : OpenClaim := { program := "ytinmenifoebfmaagreatdoor", sum := "b6f516f1fc5be57172382ee569920f64672ebfd4d1740254b2d7a6cb224306b2", func := "selfstab/selfstablaw29.RingReaches", spec := "ringReaches", inPlace := ["internal/bytealg.IndexByteString"], unfollowed := true, recurses := true, named := ["math/bits.deBruijn32tab"], plainKeys := false, apart := false, laid := [("math/bits.deBruijn32tab", laid_math_bits_deBruijn32tab)] }
def RingReachesSaid : Prop := ringReachesRow.holds Tryz.pinned (OpenSpec.ofChange ringReachesSpec)

/-- ITS FALSE NEIGHBOUR: 'it returns false'. Refute it at one input. -/
def ringReachesWrong : ChangeSpec := { name := "ringReaches", fn := fun _ => fun
  | [d1, d2, d3] => { results := [.lit (.bool false)], args := [d1, d2, d3] }
  | _ => none }
def RingReachesWrongFalsely : Prop := ringReachesRow.holds Tryz.pinned (OpenSpec.ofChange ringReachesWrong)

/-- 'selfstablaw29.RingTurns': WHATEVER THE INPUT: true; the input reads as it did. -/
def ringTurnsSpec : ChangeSpec := { name := "ringTurns", fn := fun _ => fun
  | [d1, d2, d3, d4, d5] => { results := [.lit (.bool true)], args := [d1, d2, d3, d4, d5] }
  | _ => none }
def ringTurnsRow : OpenClaim := { program := "ytinmenifoebfmaagreatdoor", sum := "b6f516f1fc5be57172382ee569920f64672ebfd4d1740254b2d7a6cb224306b2", func := "selfstab/selfstablaw29.RingTurns", spec := "ringTurns", inPlace := ["internal/bytealg.IndexByteString"], unfollowed := true, recurses := true, named := ["math/bits.deBruijn32tab"], plainKeys := false, apart := false, laid := [("math/bits.deBruijn32tab", laid_math_bits_deBruijn32tab)] }
def RingTurnsSaid : Prop := ringTurnsRow.holds Tryz.pinned (OpenSpec.ofChange ringTurnsSpec)

/-- ITS FALSE NEIGHBOUR: 'it returns false'. Refute it at one input. -/
def ringTurnsWrong : ChangeSpec := { name := "ringTurns", fn := fun _ => fun
  | [d1, d2, d3, d4, d5] => { results := [.lit (.bool false)], args := [d1, d2, d3, d4, d5] }
  | _ => none }
def RingTurnsWrongFalsely : Prop := ringTurnsRow.holds Tryz.pinned (OpenSpec.ofChange ringTurnsWrong)

/-- 'selfstablaw31.IndependentFirst': WHATEVER THE INPUT: true; the input reads as it did. -/
def independentFirstSpec : ChangeSpec := { name := "independentFirst", fn := fun _ => fun
  | [d1, d2, d3] => { results := [.lit (.bool true)], args := [d1, d2, d3] }
  | _ => none }
def independentFirstRow : OpenClaim := { program := "ytinmenifoebfmaagreatdoor", sum := "b6f516f1fc5be57172382ee569920f64672ebfd4d1740254b2d7a6cb224306b2", func := "selfstab/selfstablaw31.IndependentFirst", spec := "independentFirst", inPlace := ["internal/bytealg.IndexByteString"], unfollowed := true, recurses := true, named := ["math/bits.deBruijn32tab"], plainKeys := false, apart := false, laid := [("math/bits.deBruijn32tab", laid_math_bits_deBruijn32tab)] }
def IndependentFirstSaid : Prop := independentFirstRow.holds Tryz.pinned (OpenSpec.ofChange independentFirstSpec)

/-- ITS FALSE NEIGHBOUR: 'it returns false'. Refute it at one input. -/
def independentFirstWrong : ChangeSpec := { name := "independentFirst", fn := fun _ => fun
  | [d1, d2, d3] => { results := [.lit (.bool false)], args := [d1, d2, d3] }
  | _ => none }
def IndependentFirstWrongFalsely : Prop := independentFirstRow.holds Tryz.pinned (OpenSpec.ofChange independentFirstWrong)

/-- 'selfstablaw31.IndependentReaches': WHATEVER THE INPUT: true; the input reads as it did. -/
def independentReachesSpec : ChangeSpec := { name := "independentReaches", fn := fun _ => fun
  | [d1, d2, d3] => { results := [.lit (.bool true)], args := [d1, d2, d3] }
  | _ => none }
def independentReachesRow : OpenClaim := { program := "ytinmenifoebfmaagreatdoor", sum := "b6f516f1fc5be57172382ee569920f64672ebfd4d1740254b2d7a6cb224306b2", func := "selfstab/selfstablaw31.IndependentReaches", spec := "independentReaches", inPlace := ["internal/bytealg.IndexByteString"], unfollowed := true, recurses := true, named := ["math/bits.deBruijn32tab"], plainKeys := false, apart := false, laid := [("math/bits.deBruijn32tab", laid_math_bits_deBruijn32tab)] }
def IndependentReachesSaid : Prop := independentReachesRow.holds Tryz.pinned (OpenSpec.ofChange independentReachesSpec)

/-- ITS FALSE NEIGHBOUR: 'it returns false'. Refute it at one input. -/
def independentReachesWrong : ChangeSpec := { name := "independentReaches", fn := fun _ => fun
  | [d1, d2, d3] => { results := [.lit (.bool false)], args := [d1, d2, d3] }
  | _ => none }
def IndependentReachesWrongFalsely : Prop := independentReachesRow.holds Tryz.pinned (OpenSpec.ofChange independentReachesWrong)

/-- 'selfstablaw31.IndependentRests': WHATEVER THE INPUT: true; the input reads as it did. -/
def independentRestsSpec : ChangeSpec := { name := "independentRests", fn := fun _ => fun
  | [d1, d2, d3] => { results := [.lit (.bool true)], args := [d1, d2, d3] }
  | _ => none }
def independentRestsRow : OpenClaim := { program := "ytinmenifoebfmaagreatdoor", sum := "b6f516f1fc5be57172382ee569920f64672ebfd4d1740254b2d7a6cb224306b2", func := "selfstab/selfstablaw31.IndependentRests", spec := "independentRests", inPlace := ["internal/bytealg.IndexByteString"], unfollowed := true, recurses := true, named := ["math/bits.deBruijn32tab"], plainKeys := false, apart := false, laid := [("math/bits.deBruijn32tab", laid_math_bits_deBruijn32tab)] }
def IndependentRestsSaid : Prop := independentRestsRow.holds Tryz.pinned (OpenSpec.ofChange independentRestsSpec)

/-- ITS FALSE NEIGHBOUR: 'it returns false'. Refute it at one input. -/
def independentRestsWrong : ChangeSpec := { name := "independentRests", fn := fun _ => fun
  | [d1, d2, d3] => { results := [.lit (.bool false)], args := [d1, d2, d3] }
  | _ => none }
def IndependentRestsWrongFalsely : Prop := independentRestsRow.holds Tryz.pinned (OpenSpec.ofChange independentRestsWrong)

/- THE SECOND FORM. 'bulk': how many values and letters a reading holds, each counted each time it is reached (what is shared counts as often as it is met; a slice's spare places count too). A statement '..UptoSaid' is the law's where the arguments, and the package variables that the reading takes, are together of bulk at most 1048576: NARROWER than '..Said'. Prove '..Said' where nothing that the law and all that it calls make is longer than what came in: it says more and counts as full. Else prove '..UptoSaid'. A law counts once. -/
mutual
def uptoBulk {H : Type} : DataW H → Nat
  | .lit (.string bytes) => bytes.length + 1
  | .lit _ => 1
  | .nil => 1
  | .ptr d => uptoBulk d + 1
  | .slice elems spare => uptoBulkAll elems + uptoBulkAll spare + 1
  | .agg parts => uptoBulkAll parts + 1
  | .iface _ d => uptoBulk d + 1
  | .map entries => uptoBulkEntries entries + 1
  | .held _ => 1
def uptoBulkAll {H : Type} : List (DataW H) → Nat
  | [] => 0
  | d :: r => uptoBulk d + uptoBulkAll r
def uptoBulkEntries {H : Type} : List (Lit × DataW H) → Nat
  | [] => 0
  | x :: r => uptoBulkEntry x + uptoBulkEntries r
def uptoBulkEntry {H : Type} : Lit × DataW H → Nat
  | (.string bytes, d) => bytes.length + uptoBulk d + 1
  | (_, d) => uptoBulk d + 1
 end
def uptoSmall : (H : Type) → List (DataW H) → Bool := fun _ ds => decide (uptoBulkAll ds ≤ 1048576)
def OpenSpec.upto (s : _root_.Go.ChangeSpec) : _root_.Go.OpenSpec := { _root_.Go.OpenSpec.ofChange s with cond := some uptoSmall }

/-- 'selfstablaw29.RingFew', WHERE WHAT IT READS IS OF BULK AT MOST 1048576: true; the input reads as it did. -/
def ringFewUptoRow : OpenClaim := { program := "ytinmenifoebfmaagreatdoor", sum := "b6f516f1fc5be57172382ee569920f64672ebfd4d1740254b2d7a6cb224306b2", func := "selfstab/selfstablaw29.RingFew", spec := "ringFew", inPlace := ["internal/bytealg.IndexByteString"], unfollowed := true, recurses := true, named := ["math/bits.deBruijn32tab"], plainKeys := false, apart := false, laid := [("math/bits.deBruijn32tab", laid_math_bits_deBruijn32tab)], narrowed := true }
def RingFewUptoSaid : Prop := ringFewUptoRow.holds Tryz.pinned (OpenSpec.upto ringFewSpec)

/-- 'selfstablaw29.RingReaches', WHERE WHAT IT READS IS OF BULK AT MOST 1048576: true; the input reads as it did. -/
def ringReachesUptoRow : OpenClaim := { program := "ytinmenifoebfmaagreatdoor", sum := "b6f516f1fc5be57172382ee569920f64672ebfd4d1740254b2d7a6cb224306b2", func := "selfstab/selfstablaw29.RingReaches", spec := "ringReaches", inPlace := ["internal/bytealg.IndexByteString"], unfollowed := true, recurses := true, named := ["math/bits.deBruijn32tab"], plainKeys := false, apart := false, laid := [("math/bits.deBruijn32tab", laid_math_bits_deBruijn32tab)], narrowed := true }
def RingReachesUptoSaid : Prop := ringReachesUptoRow.holds Tryz.pinned (OpenSpec.upto ringReachesSpec)

/-- 'selfstablaw29.RingTurns', WHERE WHAT IT READS IS OF BULK AT MOST 1048576: true; the input reads as it did. -/
def ringTurnsUptoRow : OpenClaim := { program := "ytinmenifoebfmaagreatdoor", sum := "b6f516f1fc5be57172382ee569920f64672ebfd4d1740254b2d7a6cb224306b2", func := "selfstab/selfstablaw29.RingTurns", spec := "ringTurns", inPlace := ["internal/bytealg.IndexByteString"], unfollowed := true, recurses := true, named := ["math/bits.deBruijn32tab"], plainKeys := false, apart := false, laid := [("math/bits.deBruijn32tab", laid_math_bits_deBruijn32tab)], narrowed := true }
def RingTurnsUptoSaid : Prop := ringTurnsUptoRow.holds Tryz.pinned (OpenSpec.upto ringTurnsSpec)

/-- 'selfstablaw31.IndependentFirst', WHERE WHAT IT READS IS OF BULK AT MOST 1048576: true; the input reads as it did. -/
def independentFirstUptoRow : OpenClaim := { program := "ytinmenifoebfmaagreatdoor", sum := "b6f516f1fc5be57172382ee569920f64672ebfd4d1740254b2d7a6cb224306b2", func := "selfstab/selfstablaw31.IndependentFirst", spec := "independentFirst", inPlace := ["internal/bytealg.IndexByteString"], unfollowed := true, recurses := true, named := ["math/bits.deBruijn32tab"], plainKeys := false, apart := false, laid := [("math/bits.deBruijn32tab", laid_math_bits_deBruijn32tab)], narrowed := true }
def IndependentFirstUptoSaid : Prop := independentFirstUptoRow.holds Tryz.pinned (OpenSpec.upto independentFirstSpec)

/-- 'selfstablaw31.IndependentReaches', WHERE WHAT IT READS IS OF BULK AT MOST 1048576: true; the input reads as it did. -/
def independentReachesUptoRow : OpenClaim := { program := "ytinmenifoebfmaagreatdoor", sum := "b6f516f1fc5be57172382ee569920f64672ebfd4d1740254b2d7a6cb224306b2", func := "selfstab/selfstablaw31.IndependentReaches", spec := "independentReaches", inPlace := ["internal/bytealg.IndexByteString"], unfollowed := true, recurses := true, named := ["math/bits.deBruijn32tab"], plainKeys := false, apart := false, laid := [("math/bits.deBruijn32tab", laid_math_bits_deBruijn32tab)], narrowed := true }
def IndependentReachesUptoSaid : Prop := independentReachesUptoRow.holds Tryz.pinned (OpenSpec.upto independentReachesSpec)

/-- 'selfstablaw31.IndependentRests', WHERE WHAT IT READS IS OF BULK AT MOST 1048576: true; the input reads as it did. -/
def independentRestsUptoRow : OpenClaim := { program := "ytinmenifoebfmaagreatdoor", sum := "b6f516f1fc5be57172382ee569920f64672ebfd4d1740254b2d7a6cb224306b2", func := "selfstab/selfstablaw31.IndependentRests", spec := "independentRests", inPlace := ["internal/bytealg.IndexByteString"], unfollowed := true, recurses := true, named := ["math/bits.deBruijn32tab"], plainKeys := false, apart := false, laid := [("math/bits.deBruijn32tab", laid_math_bits_deBruijn32tab)], narrowed := true }
def IndependentRestsUptoSaid : Prop := independentRestsUptoRow.holds Tryz.pinned (OpenSpec.upto independentRestsSpec)

end Rows
end Go.Proofs.YtinmenifoebfmaaGreatDoor
