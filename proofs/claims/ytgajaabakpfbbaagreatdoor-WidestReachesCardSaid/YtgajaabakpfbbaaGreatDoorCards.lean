/-
  DERIVED. GIVEN WITH THE SEED: THE CARDS: each row of YtgajaabakpfbbaaGreatDoorRows.lean that lists a variable, with what it lists TIED to the program's text (the seventh form; the later family's looks); each row that meets fmt, with fmt's text TOLD by the authors' own Lean function (tested against real Go, not proved from fmt's source: count such statements apart). THE CARD IS WHAT COUNTS. Prove the row's statement (the work); the ties are given (YtgajaabakpfbbaaGreatDoorTie.lean); close each card by the builder's one call (the guide's Derived/Test/ToyasCard.lean, 'card_holds'). Laid BY PROGRAM, IN A SANDBOX (cutbox-door.mjs). By AI agents, Wed Nov 11 2026. No macro, syntax, notation, axiom, sorry.
-/
import Derived.Test.YtgajaabakpfbbaaGreatDoorRows
import GoSem.ClaimSeven
namespace Go.Proofs.YtgajaabakpfbbaaGreatDoor
namespace Rows

/-- THE TIED CARD OF 'selfstablaw25.WidestBottlenecks'. -/
def widestBottlenecksCard : Claim7 := { stood := { row := widestBottlenecksRow, standIns := [], harness := (true, "8f81143250ae512bbfa6272d8c0089a863863b2e9768701b1edf7d99ed704613"), looks := true }, kinds := [], alts := [], laidByText := true, laidKinds := [.data], laidTests := true, laidLooks := .later }
def WidestBottlenecksCardSaid : Prop := Claim7.holds Tryz.pinned (.plain (OpenSpec.ofChange widestBottlenecksSpec)) widestBottlenecksCard

/-- THE TIED CARD OF 'selfstablaw25.WidestLeast'. -/
def widestLeastCard : Claim7 := { stood := { row := widestLeastRow, standIns := [], harness := (true, "8f81143250ae512bbfa6272d8c0089a863863b2e9768701b1edf7d99ed704613"), looks := true }, kinds := [], alts := [], laidByText := true, laidKinds := [.data], laidTests := true, laidLooks := .later }
def WidestLeastCardSaid : Prop := Claim7.holds Tryz.pinned (.plain (OpenSpec.ofChange widestLeastSpec)) widestLeastCard

/-- THE TIED CARD OF 'selfstablaw25.WidestReaches'. -/
def widestReachesCard : Claim7 := { stood := { row := widestReachesRow, standIns := [], harness := (true, "8f81143250ae512bbfa6272d8c0089a863863b2e9768701b1edf7d99ed704613"), looks := true }, kinds := [], alts := [], laidByText := true, laidKinds := [.data], laidTests := true, laidLooks := .later }
def WidestReachesCardSaid : Prop := Claim7.holds Tryz.pinned (.plain (OpenSpec.ofChange widestReachesSpec)) widestReachesCard

/-- THE TIED CARD OF 'selfstablaw25.WidestRests'. -/
def widestRestsCard : Claim7 := { stood := { row := widestRestsRow, standIns := [], harness := (true, "8f81143250ae512bbfa6272d8c0089a863863b2e9768701b1edf7d99ed704613"), looks := true }, kinds := [], alts := [], laidByText := true, laidKinds := [.data], laidTests := true, laidLooks := .later }
def WidestRestsCardSaid : Prop := Claim7.holds Tryz.pinned (.plain (OpenSpec.ofChange widestRestsSpec)) widestRestsCard

/-- THE TIED CARD OF 'selfstablaw25.WidestTree'. -/
def widestTreeCard : Claim7 := { stood := { row := widestTreeRow, standIns := [], harness := (true, "8f81143250ae512bbfa6272d8c0089a863863b2e9768701b1edf7d99ed704613"), looks := true }, kinds := [], alts := [], laidByText := true, laidKinds := [.data], laidTests := true, laidLooks := .later }
def WidestTreeCardSaid : Prop := Claim7.holds Tryz.pinned (.plain (OpenSpec.ofChange widestTreeSpec)) widestTreeCard

/-- THE SECOND FORM's CARD OF 'selfstablaw25.WidestBottlenecks'. -/
def widestBottlenecksUptoCard : Claim7 := { stood := { row := widestBottlenecksUptoRow, standIns := [], harness := (true, "8f81143250ae512bbfa6272d8c0089a863863b2e9768701b1edf7d99ed704613"), looks := true }, kinds := [], alts := [], laidByText := true, laidKinds := [.data], laidTests := true, laidLooks := .later }
def WidestBottlenecksUptoCardSaid : Prop := Claim7.holds Tryz.pinned (.plain (OpenSpec.upto widestBottlenecksSpec)) widestBottlenecksUptoCard

/-- THE SECOND FORM's CARD OF 'selfstablaw25.WidestLeast'. -/
def widestLeastUptoCard : Claim7 := { stood := { row := widestLeastUptoRow, standIns := [], harness := (true, "8f81143250ae512bbfa6272d8c0089a863863b2e9768701b1edf7d99ed704613"), looks := true }, kinds := [], alts := [], laidByText := true, laidKinds := [.data], laidTests := true, laidLooks := .later }
def WidestLeastUptoCardSaid : Prop := Claim7.holds Tryz.pinned (.plain (OpenSpec.upto widestLeastSpec)) widestLeastUptoCard

/-- THE SECOND FORM's CARD OF 'selfstablaw25.WidestReaches'. -/
def widestReachesUptoCard : Claim7 := { stood := { row := widestReachesUptoRow, standIns := [], harness := (true, "8f81143250ae512bbfa6272d8c0089a863863b2e9768701b1edf7d99ed704613"), looks := true }, kinds := [], alts := [], laidByText := true, laidKinds := [.data], laidTests := true, laidLooks := .later }
def WidestReachesUptoCardSaid : Prop := Claim7.holds Tryz.pinned (.plain (OpenSpec.upto widestReachesSpec)) widestReachesUptoCard

/-- THE SECOND FORM's CARD OF 'selfstablaw25.WidestRests'. -/
def widestRestsUptoCard : Claim7 := { stood := { row := widestRestsUptoRow, standIns := [], harness := (true, "8f81143250ae512bbfa6272d8c0089a863863b2e9768701b1edf7d99ed704613"), looks := true }, kinds := [], alts := [], laidByText := true, laidKinds := [.data], laidTests := true, laidLooks := .later }
def WidestRestsUptoCardSaid : Prop := Claim7.holds Tryz.pinned (.plain (OpenSpec.upto widestRestsSpec)) widestRestsUptoCard

/-- THE SECOND FORM's CARD OF 'selfstablaw25.WidestTree'. -/
def widestTreeUptoCard : Claim7 := { stood := { row := widestTreeUptoRow, standIns := [], harness := (true, "8f81143250ae512bbfa6272d8c0089a863863b2e9768701b1edf7d99ed704613"), looks := true }, kinds := [], alts := [], laidByText := true, laidKinds := [.data], laidTests := true, laidLooks := .later }
def WidestTreeUptoCardSaid : Prop := Claim7.holds Tryz.pinned (.plain (OpenSpec.upto widestTreeSpec)) widestTreeUptoCard
end Rows
end Go.Proofs.YtgajaabakpfbbaaGreatDoor
