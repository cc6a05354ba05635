/-
  DERIVED. GIVEN WITH THE SEED: THE CARDS: each row of YtefdkgkojlflaaaGreatDoorRows.lean that lists a variable, with what it lists TIED to the program's text (the seventh form; the later family's looks); each row that meets fmt, with fmt's text TOLD by the authors' own Lean function (tested against real Go, not proved from fmt's source: count such statements apart). THE CARD IS WHAT COUNTS. Prove the row's statement (the work); the ties are given (YtefdkgkojlflaaaGreatDoorTie.lean); close each card by the builder's one call (the guide's Derived/Test/ToyasCard.lean, 'card_holds'). Laid BY PROGRAM, IN A SANDBOX (cutbox-door.mjs). By AI agents, Wed Nov 11 2026. No macro, syntax, notation, axiom, sorry.
-/
import Derived.Test.YtefdkgkojlflaaaGreatDoorRows
import GoSem.ClaimSeven
namespace Go.Proofs.YtefdkgkojlflaaaGreatDoor
namespace Rows

/-- THE TIED CARD OF 'selfstablaw25.WidestLeast'. -/
def widestLeastCard : Claim7 := { stood := { row := widestLeastRow, standIns := [], harness := (true, "d4b8b7d6aa7fcb74372e1dc8a17f459dd8be1f71811f2ecbe20298d8d84c0742"), looks := true }, kinds := [], alts := [], laidByText := true, laidKinds := [.data], laidTests := true, laidLooks := .later }
def WidestLeastCardSaid : Prop := Claim7.holds Tryz.pinned (.plain (OpenSpec.ofChange widestLeastSpec)) widestLeastCard

/-- THE TIED CARD OF 'selfstablaw25.WidestTree'. -/
def widestTreeCard : Claim7 := { stood := { row := widestTreeRow, standIns := [], harness := (true, "d4b8b7d6aa7fcb74372e1dc8a17f459dd8be1f71811f2ecbe20298d8d84c0742"), looks := true }, kinds := [], alts := [], laidByText := true, laidKinds := [.data], laidTests := true, laidLooks := .later }
def WidestTreeCardSaid : Prop := Claim7.holds Tryz.pinned (.plain (OpenSpec.ofChange widestTreeSpec)) widestTreeCard

/-- THE SECOND FORM's CARD OF 'selfstablaw25.WidestLeast'. -/
def widestLeastUptoCard : Claim7 := { stood := { row := widestLeastUptoRow, standIns := [], harness := (true, "d4b8b7d6aa7fcb74372e1dc8a17f459dd8be1f71811f2ecbe20298d8d84c0742"), looks := true }, kinds := [], alts := [], laidByText := true, laidKinds := [.data], laidTests := true, laidLooks := .later }
def WidestLeastUptoCardSaid : Prop := Claim7.holds Tryz.pinned (.plain (OpenSpec.upto widestLeastSpec)) widestLeastUptoCard

/-- THE SECOND FORM's CARD OF 'selfstablaw25.WidestTree'. -/
def widestTreeUptoCard : Claim7 := { stood := { row := widestTreeUptoRow, standIns := [], harness := (true, "d4b8b7d6aa7fcb74372e1dc8a17f459dd8be1f71811f2ecbe20298d8d84c0742"), looks := true }, kinds := [], alts := [], laidByText := true, laidKinds := [.data], laidTests := true, laidLooks := .later }
def WidestTreeUptoCardSaid : Prop := Claim7.holds Tryz.pinned (.plain (OpenSpec.upto widestTreeSpec)) widestTreeUptoCard
end Rows
end Go.Proofs.YtefdkgkojlflaaaGreatDoor
