/-
  DERIVED. GIVEN WITH THE SEED: THE CARDS: each row of YtmifmchinfhbnaaGreatDoorRows.lean that lists a variable, with what it lists TIED to the program's text (the seventh form; the later family's looks); each row that meets fmt, with fmt's text TOLD by the authors' own Lean function (tested against real Go, not proved from fmt's source: count such statements apart). THE CARD IS WHAT COUNTS. Prove the row's statement (the work); the ties are given (YtmifmchinfhbnaaGreatDoorTie.lean); close each card by the builder's one call (the guide's Derived/Test/ToyasCard.lean, 'card_holds'). Laid BY PROGRAM, IN A SANDBOX (cutbox-door.mjs). By AI agents, Wed Nov 11 2026. No macro, syntax, notation, axiom, sorry.
-/
import Derived.Test.YtmifmchinfhbnaaGreatDoorRows
import GoSem.ClaimSeven
namespace Go.Proofs.YtmifmchinfhbnaaGreatDoor
namespace Rows

/-- THE TIED CARD OF 'selfstablaw25.WidestWhole'. -/
def widestWholeCard : Claim7 := { stood := { row := widestWholeRow, standIns := [], harness := (true, "d839797d158f2c4300b25e8b0205f4438176c3a8dccde4885b4e8297c77db022"), looks := true }, kinds := [], alts := [], laidByText := true, laidKinds := [.data], laidTests := true, laidLooks := .later }
def WidestWholeCardSaid : Prop := Claim7.holds Tryz.pinned (.plain (OpenSpec.ofChange widestWholeSpec)) widestWholeCard

/-- THE SECOND FORM's CARD OF 'selfstablaw25.WidestWhole'. -/
def widestWholeUptoCard : Claim7 := { stood := { row := widestWholeUptoRow, standIns := [], harness := (true, "d839797d158f2c4300b25e8b0205f4438176c3a8dccde4885b4e8297c77db022"), looks := true }, kinds := [], alts := [], laidByText := true, laidKinds := [.data], laidTests := true, laidLooks := .later }
def WidestWholeUptoCardSaid : Prop := Claim7.holds Tryz.pinned (.plain (OpenSpec.upto widestWholeSpec)) widestWholeUptoCard
end Rows
end Go.Proofs.YtmifmchinfhbnaaGreatDoor
