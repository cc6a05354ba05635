/-
  DERIVED. GIVEN WITH THE SEED: THE CARDS: each row of YtobpogkghbakmaaGreatDoorRows.lean that lists a variable, with what it lists TIED to the program's text (the seventh form; the later family's looks); each row that meets fmt, with fmt's text TOLD by the authors' own Lean function (tested against real Go, not proved from fmt's source: count such statements apart). THE CARD IS WHAT COUNTS. Prove the row's statement (the work); the ties are given (YtobpogkghbakmaaGreatDoorTie.lean); close each card by the builder's one call (the guide's Derived/Test/ToyasCard.lean, 'card_holds'). Laid BY PROGRAM, IN A SANDBOX (cutbox-door.mjs). By AI agents, Wed Nov 11 2026. No macro, syntax, notation, axiom, sorry.
-/
import Derived.Test.YtobpogkghbakmaaGreatDoorRows
import GoSem.ClaimSeven
namespace Go.Proofs.YtobpogkghbakmaaGreatDoor
namespace Rows

/-- THE TIED CARD OF 'selfstabtop.TopTreesConverge'. -/
def topTreesConvergeCard : Claim7 := { stood := { row := topTreesConvergeRow, standIns := [], harness := (true, "90bab852cc3c4ecfa1da57910e7c932474a62d522c16ef5763b4a68020741974"), looks := true }, kinds := [], alts := [], laidByText := true, laidKinds := [.data], laidTests := true, laidLooks := .later }
def TopTreesConvergeCardSaid : Prop := Claim7.holds Tryz.pinned (.plain (OpenSpec.ofChange topTreesConvergeSpec)) topTreesConvergeCard

/-- THE SECOND FORM's CARD OF 'selfstabtop.TopTreesConverge'. -/
def topTreesConvergeUptoCard : Claim7 := { stood := { row := topTreesConvergeUptoRow, standIns := [], harness := (true, "90bab852cc3c4ecfa1da57910e7c932474a62d522c16ef5763b4a68020741974"), looks := true }, kinds := [], alts := [], laidByText := true, laidKinds := [.data], laidTests := true, laidLooks := .later }
def TopTreesConvergeUptoCardSaid : Prop := Claim7.holds Tryz.pinned (.plain (OpenSpec.upto topTreesConvergeSpec)) topTreesConvergeUptoCard
end Rows
end Go.Proofs.YtobpogkghbakmaaGreatDoor
