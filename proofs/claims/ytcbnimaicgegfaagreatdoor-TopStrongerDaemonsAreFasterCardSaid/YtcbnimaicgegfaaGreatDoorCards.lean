/-
  DERIVED. GIVEN WITH THE SEED: THE CARDS: each row of YtcbnimaicgegfaaGreatDoorRows.lean that lists a variable, with what it lists TIED to the program's text (the seventh form; the later family's looks); each row that meets fmt, with fmt's text TOLD by the authors' own Lean function (tested against real Go, not proved from fmt's source: count such statements apart). THE CARD IS WHAT COUNTS. Prove the row's statement (the work); the ties are given (YtcbnimaicgegfaaGreatDoorTie.lean); close each card by the builder's one call (the guide's Derived/Test/ToyasCard.lean, 'card_holds'). Laid BY PROGRAM, IN A SANDBOX (cutbox-door.mjs). By AI agents, Wed Nov 11 2026. No macro, syntax, notation, axiom, sorry.
-/
import Derived.Test.YtcbnimaicgegfaaGreatDoorRows
import GoSem.ClaimSeven
namespace Go.Proofs.YtcbnimaicgegfaaGreatDoor
namespace Rows

/-- THE TIED CARD OF 'selfstabtop.TopStrongerDaemonsAreFaster'. -/
def topStrongerDaemonsAreFasterCard : Claim7 := { stood := { row := topStrongerDaemonsAreFasterRow, standIns := [], harness := (true, "b7375f9d902942d84d21144571783ecac80514025985c8d87eadd0135ea4977a"), looks := true }, kinds := [], alts := [], laidByText := true, laidKinds := [.data], laidTests := true, laidLooks := .later }
def TopStrongerDaemonsAreFasterCardSaid : Prop := Claim7.holds Tryz.pinned (.plain (OpenSpec.ofChange topStrongerDaemonsAreFasterSpec)) topStrongerDaemonsAreFasterCard

/-- THE SECOND FORM's CARD OF 'selfstabtop.TopStrongerDaemonsAreFaster'. -/
def topStrongerDaemonsAreFasterUptoCard : Claim7 := { stood := { row := topStrongerDaemonsAreFasterUptoRow, standIns := [], harness := (true, "b7375f9d902942d84d21144571783ecac80514025985c8d87eadd0135ea4977a"), looks := true }, kinds := [], alts := [], laidByText := true, laidKinds := [.data], laidTests := true, laidLooks := .later }
def TopStrongerDaemonsAreFasterUptoCardSaid : Prop := Claim7.holds Tryz.pinned (.plain (OpenSpec.upto topStrongerDaemonsAreFasterSpec)) topStrongerDaemonsAreFasterUptoCard
end Rows
end Go.Proofs.YtcbnimaicgegfaaGreatDoor
