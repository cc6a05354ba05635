/-
  DERIVED. GIVEN WITH THE SEED: THE CARDS: each row of YtlpfphlbghdokaaGreatDoorRows.lean that lists a variable, with what it lists TIED to the program's text (the seventh form; the later family's looks); each row that meets fmt, with fmt's text TOLD by the authors' own Lean function (tested against real Go, not proved from fmt's source: count such statements apart). THE CARD IS WHAT COUNTS. Prove the row's statement (the work); the ties are given (YtlpfphlbghdokaaGreatDoorTie.lean); close each card by the builder's one call (the guide's Derived/Test/ToyasCard.lean, 'card_holds'). Laid BY PROGRAM, IN A SANDBOX (cutbox-door.mjs). By AI agents, Wed Nov 11 2026. No macro, syntax, notation, axiom, sorry.
-/
import Derived.Test.YtlpfphlbghdokaaGreatDoorRows
import GoSem.ClaimSeven
namespace Go.Proofs.YtlpfphlbghdokaaGreatDoor
namespace Rows

/-- THE TIED CARD OF 'selfstablaw36.ClockWhole'. -/
def clockWholeCard : Claim7 := { stood := { row := clockWholeRow, standIns := [], harness := (true, "ab0b9fa1099141f90fb1aeeb7c9d119a567edf59ec7f82d5757bf73db50f2c52"), looks := true }, kinds := [], alts := [], laidByText := true, laidKinds := [.data], laidTests := true, laidLooks := .later }
def ClockWholeCardSaid : Prop := Claim7.holds Tryz.pinned (.plain (OpenSpec.ofChange clockWholeSpec)) clockWholeCard

/-- THE TIED CARD OF 'selfstablaw35.WaveWhole'. -/
def waveWholeCard : Claim7 := { stood := { row := waveWholeRow, standIns := [], harness := (true, "ab0b9fa1099141f90fb1aeeb7c9d119a567edf59ec7f82d5757bf73db50f2c52"), looks := true }, kinds := [], alts := [], laidByText := true, laidKinds := [.data], laidTests := true, laidLooks := .later }
def WaveWholeCardSaid : Prop := Claim7.holds Tryz.pinned (.plain (OpenSpec.ofChange waveWholeSpec)) waveWholeCard

/-- THE SECOND FORM's CARD OF 'selfstablaw36.ClockWhole'. -/
def clockWholeUptoCard : Claim7 := { stood := { row := clockWholeUptoRow, standIns := [], harness := (true, "ab0b9fa1099141f90fb1aeeb7c9d119a567edf59ec7f82d5757bf73db50f2c52"), looks := true }, kinds := [], alts := [], laidByText := true, laidKinds := [.data], laidTests := true, laidLooks := .later }
def ClockWholeUptoCardSaid : Prop := Claim7.holds Tryz.pinned (.plain (OpenSpec.upto clockWholeSpec)) clockWholeUptoCard

/-- THE SECOND FORM's CARD OF 'selfstablaw35.WaveWhole'. -/
def waveWholeUptoCard : Claim7 := { stood := { row := waveWholeUptoRow, standIns := [], harness := (true, "ab0b9fa1099141f90fb1aeeb7c9d119a567edf59ec7f82d5757bf73db50f2c52"), looks := true }, kinds := [], alts := [], laidByText := true, laidKinds := [.data], laidTests := true, laidLooks := .later }
def WaveWholeUptoCardSaid : Prop := Claim7.holds Tryz.pinned (.plain (OpenSpec.upto waveWholeSpec)) waveWholeUptoCard
end Rows
end Go.Proofs.YtlpfphlbghdokaaGreatDoor
