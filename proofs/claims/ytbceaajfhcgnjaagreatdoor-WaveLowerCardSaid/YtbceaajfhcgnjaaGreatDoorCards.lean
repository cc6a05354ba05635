/-
  DERIVED. GIVEN WITH THE SEED: THE CARDS: each row of YtbceaajfhcgnjaaGreatDoorRows.lean that lists a variable, with what it lists TIED to the program's text (the seventh form; the later family's looks); each row that meets fmt, with fmt's text TOLD by the authors' own Lean function (tested against real Go, not proved from fmt's source: count such statements apart). THE CARD IS WHAT COUNTS. Prove the row's statement (the work); the ties are given (YtbceaajfhcgnjaaGreatDoorTie.lean); close each card by the builder's one call (the guide's Derived/Test/ToyasCard.lean, 'card_holds'). Laid BY PROGRAM, IN A SANDBOX (cutbox-door.mjs). By AI agents, Wed Nov 11 2026. No macro, syntax, notation, axiom, sorry.
-/
import Derived.Test.YtbceaajfhcgnjaaGreatDoorRows
import GoSem.ClaimSeven
namespace Go.Proofs.YtbceaajfhcgnjaaGreatDoor
namespace Rows

/-- THE TIED CARD OF 'selfstablaw35.WaveVisits'. -/
def waveVisitsCard : Claim7 := { stood := { row := waveVisitsRow, standIns := [], harness := (true, "728b93172267d803947db2fcf113966d965b942383d03628595d2392a8b6a4cf"), looks := true }, kinds := [], alts := [], laidByText := true, laidKinds := [.data], laidTests := true, laidLooks := .later }
def WaveVisitsCardSaid : Prop := Claim7.holds Tryz.pinned (.plain (OpenSpec.ofChange waveVisitsSpec)) waveVisitsCard

/-- THE TIED CARD OF 'selfstablaw35.WaveLower'. -/
def waveLowerCard : Claim7 := { stood := { row := waveLowerRow, standIns := [], harness := (true, "728b93172267d803947db2fcf113966d965b942383d03628595d2392a8b6a4cf"), looks := true }, kinds := [], alts := [], laidByText := true, laidKinds := [.data], laidTests := true, laidLooks := .later }
def WaveLowerCardSaid : Prop := Claim7.holds Tryz.pinned (.plain (OpenSpec.ofChange waveLowerSpec)) waveLowerCard

/-- THE SECOND FORM's CARD OF 'selfstablaw35.WaveVisits'. -/
def waveVisitsUptoCard : Claim7 := { stood := { row := waveVisitsUptoRow, standIns := [], harness := (true, "728b93172267d803947db2fcf113966d965b942383d03628595d2392a8b6a4cf"), looks := true }, kinds := [], alts := [], laidByText := true, laidKinds := [.data], laidTests := true, laidLooks := .later }
def WaveVisitsUptoCardSaid : Prop := Claim7.holds Tryz.pinned (.plain (OpenSpec.upto waveVisitsSpec)) waveVisitsUptoCard

/-- THE SECOND FORM's CARD OF 'selfstablaw35.WaveLower'. -/
def waveLowerUptoCard : Claim7 := { stood := { row := waveLowerUptoRow, standIns := [], harness := (true, "728b93172267d803947db2fcf113966d965b942383d03628595d2392a8b6a4cf"), looks := true }, kinds := [], alts := [], laidByText := true, laidKinds := [.data], laidTests := true, laidLooks := .later }
def WaveLowerUptoCardSaid : Prop := Claim7.holds Tryz.pinned (.plain (OpenSpec.upto waveLowerSpec)) waveLowerUptoCard
end Rows
end Go.Proofs.YtbceaajfhcgnjaaGreatDoor
