/-
  DERIVED. GIVEN WITH THE SEED: THE CARDS: each row of YthbiicpcbnijiaaGreatDoorRows.lean that lists a variable, with what it lists TIED to the program's text (the seventh form; the later family's looks); each row that meets fmt, with fmt's text TOLD by the authors' own Lean function (tested against real Go, not proved from fmt's source: count such statements apart). THE CARD IS WHAT COUNTS. Prove the row's statement (the work); the ties are given (YthbiicpcbnijiaaGreatDoorTie.lean); close each card by the builder's one call (the guide's Derived/Test/ToyasCard.lean, 'card_holds'). Laid BY PROGRAM, IN A SANDBOX (cutbox-door.mjs). By AI agents, Wed Nov 11 2026. No macro, syntax, notation, axiom, sorry.
-/
import Derived.Test.YthbiicpcbnijiaaGreatDoorRows
import GoSem.ClaimSeven
namespace Go.Proofs.YthbiicpcbnijiaaGreatDoor
namespace Rows

/-- THE TIED CARD OF 'selfstablaw29.RingWhole'. -/
def ringWholeCard : Claim7 := { stood := { row := ringWholeRow, standIns := [], harness := (true, "a078936c3dfad074fc65ad00e03c205dd7a7e11f7a17e9676e6838654fab2b30"), looks := true }, kinds := [], alts := [], laidByText := true, laidKinds := [.data], laidTests := true, laidLooks := .later }
def RingWholeCardSaid : Prop := Claim7.holds Tryz.pinned (.plain (OpenSpec.ofChange ringWholeSpec)) ringWholeCard

/-- THE TIED CARD OF 'selfstablaw31.IndependentWhole'. -/
def independentWholeCard : Claim7 := { stood := { row := independentWholeRow, standIns := [], harness := (true, "a078936c3dfad074fc65ad00e03c205dd7a7e11f7a17e9676e6838654fab2b30"), looks := true }, kinds := [], alts := [], laidByText := true, laidKinds := [.data], laidTests := true, laidLooks := .later }
def IndependentWholeCardSaid : Prop := Claim7.holds Tryz.pinned (.plain (OpenSpec.ofChange independentWholeSpec)) independentWholeCard

/-- THE TIED CARD OF 'selfstablaw34.ClusterWhole'. -/
def clusterWholeCard : Claim7 := { stood := { row := clusterWholeRow, standIns := [], harness := (true, "a078936c3dfad074fc65ad00e03c205dd7a7e11f7a17e9676e6838654fab2b30"), looks := true }, kinds := [], alts := [], laidByText := true, laidKinds := [.data], laidTests := true, laidLooks := .later }
def ClusterWholeCardSaid : Prop := Claim7.holds Tryz.pinned (.plain (OpenSpec.ofChange clusterWholeSpec)) clusterWholeCard

/-- THE SECOND FORM's CARD OF 'selfstablaw29.RingWhole'. -/
def ringWholeUptoCard : Claim7 := { stood := { row := ringWholeUptoRow, standIns := [], harness := (true, "a078936c3dfad074fc65ad00e03c205dd7a7e11f7a17e9676e6838654fab2b30"), looks := true }, kinds := [], alts := [], laidByText := true, laidKinds := [.data], laidTests := true, laidLooks := .later }
def RingWholeUptoCardSaid : Prop := Claim7.holds Tryz.pinned (.plain (OpenSpec.upto ringWholeSpec)) ringWholeUptoCard

/-- THE SECOND FORM's CARD OF 'selfstablaw31.IndependentWhole'. -/
def independentWholeUptoCard : Claim7 := { stood := { row := independentWholeUptoRow, standIns := [], harness := (true, "a078936c3dfad074fc65ad00e03c205dd7a7e11f7a17e9676e6838654fab2b30"), looks := true }, kinds := [], alts := [], laidByText := true, laidKinds := [.data], laidTests := true, laidLooks := .later }
def IndependentWholeUptoCardSaid : Prop := Claim7.holds Tryz.pinned (.plain (OpenSpec.upto independentWholeSpec)) independentWholeUptoCard

/-- THE SECOND FORM's CARD OF 'selfstablaw34.ClusterWhole'. -/
def clusterWholeUptoCard : Claim7 := { stood := { row := clusterWholeUptoRow, standIns := [], harness := (true, "a078936c3dfad074fc65ad00e03c205dd7a7e11f7a17e9676e6838654fab2b30"), looks := true }, kinds := [], alts := [], laidByText := true, laidKinds := [.data], laidTests := true, laidLooks := .later }
def ClusterWholeUptoCardSaid : Prop := Claim7.holds Tryz.pinned (.plain (OpenSpec.upto clusterWholeSpec)) clusterWholeUptoCard
end Rows
end Go.Proofs.YthbiicpcbnijiaaGreatDoor
