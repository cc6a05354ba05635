/-
  DERIVED. GIVEN WITH THE SEED: THE CARDS: each row of YtinmenifoebfmaaGreatDoorRows.lean that lists a variable, with what it lists TIED to the program's text (the seventh form; the later family's looks); each row that meets fmt, with fmt's text TOLD by the authors' own Lean function (tested against real Go, not proved from fmt's source: count such statements apart). THE CARD IS WHAT COUNTS. Prove the row's statement (the work); the ties are given (YtinmenifoebfmaaGreatDoorTie.lean); close each card by the builder's one call (the guide's Derived/Test/ToyasCard.lean, 'card_holds'). Laid BY PROGRAM, IN A SANDBOX (cutbox-door.mjs). By AI agents, Wed Nov 11 2026. No macro, syntax, notation, axiom, sorry.
-/
import Derived.Test.YtinmenifoebfmaaGreatDoorRows
import GoSem.ClaimSeven
namespace Go.Proofs.YtinmenifoebfmaaGreatDoor
namespace Rows

/-- THE TIED CARD OF 'selfstablaw29.RingFew'. -/
def ringFewCard : Claim7 := { stood := { row := ringFewRow, standIns := [], harness := (true, "82b8cfcc507f8290ff7d6cd8ecfd25946bf0633c864bfa4b2f50530d09ff33c8"), looks := true }, kinds := [], alts := [], laidByText := true, laidKinds := [.data], laidTests := true, laidLooks := .later }
def RingFewCardSaid : Prop := Claim7.holds Tryz.pinned (.plain (OpenSpec.ofChange ringFewSpec)) ringFewCard

/-- THE TIED CARD OF 'selfstablaw29.RingReaches'. -/
def ringReachesCard : Claim7 := { stood := { row := ringReachesRow, standIns := [], harness := (true, "82b8cfcc507f8290ff7d6cd8ecfd25946bf0633c864bfa4b2f50530d09ff33c8"), looks := true }, kinds := [], alts := [], laidByText := true, laidKinds := [.data], laidTests := true, laidLooks := .later }
def RingReachesCardSaid : Prop := Claim7.holds Tryz.pinned (.plain (OpenSpec.ofChange ringReachesSpec)) ringReachesCard

/-- THE TIED CARD OF 'selfstablaw29.RingTurns'. -/
def ringTurnsCard : Claim7 := { stood := { row := ringTurnsRow, standIns := [], harness := (true, "82b8cfcc507f8290ff7d6cd8ecfd25946bf0633c864bfa4b2f50530d09ff33c8"), looks := true }, kinds := [], alts := [], laidByText := true, laidKinds := [.data], laidTests := true, laidLooks := .later }
def RingTurnsCardSaid : Prop := Claim7.holds Tryz.pinned (.plain (OpenSpec.ofChange ringTurnsSpec)) ringTurnsCard

/-- THE TIED CARD OF 'selfstablaw31.IndependentFirst'. -/
def independentFirstCard : Claim7 := { stood := { row := independentFirstRow, standIns := [], harness := (true, "82b8cfcc507f8290ff7d6cd8ecfd25946bf0633c864bfa4b2f50530d09ff33c8"), looks := true }, kinds := [], alts := [], laidByText := true, laidKinds := [.data], laidTests := true, laidLooks := .later }
def IndependentFirstCardSaid : Prop := Claim7.holds Tryz.pinned (.plain (OpenSpec.ofChange independentFirstSpec)) independentFirstCard

/-- THE TIED CARD OF 'selfstablaw31.IndependentReaches'. -/
def independentReachesCard : Claim7 := { stood := { row := independentReachesRow, standIns := [], harness := (true, "82b8cfcc507f8290ff7d6cd8ecfd25946bf0633c864bfa4b2f50530d09ff33c8"), looks := true }, kinds := [], alts := [], laidByText := true, laidKinds := [.data], laidTests := true, laidLooks := .later }
def IndependentReachesCardSaid : Prop := Claim7.holds Tryz.pinned (.plain (OpenSpec.ofChange independentReachesSpec)) independentReachesCard

/-- THE TIED CARD OF 'selfstablaw31.IndependentRests'. -/
def independentRestsCard : Claim7 := { stood := { row := independentRestsRow, standIns := [], harness := (true, "82b8cfcc507f8290ff7d6cd8ecfd25946bf0633c864bfa4b2f50530d09ff33c8"), looks := true }, kinds := [], alts := [], laidByText := true, laidKinds := [.data], laidTests := true, laidLooks := .later }
def IndependentRestsCardSaid : Prop := Claim7.holds Tryz.pinned (.plain (OpenSpec.ofChange independentRestsSpec)) independentRestsCard

/-- THE SECOND FORM's CARD OF 'selfstablaw29.RingFew'. -/
def ringFewUptoCard : Claim7 := { stood := { row := ringFewUptoRow, standIns := [], harness := (true, "82b8cfcc507f8290ff7d6cd8ecfd25946bf0633c864bfa4b2f50530d09ff33c8"), looks := true }, kinds := [], alts := [], laidByText := true, laidKinds := [.data], laidTests := true, laidLooks := .later }
def RingFewUptoCardSaid : Prop := Claim7.holds Tryz.pinned (.plain (OpenSpec.upto ringFewSpec)) ringFewUptoCard

/-- THE SECOND FORM's CARD OF 'selfstablaw29.RingReaches'. -/
def ringReachesUptoCard : Claim7 := { stood := { row := ringReachesUptoRow, standIns := [], harness := (true, "82b8cfcc507f8290ff7d6cd8ecfd25946bf0633c864bfa4b2f50530d09ff33c8"), looks := true }, kinds := [], alts := [], laidByText := true, laidKinds := [.data], laidTests := true, laidLooks := .later }
def RingReachesUptoCardSaid : Prop := Claim7.holds Tryz.pinned (.plain (OpenSpec.upto ringReachesSpec)) ringReachesUptoCard

/-- THE SECOND FORM's CARD OF 'selfstablaw29.RingTurns'. -/
def ringTurnsUptoCard : Claim7 := { stood := { row := ringTurnsUptoRow, standIns := [], harness := (true, "82b8cfcc507f8290ff7d6cd8ecfd25946bf0633c864bfa4b2f50530d09ff33c8"), looks := true }, kinds := [], alts := [], laidByText := true, laidKinds := [.data], laidTests := true, laidLooks := .later }
def RingTurnsUptoCardSaid : Prop := Claim7.holds Tryz.pinned (.plain (OpenSpec.upto ringTurnsSpec)) ringTurnsUptoCard

/-- THE SECOND FORM's CARD OF 'selfstablaw31.IndependentFirst'. -/
def independentFirstUptoCard : Claim7 := { stood := { row := independentFirstUptoRow, standIns := [], harness := (true, "82b8cfcc507f8290ff7d6cd8ecfd25946bf0633c864bfa4b2f50530d09ff33c8"), looks := true }, kinds := [], alts := [], laidByText := true, laidKinds := [.data], laidTests := true, laidLooks := .later }
def IndependentFirstUptoCardSaid : Prop := Claim7.holds Tryz.pinned (.plain (OpenSpec.upto independentFirstSpec)) independentFirstUptoCard

/-- THE SECOND FORM's CARD OF 'selfstablaw31.IndependentReaches'. -/
def independentReachesUptoCard : Claim7 := { stood := { row := independentReachesUptoRow, standIns := [], harness := (true, "82b8cfcc507f8290ff7d6cd8ecfd25946bf0633c864bfa4b2f50530d09ff33c8"), looks := true }, kinds := [], alts := [], laidByText := true, laidKinds := [.data], laidTests := true, laidLooks := .later }
def IndependentReachesUptoCardSaid : Prop := Claim7.holds Tryz.pinned (.plain (OpenSpec.upto independentReachesSpec)) independentReachesUptoCard

/-- THE SECOND FORM's CARD OF 'selfstablaw31.IndependentRests'. -/
def independentRestsUptoCard : Claim7 := { stood := { row := independentRestsUptoRow, standIns := [], harness := (true, "82b8cfcc507f8290ff7d6cd8ecfd25946bf0633c864bfa4b2f50530d09ff33c8"), looks := true }, kinds := [], alts := [], laidByText := true, laidKinds := [.data], laidTests := true, laidLooks := .later }
def IndependentRestsUptoCardSaid : Prop := Claim7.holds Tryz.pinned (.plain (OpenSpec.upto independentRestsSpec)) independentRestsUptoCard
end Rows
end Go.Proofs.YtinmenifoebfmaaGreatDoor
