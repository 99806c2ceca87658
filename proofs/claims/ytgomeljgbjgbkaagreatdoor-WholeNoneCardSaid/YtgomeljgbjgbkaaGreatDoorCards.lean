/-
  DERIVED. GIVEN WITH THE SEED: THE CARDS: each row of YtgomeljgbjgbkaaGreatDoorRows.lean that lists a variable, with what it lists TIED to the program's text (the seventh form; the later family's looks); each row that meets fmt, with fmt's text TOLD by the authors' own Lean function (tested against real Go, not proved from fmt's source: count such statements apart). THE CARD IS WHAT COUNTS. Prove the row's statement (the work); the ties are given (YtgomeljgbjgbkaaGreatDoorTie.lean); close each card by the builder's one call (the guide's Derived/Test/ToyasCard.lean, 'card_holds'). Laid BY PROGRAM, IN A SANDBOX (cutbox-door.mjs). By AI agents, Wed Nov 11 2026. No macro, syntax, notation, axiom, sorry.
-/
import Derived.Test.YtgomeljgbjgbkaaGreatDoorRows
import GoSem.ClaimSeven
namespace Go.Proofs.YtgomeljgbjgbkaaGreatDoor
namespace Rows

/-- THE TIED CARD OF 'earshotlaw18.WholeTells'. -/
def wholeTellsCard : Claim7 := { stood := { row := wholeTellsRow, standIns := [], harness := (true, "6a3aabd271747ce5e033d0a826a6e8f8f12291ee559eaa25193c4c9ab29e9c47"), looks := false }, kinds := [], alts := [], laidByText := true, laidKinds := [.data], laidTests := true, laidLooks := .later }
def WholeTellsCardSaid : Prop := Claim7.holds Tryz.pinned (.plain (OpenSpec.ofChange wholeTellsSpec)) wholeTellsCard

/-- THE TIED CARD OF 'earshotlaw18.WholeNone'. -/
def wholeNoneCard : Claim7 := { stood := { row := wholeNoneRow, standIns := [], harness := (true, "6a3aabd271747ce5e033d0a826a6e8f8f12291ee559eaa25193c4c9ab29e9c47"), looks := false }, kinds := [], alts := [], laidByText := true, laidKinds := [.data], laidTests := true, laidLooks := .later }
def WholeNoneCardSaid : Prop := Claim7.holds Tryz.pinned (.plain (OpenSpec.ofChange wholeNoneSpec)) wholeNoneCard

/-- THE TIED CARD OF 'earshotlaw18.WholeCounts'. -/
def wholeCountsCard : Claim7 := { stood := { row := wholeCountsRow, standIns := [], harness := (true, "6a3aabd271747ce5e033d0a826a6e8f8f12291ee559eaa25193c4c9ab29e9c47"), looks := false }, kinds := [], alts := [], laidByText := true, laidKinds := [.data], laidTests := true, laidLooks := .later }
def WholeCountsCardSaid : Prop := Claim7.holds Tryz.pinned (.plain (OpenSpec.ofChange wholeCountsSpec)) wholeCountsCard

/-- THE SECOND FORM's CARD OF 'earshotlaw18.WholeTells'. -/
def wholeTellsUptoCard : Claim7 := { stood := { row := wholeTellsUptoRow, standIns := [], harness := (true, "6a3aabd271747ce5e033d0a826a6e8f8f12291ee559eaa25193c4c9ab29e9c47"), looks := false }, kinds := [], alts := [], laidByText := true, laidKinds := [.data], laidTests := true, laidLooks := .later }
def WholeTellsUptoCardSaid : Prop := Claim7.holds Tryz.pinned (.plain (OpenSpec.upto wholeTellsSpec)) wholeTellsUptoCard

/-- THE SECOND FORM's CARD OF 'earshotlaw18.WholeNone'. -/
def wholeNoneUptoCard : Claim7 := { stood := { row := wholeNoneUptoRow, standIns := [], harness := (true, "6a3aabd271747ce5e033d0a826a6e8f8f12291ee559eaa25193c4c9ab29e9c47"), looks := false }, kinds := [], alts := [], laidByText := true, laidKinds := [.data], laidTests := true, laidLooks := .later }
def WholeNoneUptoCardSaid : Prop := Claim7.holds Tryz.pinned (.plain (OpenSpec.upto wholeNoneSpec)) wholeNoneUptoCard

/-- THE SECOND FORM's CARD OF 'earshotlaw18.WholeCounts'. -/
def wholeCountsUptoCard : Claim7 := { stood := { row := wholeCountsUptoRow, standIns := [], harness := (true, "6a3aabd271747ce5e033d0a826a6e8f8f12291ee559eaa25193c4c9ab29e9c47"), looks := false }, kinds := [], alts := [], laidByText := true, laidKinds := [.data], laidTests := true, laidLooks := .later }
def WholeCountsUptoCardSaid : Prop := Claim7.holds Tryz.pinned (.plain (OpenSpec.upto wholeCountsSpec)) wholeCountsUptoCard
end Rows
end Go.Proofs.YtgomeljgbjgbkaaGreatDoor
