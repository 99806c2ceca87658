/-
  DERIVED. GIVEN WITH THE SEED: THE CARDS: each row of YtgijboakaodcgaaDoorRows.lean that lists a variable, with what it lists TIED to the program's text (the seventh form; the later family's looks); each row that meets fmt, with fmt's text TOLD by the authors' own Lean function (tested against real Go, not proved from fmt's source: count such statements apart). THE CARD IS WHAT COUNTS. Prove the row's statement (the work); the ties are given (YtgijboakaodcgaaDoorTie.lean); close each card by the builder's one call (the guide's Derived/Test/ToyasCard.lean, 'card_holds'). Laid BY PROGRAM, IN A SANDBOX (cutbox-door.mjs). By AI agents, Wed Nov 11 2026. No macro, syntax, notation, axiom, sorry.
-/
import Derived.Test.YtgijboakaodcgaaDoorRows
import GoSem.ClaimSeven
namespace Go.Proofs.YtgijboakaodcgaaDoor
namespace Rows

/-- THE TIED CARD OF 'earshotlaw17.KernelNone'. -/
def kernelNoneCard : Claim7 := { stood := { row := kernelNoneRow, standIns := [], harness := (true, "f0faa129684e6823275640e0b1f10ec9842d2069e3ee82c4973e727a8ec8788a"), looks := false }, kinds := [], alts := [], laidByText := true, laidKinds := [.data], laidTests := true, laidLooks := .later }
def KernelNoneCardSaid : Prop := Claim7.holds Tryd.pinned (.plain (OpenSpec.ofChange kernelNoneSpec)) kernelNoneCard

/-- THE TIED CARD OF 'earshotlaw17.KernelSums'. -/
def kernelSumsCard : Claim7 := { stood := { row := kernelSumsRow, standIns := [], harness := (true, "f0faa129684e6823275640e0b1f10ec9842d2069e3ee82c4973e727a8ec8788a"), looks := false }, kinds := [], alts := [], laidByText := true, laidKinds := [.data], laidTests := true, laidLooks := .later }
def KernelSumsCardSaid : Prop := Claim7.holds Tryd.pinned (.plain (OpenSpec.ofChange kernelSumsSpec)) kernelSumsCard

/-- THE TIED CARD OF 'earshotlaw17.KernelPost'. -/
def kernelPostCard : Claim7 := { stood := { row := kernelPostRow, standIns := [], harness := (true, "f0faa129684e6823275640e0b1f10ec9842d2069e3ee82c4973e727a8ec8788a"), looks := false }, kinds := [], alts := [], laidByText := true, laidKinds := [.data], laidTests := true, laidLooks := .later }
def KernelPostCardSaid : Prop := Claim7.holds Tryd.pinned (.plain (OpenSpec.ofChange kernelPostSpec)) kernelPostCard

/-- THE TIED CARD OF 'earshotlaw17.KernelTurned'. -/
def kernelTurnedCard : Claim7 := { stood := { row := kernelTurnedRow, standIns := [], harness := (true, "f0faa129684e6823275640e0b1f10ec9842d2069e3ee82c4973e727a8ec8788a"), looks := false }, kinds := [], alts := [], laidByText := true, laidKinds := [.data], laidTests := true, laidLooks := .later }
def KernelTurnedCardSaid : Prop := Claim7.holds Tryd.pinned (.plain (OpenSpec.ofChange kernelTurnedSpec)) kernelTurnedCard

/-- THE TIED CARD OF 'earshotlaw17.KernelWords'. -/
def kernelWordsCard : Claim7 := { stood := { row := kernelWordsRow, standIns := [], harness := (true, "f0faa129684e6823275640e0b1f10ec9842d2069e3ee82c4973e727a8ec8788a"), looks := false }, kinds := [], alts := [], laidByText := true, laidKinds := [.data], laidTests := true, laidLooks := .later }
def KernelWordsCardSaid : Prop := Claim7.holds Tryd.pinned (.plain (OpenSpec.ofChange kernelWordsSpec)) kernelWordsCard

/-- THE TIED CARD OF 'earshotlaw17.KernelTells'. -/
def kernelTellsCard : Claim7 := { stood := { row := kernelTellsRow, standIns := [], harness := (true, "f0faa129684e6823275640e0b1f10ec9842d2069e3ee82c4973e727a8ec8788a"), looks := false }, kinds := [], alts := [], laidByText := true, laidKinds := [.data], laidTests := true, laidLooks := .later }
def KernelTellsCardSaid : Prop := Claim7.holds Tryd.pinned (.plain (OpenSpec.ofChange kernelTellsSpec)) kernelTellsCard

/-- THE TIED CARD OF 'earshotlaw20.BoundTells'. -/
def boundTellsCard : Claim7 := { stood := { row := boundTellsRow, standIns := [], harness := (true, "f0faa129684e6823275640e0b1f10ec9842d2069e3ee82c4973e727a8ec8788a"), looks := false }, kinds := [], alts := [], laidByText := true, laidKinds := [.data], laidTests := true, laidLooks := .later }
def BoundTellsCardSaid : Prop := Claim7.holds Tryd.pinned (.plain (OpenSpec.ofChange boundTellsSpec)) boundTellsCard

/-- THE TIED CARD OF 'earshotlaw20.BoundMet'. -/
def boundMetCard : Claim7 := { stood := { row := boundMetRow, standIns := [], harness := (true, "f0faa129684e6823275640e0b1f10ec9842d2069e3ee82c4973e727a8ec8788a"), looks := false }, kinds := [], alts := [], laidByText := true, laidKinds := [.data], laidTests := true, laidLooks := .later }
def BoundMetCardSaid : Prop := Claim7.holds Tryd.pinned (.plain (OpenSpec.ofChange boundMetSpec)) boundMetCard

/-- THE TIED CARD OF 'earshotlaw20.BoundWide'. -/
def boundWideCard : Claim7 := { stood := { row := boundWideRow, standIns := [], harness := (true, "f0faa129684e6823275640e0b1f10ec9842d2069e3ee82c4973e727a8ec8788a"), looks := false }, kinds := [], alts := [], laidByText := true, laidKinds := [.data], laidTests := true, laidLooks := .later }
def BoundWideCardSaid : Prop := Claim7.holds Tryd.pinned (.plain (OpenSpec.ofChange boundWideSpec)) boundWideCard

/-- THE SECOND FORM's CARD OF 'earshotlaw17.KernelNone'. -/
def kernelNoneUptoCard : Claim7 := { stood := { row := kernelNoneUptoRow, standIns := [], harness := (true, "f0faa129684e6823275640e0b1f10ec9842d2069e3ee82c4973e727a8ec8788a"), looks := false }, kinds := [], alts := [], laidByText := true, laidKinds := [.data], laidTests := true, laidLooks := .later }
def KernelNoneUptoCardSaid : Prop := Claim7.holds Tryd.pinned (.plain (OpenSpec.upto kernelNoneSpec)) kernelNoneUptoCard

/-- THE SECOND FORM's CARD OF 'earshotlaw17.KernelSums'. -/
def kernelSumsUptoCard : Claim7 := { stood := { row := kernelSumsUptoRow, standIns := [], harness := (true, "f0faa129684e6823275640e0b1f10ec9842d2069e3ee82c4973e727a8ec8788a"), looks := false }, kinds := [], alts := [], laidByText := true, laidKinds := [.data], laidTests := true, laidLooks := .later }
def KernelSumsUptoCardSaid : Prop := Claim7.holds Tryd.pinned (.plain (OpenSpec.upto kernelSumsSpec)) kernelSumsUptoCard

/-- THE SECOND FORM's CARD OF 'earshotlaw17.KernelPost'. -/
def kernelPostUptoCard : Claim7 := { stood := { row := kernelPostUptoRow, standIns := [], harness := (true, "f0faa129684e6823275640e0b1f10ec9842d2069e3ee82c4973e727a8ec8788a"), looks := false }, kinds := [], alts := [], laidByText := true, laidKinds := [.data], laidTests := true, laidLooks := .later }
def KernelPostUptoCardSaid : Prop := Claim7.holds Tryd.pinned (.plain (OpenSpec.upto kernelPostSpec)) kernelPostUptoCard

/-- THE SECOND FORM's CARD OF 'earshotlaw17.KernelTurned'. -/
def kernelTurnedUptoCard : Claim7 := { stood := { row := kernelTurnedUptoRow, standIns := [], harness := (true, "f0faa129684e6823275640e0b1f10ec9842d2069e3ee82c4973e727a8ec8788a"), looks := false }, kinds := [], alts := [], laidByText := true, laidKinds := [.data], laidTests := true, laidLooks := .later }
def KernelTurnedUptoCardSaid : Prop := Claim7.holds Tryd.pinned (.plain (OpenSpec.upto kernelTurnedSpec)) kernelTurnedUptoCard

/-- THE SECOND FORM's CARD OF 'earshotlaw17.KernelWords'. -/
def kernelWordsUptoCard : Claim7 := { stood := { row := kernelWordsUptoRow, standIns := [], harness := (true, "f0faa129684e6823275640e0b1f10ec9842d2069e3ee82c4973e727a8ec8788a"), looks := false }, kinds := [], alts := [], laidByText := true, laidKinds := [.data], laidTests := true, laidLooks := .later }
def KernelWordsUptoCardSaid : Prop := Claim7.holds Tryd.pinned (.plain (OpenSpec.upto kernelWordsSpec)) kernelWordsUptoCard

/-- THE SECOND FORM's CARD OF 'earshotlaw17.KernelTells'. -/
def kernelTellsUptoCard : Claim7 := { stood := { row := kernelTellsUptoRow, standIns := [], harness := (true, "f0faa129684e6823275640e0b1f10ec9842d2069e3ee82c4973e727a8ec8788a"), looks := false }, kinds := [], alts := [], laidByText := true, laidKinds := [.data], laidTests := true, laidLooks := .later }
def KernelTellsUptoCardSaid : Prop := Claim7.holds Tryd.pinned (.plain (OpenSpec.upto kernelTellsSpec)) kernelTellsUptoCard

/-- THE SECOND FORM's CARD OF 'earshotlaw20.BoundTells'. -/
def boundTellsUptoCard : Claim7 := { stood := { row := boundTellsUptoRow, standIns := [], harness := (true, "f0faa129684e6823275640e0b1f10ec9842d2069e3ee82c4973e727a8ec8788a"), looks := false }, kinds := [], alts := [], laidByText := true, laidKinds := [.data], laidTests := true, laidLooks := .later }
def BoundTellsUptoCardSaid : Prop := Claim7.holds Tryd.pinned (.plain (OpenSpec.upto boundTellsSpec)) boundTellsUptoCard

/-- THE SECOND FORM's CARD OF 'earshotlaw20.BoundMet'. -/
def boundMetUptoCard : Claim7 := { stood := { row := boundMetUptoRow, standIns := [], harness := (true, "f0faa129684e6823275640e0b1f10ec9842d2069e3ee82c4973e727a8ec8788a"), looks := false }, kinds := [], alts := [], laidByText := true, laidKinds := [.data], laidTests := true, laidLooks := .later }
def BoundMetUptoCardSaid : Prop := Claim7.holds Tryd.pinned (.plain (OpenSpec.upto boundMetSpec)) boundMetUptoCard

/-- THE SECOND FORM's CARD OF 'earshotlaw20.BoundWide'. -/
def boundWideUptoCard : Claim7 := { stood := { row := boundWideUptoRow, standIns := [], harness := (true, "f0faa129684e6823275640e0b1f10ec9842d2069e3ee82c4973e727a8ec8788a"), looks := false }, kinds := [], alts := [], laidByText := true, laidKinds := [.data], laidTests := true, laidLooks := .later }
def BoundWideUptoCardSaid : Prop := Claim7.holds Tryd.pinned (.plain (OpenSpec.upto boundWideSpec)) boundWideUptoCard
end Rows
end Go.Proofs.YtgijboakaodcgaaDoor
