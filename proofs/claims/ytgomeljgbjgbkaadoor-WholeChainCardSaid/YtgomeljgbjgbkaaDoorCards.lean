/-
  DERIVED. GIVEN WITH THE SEED: THE CARDS: each row of YtgomeljgbjgbkaaDoorRows.lean that lists a variable, with what it lists TIED to the program's text (the seventh form; the later family's looks); each row that meets fmt, with fmt's text TOLD by the authors' own Lean function (tested against real Go, not proved from fmt's source: count such statements apart). THE CARD IS WHAT COUNTS. Prove the row's statement (the work); the ties are given (YtgomeljgbjgbkaaDoorTie.lean); close each card by the builder's one call (the guide's Derived/Test/ToyasCard.lean, 'card_holds'). Laid BY PROGRAM, IN A SANDBOX (cutbox-door.mjs). By AI agents, Wed Nov 11 2026. No macro, syntax, notation, axiom, sorry.
-/
import Derived.Test.YtgomeljgbjgbkaaDoorRows
import GoSem.ClaimSeven
namespace Go.Proofs.YtgomeljgbjgbkaaDoor
namespace Rows

/-- THE TIED CARD OF 'earshotlaw19.FieldReady'. -/
def fieldReadyCard : Claim7 := { stood := { row := fieldReadyRow, standIns := [], harness := (true, "c655ce7c025ae6c1cf09503c27f6660d66a535c934c871be571132a685935a04"), looks := false }, kinds := [], alts := [], laidByText := true, laidKinds := [.data], laidTests := true, laidLooks := .later }
def FieldReadyCardSaid : Prop := Claim7.holds Tryd.pinned (.plain (OpenSpec.ofChange fieldReadySpec)) fieldReadyCard

/-- THE TIED CARD OF 'earshotlaw19.FieldReach'. -/
def fieldReachCard : Claim7 := { stood := { row := fieldReachRow, standIns := [], harness := (true, "c655ce7c025ae6c1cf09503c27f6660d66a535c934c871be571132a685935a04"), looks := false }, kinds := [], alts := [], laidByText := true, laidKinds := [.data], laidTests := true, laidLooks := .later }
def FieldReachCardSaid : Prop := Claim7.holds Tryd.pinned (.plain (OpenSpec.ofChange fieldReachSpec)) fieldReachCard

/-- THE TIED CARD OF 'earshotlaw19.FieldAhead'. -/
def fieldAheadCard : Claim7 := { stood := { row := fieldAheadRow, standIns := [], harness := (true, "c655ce7c025ae6c1cf09503c27f6660d66a535c934c871be571132a685935a04"), looks := false }, kinds := [], alts := [], laidByText := true, laidKinds := [.data], laidTests := true, laidLooks := .later }
def FieldAheadCardSaid : Prop := Claim7.holds Tryd.pinned (.plain (OpenSpec.ofChange fieldAheadSpec)) fieldAheadCard

/-- THE TIED CARD OF 'earshotlaw19.FieldMacs'. -/
def fieldMacsCard : Claim7 := { stood := { row := fieldMacsRow, standIns := [], harness := (true, "c655ce7c025ae6c1cf09503c27f6660d66a535c934c871be571132a685935a04"), looks := false }, kinds := [], alts := [], laidByText := true, laidKinds := [.data], laidTests := true, laidLooks := .later }
def FieldMacsCardSaid : Prop := Claim7.holds Tryd.pinned (.plain (OpenSpec.ofChange fieldMacsSpec)) fieldMacsCard

/-- THE TIED CARD OF 'earshotlaw19.FieldTells'. -/
def fieldTellsCard : Claim7 := { stood := { row := fieldTellsRow, standIns := [], harness := (true, "c655ce7c025ae6c1cf09503c27f6660d66a535c934c871be571132a685935a04"), looks := false }, kinds := [], alts := [], laidByText := true, laidKinds := [.data], laidTests := true, laidLooks := .later }
def FieldTellsCardSaid : Prop := Claim7.holds Tryd.pinned (.plain (OpenSpec.ofChange fieldTellsSpec)) fieldTellsCard

/-- THE TIED CARD OF 'earshotlaw18.WholeReady'. -/
def wholeReadyCard : Claim7 := { stood := { row := wholeReadyRow, standIns := [], harness := (true, "c655ce7c025ae6c1cf09503c27f6660d66a535c934c871be571132a685935a04"), looks := false }, kinds := [], alts := [], laidByText := true, laidKinds := [.data], laidTests := true, laidLooks := .later }
def WholeReadyCardSaid : Prop := Claim7.holds Tryd.pinned (.plain (OpenSpec.ofChange wholeReadySpec)) wholeReadyCard

/-- THE TIED CARD OF 'earshotlaw18.WholeChain'. -/
def wholeChainCard : Claim7 := { stood := { row := wholeChainRow, standIns := [], harness := (true, "c655ce7c025ae6c1cf09503c27f6660d66a535c934c871be571132a685935a04"), looks := false }, kinds := [], alts := [], laidByText := true, laidKinds := [.data], laidTests := true, laidLooks := .later }
def WholeChainCardSaid : Prop := Claim7.holds Tryd.pinned (.plain (OpenSpec.ofChange wholeChainSpec)) wholeChainCard

/-- THE TIED CARD OF 'earshotlaw18.WholeLater'. -/
def wholeLaterCard : Claim7 := { stood := { row := wholeLaterRow, standIns := [], harness := (true, "c655ce7c025ae6c1cf09503c27f6660d66a535c934c871be571132a685935a04"), looks := false }, kinds := [], alts := [], laidByText := true, laidKinds := [.data], laidTests := true, laidLooks := .later }
def WholeLaterCardSaid : Prop := Claim7.holds Tryd.pinned (.plain (OpenSpec.ofChange wholeLaterSpec)) wholeLaterCard

/-- THE SECOND FORM's CARD OF 'earshotlaw19.FieldReady'. -/
def fieldReadyUptoCard : Claim7 := { stood := { row := fieldReadyUptoRow, standIns := [], harness := (true, "c655ce7c025ae6c1cf09503c27f6660d66a535c934c871be571132a685935a04"), looks := false }, kinds := [], alts := [], laidByText := true, laidKinds := [.data], laidTests := true, laidLooks := .later }
def FieldReadyUptoCardSaid : Prop := Claim7.holds Tryd.pinned (.plain (OpenSpec.upto fieldReadySpec)) fieldReadyUptoCard

/-- THE SECOND FORM's CARD OF 'earshotlaw19.FieldReach'. -/
def fieldReachUptoCard : Claim7 := { stood := { row := fieldReachUptoRow, standIns := [], harness := (true, "c655ce7c025ae6c1cf09503c27f6660d66a535c934c871be571132a685935a04"), looks := false }, kinds := [], alts := [], laidByText := true, laidKinds := [.data], laidTests := true, laidLooks := .later }
def FieldReachUptoCardSaid : Prop := Claim7.holds Tryd.pinned (.plain (OpenSpec.upto fieldReachSpec)) fieldReachUptoCard

/-- THE SECOND FORM's CARD OF 'earshotlaw19.FieldAhead'. -/
def fieldAheadUptoCard : Claim7 := { stood := { row := fieldAheadUptoRow, standIns := [], harness := (true, "c655ce7c025ae6c1cf09503c27f6660d66a535c934c871be571132a685935a04"), looks := false }, kinds := [], alts := [], laidByText := true, laidKinds := [.data], laidTests := true, laidLooks := .later }
def FieldAheadUptoCardSaid : Prop := Claim7.holds Tryd.pinned (.plain (OpenSpec.upto fieldAheadSpec)) fieldAheadUptoCard

/-- THE SECOND FORM's CARD OF 'earshotlaw19.FieldMacs'. -/
def fieldMacsUptoCard : Claim7 := { stood := { row := fieldMacsUptoRow, standIns := [], harness := (true, "c655ce7c025ae6c1cf09503c27f6660d66a535c934c871be571132a685935a04"), looks := false }, kinds := [], alts := [], laidByText := true, laidKinds := [.data], laidTests := true, laidLooks := .later }
def FieldMacsUptoCardSaid : Prop := Claim7.holds Tryd.pinned (.plain (OpenSpec.upto fieldMacsSpec)) fieldMacsUptoCard

/-- THE SECOND FORM's CARD OF 'earshotlaw19.FieldTells'. -/
def fieldTellsUptoCard : Claim7 := { stood := { row := fieldTellsUptoRow, standIns := [], harness := (true, "c655ce7c025ae6c1cf09503c27f6660d66a535c934c871be571132a685935a04"), looks := false }, kinds := [], alts := [], laidByText := true, laidKinds := [.data], laidTests := true, laidLooks := .later }
def FieldTellsUptoCardSaid : Prop := Claim7.holds Tryd.pinned (.plain (OpenSpec.upto fieldTellsSpec)) fieldTellsUptoCard

/-- THE SECOND FORM's CARD OF 'earshotlaw18.WholeReady'. -/
def wholeReadyUptoCard : Claim7 := { stood := { row := wholeReadyUptoRow, standIns := [], harness := (true, "c655ce7c025ae6c1cf09503c27f6660d66a535c934c871be571132a685935a04"), looks := false }, kinds := [], alts := [], laidByText := true, laidKinds := [.data], laidTests := true, laidLooks := .later }
def WholeReadyUptoCardSaid : Prop := Claim7.holds Tryd.pinned (.plain (OpenSpec.upto wholeReadySpec)) wholeReadyUptoCard

/-- THE SECOND FORM's CARD OF 'earshotlaw18.WholeChain'. -/
def wholeChainUptoCard : Claim7 := { stood := { row := wholeChainUptoRow, standIns := [], harness := (true, "c655ce7c025ae6c1cf09503c27f6660d66a535c934c871be571132a685935a04"), looks := false }, kinds := [], alts := [], laidByText := true, laidKinds := [.data], laidTests := true, laidLooks := .later }
def WholeChainUptoCardSaid : Prop := Claim7.holds Tryd.pinned (.plain (OpenSpec.upto wholeChainSpec)) wholeChainUptoCard

/-- THE SECOND FORM's CARD OF 'earshotlaw18.WholeLater'. -/
def wholeLaterUptoCard : Claim7 := { stood := { row := wholeLaterUptoRow, standIns := [], harness := (true, "c655ce7c025ae6c1cf09503c27f6660d66a535c934c871be571132a685935a04"), looks := false }, kinds := [], alts := [], laidByText := true, laidKinds := [.data], laidTests := true, laidLooks := .later }
def WholeLaterUptoCardSaid : Prop := Claim7.holds Tryd.pinned (.plain (OpenSpec.upto wholeLaterSpec)) wholeLaterUptoCard
end Rows
end Go.Proofs.YtgomeljgbjgbkaaDoor
