/-
  DERIVED. GIVEN WITH THE SEED: THE CARDS: each row of YtohhaonjckfkaaaDoorRows.lean that lists a variable, with what it lists TIED to the program's text (the seventh form; the later family's looks); each row that meets fmt, with fmt's text TOLD by the authors' own Lean function (tested against real Go, not proved from fmt's source: count such statements apart). THE CARD IS WHAT COUNTS. Prove the row's statement (the work); the ties are given (YtohhaonjckfkaaaDoorTie.lean); close each card by the builder's one call (the guide's Derived/Test/ToyasCard.lean, 'card_holds'). Laid BY PROGRAM, IN A SANDBOX (cutbox-door.mjs). By AI agents, Wed Nov 11 2026. No macro, syntax, notation, axiom, sorry.
-/
import Derived.Test.YtohhaonjckfkaaaDoorRows
import GoSem.ClaimSeven
namespace Go.Proofs.YtohhaonjckfkaaaDoor
namespace Rows

/-- THE TIED CARD OF 'earshotlaw14.KindWindows'. -/
def kindWindowsCard : Claim7 := { stood := { row := kindWindowsRow, standIns := [], harness := (true, "3a2a6d24dae464036f37b44f468ba4c84dd2a47d12d293cedda7d562d35b7965"), looks := false }, kinds := [], alts := [], laidByText := true, laidKinds := [.data], laidTests := true, laidLooks := .later }
def KindWindowsCardSaid : Prop := Claim7.holds Tryd.pinned (.plain (OpenSpec.ofChange kindWindowsSpec)) kindWindowsCard

/-- THE TIED CARD OF 'earshotlaw14.KindLast'. -/
def kindLastCard : Claim7 := { stood := { row := kindLastRow, standIns := [], harness := (true, "3a2a6d24dae464036f37b44f468ba4c84dd2a47d12d293cedda7d562d35b7965"), looks := false }, kinds := [], alts := [], laidByText := true, laidKinds := [.data], laidTests := true, laidLooks := .later }
def KindLastCardSaid : Prop := Claim7.holds Tryd.pinned (.plain (OpenSpec.ofChange kindLastSpec)) kindLastCard

/-- THE TIED CARD OF 'earshotlaw14.KindMore'. -/
def kindMoreCard : Claim7 := { stood := { row := kindMoreRow, standIns := [], harness := (true, "3a2a6d24dae464036f37b44f468ba4c84dd2a47d12d293cedda7d562d35b7965"), looks := false }, kinds := [], alts := [], laidByText := true, laidKinds := [.data], laidTests := true, laidLooks := .later }
def KindMoreCardSaid : Prop := Claim7.holds Tryd.pinned (.plain (OpenSpec.ofChange kindMoreSpec)) kindMoreCard

/-- THE TIED CARD OF 'earshotlaw14.KindChecks'. -/
def kindChecksCard : Claim7 := { stood := { row := kindChecksRow, standIns := [], harness := (true, "3a2a6d24dae464036f37b44f468ba4c84dd2a47d12d293cedda7d562d35b7965"), looks := false }, kinds := [], alts := [], laidByText := true, laidKinds := [.data], laidTests := true, laidLooks := .later }
def KindChecksCardSaid : Prop := Claim7.holds Tryd.pinned (.plain (OpenSpec.ofChange kindChecksSpec)) kindChecksCard

/-- THE TIED CARD OF 'earshotlaw14.KindRaw'. -/
def kindRawCard : Claim7 := { stood := { row := kindRawRow, standIns := [], harness := (true, "3a2a6d24dae464036f37b44f468ba4c84dd2a47d12d293cedda7d562d35b7965"), looks := false }, kinds := [], alts := [], laidByText := true, laidKinds := [.data], laidTests := true, laidLooks := .later }
def KindRawCardSaid : Prop := Claim7.holds Tryd.pinned (.plain (OpenSpec.ofChange kindRawSpec)) kindRawCard

/-- THE TIED CARD OF 'earshotlaw16.GraphOrder'. -/
def graphOrderCard : Claim7 := { stood := { row := graphOrderRow, standIns := [], harness := (true, "3a2a6d24dae464036f37b44f468ba4c84dd2a47d12d293cedda7d562d35b7965"), looks := false }, kinds := [], alts := [], laidByText := true, laidKinds := [.data], laidTests := true, laidLooks := .later }
def GraphOrderCardSaid : Prop := Claim7.holds Tryd.pinned (.plain (OpenSpec.ofChange graphOrderSpec)) graphOrderCard

/-- THE TIED CARD OF 'earshotlaw16.GraphChecks'. -/
def graphChecksCard : Claim7 := { stood := { row := graphChecksRow, standIns := [], harness := (true, "3a2a6d24dae464036f37b44f468ba4c84dd2a47d12d293cedda7d562d35b7965"), looks := false }, kinds := [], alts := [], laidByText := true, laidKinds := [.data], laidTests := true, laidLooks := .later }
def GraphChecksCardSaid : Prop := Claim7.holds Tryd.pinned (.plain (OpenSpec.ofChange graphChecksSpec)) graphChecksCard

/-- THE TIED CARD OF 'earshotlaw16.GraphBytes'. -/
def graphBytesCard : Claim7 := { stood := { row := graphBytesRow, standIns := [], harness := (true, "3a2a6d24dae464036f37b44f468ba4c84dd2a47d12d293cedda7d562d35b7965"), looks := false }, kinds := [], alts := [], laidByText := true, laidKinds := [.data], laidTests := true, laidLooks := .later }
def GraphBytesCardSaid : Prop := Claim7.holds Tryd.pinned (.plain (OpenSpec.ofChange graphBytesSpec)) graphBytesCard

/-- THE TIED CARD OF 'earshotlaw16.GraphTold'. -/
def graphToldCard : Claim7 := { stood := { row := graphToldRow, standIns := [], harness := (true, "3a2a6d24dae464036f37b44f468ba4c84dd2a47d12d293cedda7d562d35b7965"), looks := false }, kinds := [], alts := [], laidByText := true, laidKinds := [.data], laidTests := true, laidLooks := .later }
def GraphToldCardSaid : Prop := Claim7.holds Tryd.pinned (.plain (OpenSpec.ofChange graphToldSpec)) graphToldCard

/-- THE TIED CARD OF 'earshotlaw16.GraphCycle'. -/
def graphCycleCard : Claim7 := { stood := { row := graphCycleRow, standIns := [], harness := (true, "3a2a6d24dae464036f37b44f468ba4c84dd2a47d12d293cedda7d562d35b7965"), looks := false }, kinds := [], alts := [], laidByText := true, laidKinds := [.data], laidTests := true, laidLooks := .later }
def GraphCycleCardSaid : Prop := Claim7.holds Tryd.pinned (.plain (OpenSpec.ofChange graphCycleSpec)) graphCycleCard

/-- THE TIED CARD OF 'earshotlaw16.GraphTurned'. -/
def graphTurnedCard : Claim7 := { stood := { row := graphTurnedRow, standIns := [], harness := (true, "3a2a6d24dae464036f37b44f468ba4c84dd2a47d12d293cedda7d562d35b7965"), looks := false }, kinds := [], alts := [], laidByText := true, laidKinds := [.data], laidTests := true, laidLooks := .later }
def GraphTurnedCardSaid : Prop := Claim7.holds Tryd.pinned (.plain (OpenSpec.ofChange graphTurnedSpec)) graphTurnedCard

/-- THE SECOND FORM's CARD OF 'earshotlaw14.KindWindows'. -/
def kindWindowsUptoCard : Claim7 := { stood := { row := kindWindowsUptoRow, standIns := [], harness := (true, "3a2a6d24dae464036f37b44f468ba4c84dd2a47d12d293cedda7d562d35b7965"), looks := false }, kinds := [], alts := [], laidByText := true, laidKinds := [.data], laidTests := true, laidLooks := .later }
def KindWindowsUptoCardSaid : Prop := Claim7.holds Tryd.pinned (.plain (OpenSpec.upto kindWindowsSpec)) kindWindowsUptoCard

/-- THE SECOND FORM's CARD OF 'earshotlaw14.KindLast'. -/
def kindLastUptoCard : Claim7 := { stood := { row := kindLastUptoRow, standIns := [], harness := (true, "3a2a6d24dae464036f37b44f468ba4c84dd2a47d12d293cedda7d562d35b7965"), looks := false }, kinds := [], alts := [], laidByText := true, laidKinds := [.data], laidTests := true, laidLooks := .later }
def KindLastUptoCardSaid : Prop := Claim7.holds Tryd.pinned (.plain (OpenSpec.upto kindLastSpec)) kindLastUptoCard

/-- THE SECOND FORM's CARD OF 'earshotlaw14.KindMore'. -/
def kindMoreUptoCard : Claim7 := { stood := { row := kindMoreUptoRow, standIns := [], harness := (true, "3a2a6d24dae464036f37b44f468ba4c84dd2a47d12d293cedda7d562d35b7965"), looks := false }, kinds := [], alts := [], laidByText := true, laidKinds := [.data], laidTests := true, laidLooks := .later }
def KindMoreUptoCardSaid : Prop := Claim7.holds Tryd.pinned (.plain (OpenSpec.upto kindMoreSpec)) kindMoreUptoCard

/-- THE SECOND FORM's CARD OF 'earshotlaw14.KindChecks'. -/
def kindChecksUptoCard : Claim7 := { stood := { row := kindChecksUptoRow, standIns := [], harness := (true, "3a2a6d24dae464036f37b44f468ba4c84dd2a47d12d293cedda7d562d35b7965"), looks := false }, kinds := [], alts := [], laidByText := true, laidKinds := [.data], laidTests := true, laidLooks := .later }
def KindChecksUptoCardSaid : Prop := Claim7.holds Tryd.pinned (.plain (OpenSpec.upto kindChecksSpec)) kindChecksUptoCard

/-- THE SECOND FORM's CARD OF 'earshotlaw14.KindRaw'. -/
def kindRawUptoCard : Claim7 := { stood := { row := kindRawUptoRow, standIns := [], harness := (true, "3a2a6d24dae464036f37b44f468ba4c84dd2a47d12d293cedda7d562d35b7965"), looks := false }, kinds := [], alts := [], laidByText := true, laidKinds := [.data], laidTests := true, laidLooks := .later }
def KindRawUptoCardSaid : Prop := Claim7.holds Tryd.pinned (.plain (OpenSpec.upto kindRawSpec)) kindRawUptoCard

/-- THE SECOND FORM's CARD OF 'earshotlaw16.GraphOrder'. -/
def graphOrderUptoCard : Claim7 := { stood := { row := graphOrderUptoRow, standIns := [], harness := (true, "3a2a6d24dae464036f37b44f468ba4c84dd2a47d12d293cedda7d562d35b7965"), looks := false }, kinds := [], alts := [], laidByText := true, laidKinds := [.data], laidTests := true, laidLooks := .later }
def GraphOrderUptoCardSaid : Prop := Claim7.holds Tryd.pinned (.plain (OpenSpec.upto graphOrderSpec)) graphOrderUptoCard

/-- THE SECOND FORM's CARD OF 'earshotlaw16.GraphChecks'. -/
def graphChecksUptoCard : Claim7 := { stood := { row := graphChecksUptoRow, standIns := [], harness := (true, "3a2a6d24dae464036f37b44f468ba4c84dd2a47d12d293cedda7d562d35b7965"), looks := false }, kinds := [], alts := [], laidByText := true, laidKinds := [.data], laidTests := true, laidLooks := .later }
def GraphChecksUptoCardSaid : Prop := Claim7.holds Tryd.pinned (.plain (OpenSpec.upto graphChecksSpec)) graphChecksUptoCard

/-- THE SECOND FORM's CARD OF 'earshotlaw16.GraphBytes'. -/
def graphBytesUptoCard : Claim7 := { stood := { row := graphBytesUptoRow, standIns := [], harness := (true, "3a2a6d24dae464036f37b44f468ba4c84dd2a47d12d293cedda7d562d35b7965"), looks := false }, kinds := [], alts := [], laidByText := true, laidKinds := [.data], laidTests := true, laidLooks := .later }
def GraphBytesUptoCardSaid : Prop := Claim7.holds Tryd.pinned (.plain (OpenSpec.upto graphBytesSpec)) graphBytesUptoCard

/-- THE SECOND FORM's CARD OF 'earshotlaw16.GraphTold'. -/
def graphToldUptoCard : Claim7 := { stood := { row := graphToldUptoRow, standIns := [], harness := (true, "3a2a6d24dae464036f37b44f468ba4c84dd2a47d12d293cedda7d562d35b7965"), looks := false }, kinds := [], alts := [], laidByText := true, laidKinds := [.data], laidTests := true, laidLooks := .later }
def GraphToldUptoCardSaid : Prop := Claim7.holds Tryd.pinned (.plain (OpenSpec.upto graphToldSpec)) graphToldUptoCard

/-- THE SECOND FORM's CARD OF 'earshotlaw16.GraphCycle'. -/
def graphCycleUptoCard : Claim7 := { stood := { row := graphCycleUptoRow, standIns := [], harness := (true, "3a2a6d24dae464036f37b44f468ba4c84dd2a47d12d293cedda7d562d35b7965"), looks := false }, kinds := [], alts := [], laidByText := true, laidKinds := [.data], laidTests := true, laidLooks := .later }
def GraphCycleUptoCardSaid : Prop := Claim7.holds Tryd.pinned (.plain (OpenSpec.upto graphCycleSpec)) graphCycleUptoCard

/-- THE SECOND FORM's CARD OF 'earshotlaw16.GraphTurned'. -/
def graphTurnedUptoCard : Claim7 := { stood := { row := graphTurnedUptoRow, standIns := [], harness := (true, "3a2a6d24dae464036f37b44f468ba4c84dd2a47d12d293cedda7d562d35b7965"), looks := false }, kinds := [], alts := [], laidByText := true, laidKinds := [.data], laidTests := true, laidLooks := .later }
def GraphTurnedUptoCardSaid : Prop := Claim7.holds Tryd.pinned (.plain (OpenSpec.upto graphTurnedSpec)) graphTurnedUptoCard
end Rows
end Go.Proofs.YtohhaonjckfkaaaDoor
