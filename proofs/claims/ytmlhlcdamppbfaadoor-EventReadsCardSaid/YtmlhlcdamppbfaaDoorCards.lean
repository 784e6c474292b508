/-
  DERIVED. GIVEN WITH THE SEED: THE CARDS: each row of YtmlhlcdamppbfaaDoorRows.lean that lists a variable, with what it lists TIED to the program's text (the seventh form; the later family's looks); each row that meets fmt, with fmt's text TOLD by the authors' own Lean function (tested against real Go, not proved from fmt's source: count such statements apart). THE CARD IS WHAT COUNTS. Prove the row's statement (the work); the ties are given (YtmlhlcdamppbfaaDoorTie.lean); close each card by the builder's one call (the guide's Derived/Test/ToyasCard.lean, 'card_holds'). Laid BY PROGRAM, IN A SANDBOX (cutbox-door.mjs). By AI agents, Wed Nov 11 2026. No macro, syntax, notation, axiom, sorry.
-/
import Derived.Test.YtmlhlcdamppbfaaDoorRows
import GoSem.ClaimSeven
namespace Go.Proofs.YtmlhlcdamppbfaaDoor
namespace Rows

/-- THE TIED CARD OF 'transeptlaw05.EventWrites'. -/
def eventWritesCard : Claim7 := { stood := { row := eventWritesRow, standIns := [], harness := (true, "e7ecab90a6a0da19a981cfd9e4b03fc83b6fecf113b9da79d3ea307e4bab9468"), looks := false }, kinds := [], alts := [], laidByText := true, laidKinds := [.data], laidTests := true, laidLooks := .later }
def EventWritesCardSaid : Prop := Claim7.holds Tryd.pinned (.plain (OpenSpec.ofChange eventWritesSpec)) eventWritesCard

/-- THE TIED CARD OF 'transeptlaw05.EventReads'. -/
def eventReadsCard : Claim7 := { stood := { row := eventReadsRow, standIns := [], harness := (true, "e7ecab90a6a0da19a981cfd9e4b03fc83b6fecf113b9da79d3ea307e4bab9468"), looks := false }, kinds := [], alts := [], laidByText := true, laidKinds := [.data], laidTests := true, laidLooks := .later }
def EventReadsCardSaid : Prop := Claim7.holds Tryd.pinned (.plain (OpenSpec.ofChange eventReadsSpec)) eventReadsCard

/-- THE TIED CARD OF 'transeptlaw05.EventBack'. -/
def eventBackCard : Claim7 := { stood := { row := eventBackRow, standIns := [], harness := (true, "e7ecab90a6a0da19a981cfd9e4b03fc83b6fecf113b9da79d3ea307e4bab9468"), looks := false }, kinds := [], alts := [], laidByText := true, laidKinds := [.data], laidTests := true, laidLooks := .later }
def EventBackCardSaid : Prop := Claim7.holds Tryd.pinned (.plain (OpenSpec.ofChange eventBackSpec)) eventBackCard

/-- THE TIED CARD OF 'transeptlaw05.EventCuts'. -/
def eventCutsCard : Claim7 := { stood := { row := eventCutsRow, standIns := [], harness := (true, "e7ecab90a6a0da19a981cfd9e4b03fc83b6fecf113b9da79d3ea307e4bab9468"), looks := false }, kinds := [], alts := [], laidByText := true, laidKinds := [.data], laidTests := true, laidLooks := .later }
def EventCutsCardSaid : Prop := Claim7.holds Tryd.pinned (.plain (OpenSpec.ofChange eventCutsSpec)) eventCutsCard

/-- THE TIED CARD OF 'transeptlaw05.EventFirst'. -/
def eventFirstCard : Claim7 := { stood := { row := eventFirstRow, standIns := [], harness := (true, "e7ecab90a6a0da19a981cfd9e4b03fc83b6fecf113b9da79d3ea307e4bab9468"), looks := false }, kinds := [], alts := [], laidByText := true, laidKinds := [.data], laidTests := true, laidLooks := .later }
def EventFirstCardSaid : Prop := Claim7.holds Tryd.pinned (.plain (OpenSpec.ofChange eventFirstSpec)) eventFirstCard

/-- THE TIED CARD OF 'transeptlaw05.EventFields'. -/
def eventFieldsCard : Claim7 := { stood := { row := eventFieldsRow, standIns := [], harness := (true, "e7ecab90a6a0da19a981cfd9e4b03fc83b6fecf113b9da79d3ea307e4bab9468"), looks := false }, kinds := [], alts := [], laidByText := true, laidKinds := [.data], laidTests := true, laidLooks := .later }
def EventFieldsCardSaid : Prop := Claim7.holds Tryd.pinned (.plain (OpenSpec.ofChange eventFieldsSpec)) eventFieldsCard

/-- THE TIED CARD OF 'transeptlaw05.EventUnlike'. -/
def eventUnlikeCard : Claim7 := { stood := { row := eventUnlikeRow, standIns := [], harness := (true, "e7ecab90a6a0da19a981cfd9e4b03fc83b6fecf113b9da79d3ea307e4bab9468"), looks := false }, kinds := [], alts := [], laidByText := true, laidKinds := [.data], laidTests := true, laidLooks := .later }
def EventUnlikeCardSaid : Prop := Claim7.holds Tryd.pinned (.plain (OpenSpec.ofChange eventUnlikeSpec)) eventUnlikeCard

/-- THE TIED CARD OF 'transeptlaw05.EventTimes'. -/
def eventTimesCard : Claim7 := { stood := { row := eventTimesRow, standIns := [], harness := (true, "e7ecab90a6a0da19a981cfd9e4b03fc83b6fecf113b9da79d3ea307e4bab9468"), looks := false }, kinds := [], alts := [], laidByText := true, laidKinds := [.data], laidTests := true, laidLooks := .later }
def EventTimesCardSaid : Prop := Claim7.holds Tryd.pinned (.plain (OpenSpec.ofChange eventTimesSpec)) eventTimesCard

/-- THE SECOND FORM's CARD OF 'transeptlaw05.EventWrites'. -/
def eventWritesUptoCard : Claim7 := { stood := { row := eventWritesUptoRow, standIns := [], harness := (true, "e7ecab90a6a0da19a981cfd9e4b03fc83b6fecf113b9da79d3ea307e4bab9468"), looks := false }, kinds := [], alts := [], laidByText := true, laidKinds := [.data], laidTests := true, laidLooks := .later }
def EventWritesUptoCardSaid : Prop := Claim7.holds Tryd.pinned (.plain (OpenSpec.upto eventWritesSpec)) eventWritesUptoCard

/-- THE SECOND FORM's CARD OF 'transeptlaw05.EventReads'. -/
def eventReadsUptoCard : Claim7 := { stood := { row := eventReadsUptoRow, standIns := [], harness := (true, "e7ecab90a6a0da19a981cfd9e4b03fc83b6fecf113b9da79d3ea307e4bab9468"), looks := false }, kinds := [], alts := [], laidByText := true, laidKinds := [.data], laidTests := true, laidLooks := .later }
def EventReadsUptoCardSaid : Prop := Claim7.holds Tryd.pinned (.plain (OpenSpec.upto eventReadsSpec)) eventReadsUptoCard

/-- THE SECOND FORM's CARD OF 'transeptlaw05.EventBack'. -/
def eventBackUptoCard : Claim7 := { stood := { row := eventBackUptoRow, standIns := [], harness := (true, "e7ecab90a6a0da19a981cfd9e4b03fc83b6fecf113b9da79d3ea307e4bab9468"), looks := false }, kinds := [], alts := [], laidByText := true, laidKinds := [.data], laidTests := true, laidLooks := .later }
def EventBackUptoCardSaid : Prop := Claim7.holds Tryd.pinned (.plain (OpenSpec.upto eventBackSpec)) eventBackUptoCard

/-- THE SECOND FORM's CARD OF 'transeptlaw05.EventCuts'. -/
def eventCutsUptoCard : Claim7 := { stood := { row := eventCutsUptoRow, standIns := [], harness := (true, "e7ecab90a6a0da19a981cfd9e4b03fc83b6fecf113b9da79d3ea307e4bab9468"), looks := false }, kinds := [], alts := [], laidByText := true, laidKinds := [.data], laidTests := true, laidLooks := .later }
def EventCutsUptoCardSaid : Prop := Claim7.holds Tryd.pinned (.plain (OpenSpec.upto eventCutsSpec)) eventCutsUptoCard

/-- THE SECOND FORM's CARD OF 'transeptlaw05.EventFirst'. -/
def eventFirstUptoCard : Claim7 := { stood := { row := eventFirstUptoRow, standIns := [], harness := (true, "e7ecab90a6a0da19a981cfd9e4b03fc83b6fecf113b9da79d3ea307e4bab9468"), looks := false }, kinds := [], alts := [], laidByText := true, laidKinds := [.data], laidTests := true, laidLooks := .later }
def EventFirstUptoCardSaid : Prop := Claim7.holds Tryd.pinned (.plain (OpenSpec.upto eventFirstSpec)) eventFirstUptoCard

/-- THE SECOND FORM's CARD OF 'transeptlaw05.EventFields'. -/
def eventFieldsUptoCard : Claim7 := { stood := { row := eventFieldsUptoRow, standIns := [], harness := (true, "e7ecab90a6a0da19a981cfd9e4b03fc83b6fecf113b9da79d3ea307e4bab9468"), looks := false }, kinds := [], alts := [], laidByText := true, laidKinds := [.data], laidTests := true, laidLooks := .later }
def EventFieldsUptoCardSaid : Prop := Claim7.holds Tryd.pinned (.plain (OpenSpec.upto eventFieldsSpec)) eventFieldsUptoCard

/-- THE SECOND FORM's CARD OF 'transeptlaw05.EventUnlike'. -/
def eventUnlikeUptoCard : Claim7 := { stood := { row := eventUnlikeUptoRow, standIns := [], harness := (true, "e7ecab90a6a0da19a981cfd9e4b03fc83b6fecf113b9da79d3ea307e4bab9468"), looks := false }, kinds := [], alts := [], laidByText := true, laidKinds := [.data], laidTests := true, laidLooks := .later }
def EventUnlikeUptoCardSaid : Prop := Claim7.holds Tryd.pinned (.plain (OpenSpec.upto eventUnlikeSpec)) eventUnlikeUptoCard

/-- THE SECOND FORM's CARD OF 'transeptlaw05.EventTimes'. -/
def eventTimesUptoCard : Claim7 := { stood := { row := eventTimesUptoRow, standIns := [], harness := (true, "e7ecab90a6a0da19a981cfd9e4b03fc83b6fecf113b9da79d3ea307e4bab9468"), looks := false }, kinds := [], alts := [], laidByText := true, laidKinds := [.data], laidTests := true, laidLooks := .later }
def EventTimesUptoCardSaid : Prop := Claim7.holds Tryd.pinned (.plain (OpenSpec.upto eventTimesSpec)) eventTimesUptoCard
end Rows
end Go.Proofs.YtmlhlcdamppbfaaDoor
