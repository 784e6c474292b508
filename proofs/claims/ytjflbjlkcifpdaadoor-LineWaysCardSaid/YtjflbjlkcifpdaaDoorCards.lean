/-
  DERIVED. GIVEN WITH THE SEED: THE CARDS: each row of YtjflbjlkcifpdaaDoorRows.lean that lists a variable, with what it lists TIED to the program's text (the seventh form; the later family's looks); each row that meets fmt, with fmt's text TOLD by the authors' own Lean function (tested against real Go, not proved from fmt's source: count such statements apart). THE CARD IS WHAT COUNTS. Prove the row's statement (the work); the ties are given (YtjflbjlkcifpdaaDoorTie.lean); close each card by the builder's one call (the guide's Derived/Test/ToyasCard.lean, 'card_holds'). Laid BY PROGRAM, IN A SANDBOX (cutbox-door.mjs). By AI agents, Wed Nov 11 2026. No macro, syntax, notation, axiom, sorry.
-/
import Derived.Test.YtjflbjlkcifpdaaDoorRows
import GoSem.ClaimSeven
namespace Go.Proofs.YtjflbjlkcifpdaaDoor
namespace Rows

/-- THE TIED CARD OF 'transeptlaw15.LineOver'. -/
def lineOverCard : Claim7 := { stood := { row := lineOverRow, standIns := [], harness := (true, "86f897b05f89a6bb9f243f61c91b87c8fef04901d353e04fb49e767c033ddee1"), looks := false }, kinds := [], alts := [], laidByText := true, laidKinds := [.data], laidTests := true, laidLooks := .later }
def LineOverCardSaid : Prop := Claim7.holds Tryd.pinned (.plain (OpenSpec.ofChange lineOverSpec)) lineOverCard

/-- THE TIED CARD OF 'transeptlaw15.LineApart'. -/
def lineApartCard : Claim7 := { stood := { row := lineApartRow, standIns := [], harness := (true, "86f897b05f89a6bb9f243f61c91b87c8fef04901d353e04fb49e767c033ddee1"), looks := false }, kinds := [], alts := [], laidByText := true, laidKinds := [.data], laidTests := true, laidLooks := .later }
def LineApartCardSaid : Prop := Claim7.holds Tryd.pinned (.plain (OpenSpec.ofChange lineApartSpec)) lineApartCard

/-- THE TIED CARD OF 'transeptlaw15.LinePlays'. -/
def linePlaysCard : Claim7 := { stood := { row := linePlaysRow, standIns := [], harness := (true, "86f897b05f89a6bb9f243f61c91b87c8fef04901d353e04fb49e767c033ddee1"), looks := false }, kinds := [], alts := [], laidByText := true, laidKinds := [.data], laidTests := true, laidLooks := .later }
def LinePlaysCardSaid : Prop := Claim7.holds Tryd.pinned (.plain (OpenSpec.ofChange linePlaysSpec)) linePlaysCard

/-- THE TIED CARD OF 'transeptlaw15.LineAgain'. -/
def lineAgainCard : Claim7 := { stood := { row := lineAgainRow, standIns := [], harness := (true, "86f897b05f89a6bb9f243f61c91b87c8fef04901d353e04fb49e767c033ddee1"), looks := false }, kinds := [], alts := [], laidByText := true, laidKinds := [.data], laidTests := true, laidLooks := .later }
def LineAgainCardSaid : Prop := Claim7.holds Tryd.pinned (.plain (OpenSpec.ofChange lineAgainSpec)) lineAgainCard

/-- THE TIED CARD OF 'transeptlaw15.LineLater'. -/
def lineLaterCard : Claim7 := { stood := { row := lineLaterRow, standIns := [], harness := (true, "86f897b05f89a6bb9f243f61c91b87c8fef04901d353e04fb49e767c033ddee1"), looks := false }, kinds := [], alts := [], laidByText := true, laidKinds := [.data], laidTests := true, laidLooks := .later }
def LineLaterCardSaid : Prop := Claim7.holds Tryd.pinned (.plain (OpenSpec.ofChange lineLaterSpec)) lineLaterCard

/-- THE TIED CARD OF 'transeptlaw15.LineWays'. -/
def lineWaysCard : Claim7 := { stood := { row := lineWaysRow, standIns := [], harness := (true, "86f897b05f89a6bb9f243f61c91b87c8fef04901d353e04fb49e767c033ddee1"), looks := false }, kinds := [], alts := [], laidByText := true, laidKinds := [.data], laidTests := true, laidLooks := .later }
def LineWaysCardSaid : Prop := Claim7.holds Tryd.pinned (.plain (OpenSpec.ofChange lineWaysSpec)) lineWaysCard

/-- THE SECOND FORM's CARD OF 'transeptlaw15.LineOver'. -/
def lineOverUptoCard : Claim7 := { stood := { row := lineOverUptoRow, standIns := [], harness := (true, "86f897b05f89a6bb9f243f61c91b87c8fef04901d353e04fb49e767c033ddee1"), looks := false }, kinds := [], alts := [], laidByText := true, laidKinds := [.data], laidTests := true, laidLooks := .later }
def LineOverUptoCardSaid : Prop := Claim7.holds Tryd.pinned (.plain (OpenSpec.upto lineOverSpec)) lineOverUptoCard

/-- THE SECOND FORM's CARD OF 'transeptlaw15.LineApart'. -/
def lineApartUptoCard : Claim7 := { stood := { row := lineApartUptoRow, standIns := [], harness := (true, "86f897b05f89a6bb9f243f61c91b87c8fef04901d353e04fb49e767c033ddee1"), looks := false }, kinds := [], alts := [], laidByText := true, laidKinds := [.data], laidTests := true, laidLooks := .later }
def LineApartUptoCardSaid : Prop := Claim7.holds Tryd.pinned (.plain (OpenSpec.upto lineApartSpec)) lineApartUptoCard

/-- THE SECOND FORM's CARD OF 'transeptlaw15.LinePlays'. -/
def linePlaysUptoCard : Claim7 := { stood := { row := linePlaysUptoRow, standIns := [], harness := (true, "86f897b05f89a6bb9f243f61c91b87c8fef04901d353e04fb49e767c033ddee1"), looks := false }, kinds := [], alts := [], laidByText := true, laidKinds := [.data], laidTests := true, laidLooks := .later }
def LinePlaysUptoCardSaid : Prop := Claim7.holds Tryd.pinned (.plain (OpenSpec.upto linePlaysSpec)) linePlaysUptoCard

/-- THE SECOND FORM's CARD OF 'transeptlaw15.LineAgain'. -/
def lineAgainUptoCard : Claim7 := { stood := { row := lineAgainUptoRow, standIns := [], harness := (true, "86f897b05f89a6bb9f243f61c91b87c8fef04901d353e04fb49e767c033ddee1"), looks := false }, kinds := [], alts := [], laidByText := true, laidKinds := [.data], laidTests := true, laidLooks := .later }
def LineAgainUptoCardSaid : Prop := Claim7.holds Tryd.pinned (.plain (OpenSpec.upto lineAgainSpec)) lineAgainUptoCard

/-- THE SECOND FORM's CARD OF 'transeptlaw15.LineLater'. -/
def lineLaterUptoCard : Claim7 := { stood := { row := lineLaterUptoRow, standIns := [], harness := (true, "86f897b05f89a6bb9f243f61c91b87c8fef04901d353e04fb49e767c033ddee1"), looks := false }, kinds := [], alts := [], laidByText := true, laidKinds := [.data], laidTests := true, laidLooks := .later }
def LineLaterUptoCardSaid : Prop := Claim7.holds Tryd.pinned (.plain (OpenSpec.upto lineLaterSpec)) lineLaterUptoCard

/-- THE SECOND FORM's CARD OF 'transeptlaw15.LineWays'. -/
def lineWaysUptoCard : Claim7 := { stood := { row := lineWaysUptoRow, standIns := [], harness := (true, "86f897b05f89a6bb9f243f61c91b87c8fef04901d353e04fb49e767c033ddee1"), looks := false }, kinds := [], alts := [], laidByText := true, laidKinds := [.data], laidTests := true, laidLooks := .later }
def LineWaysUptoCardSaid : Prop := Claim7.holds Tryd.pinned (.plain (OpenSpec.upto lineWaysSpec)) lineWaysUptoCard
end Rows
end Go.Proofs.YtjflbjlkcifpdaaDoor
