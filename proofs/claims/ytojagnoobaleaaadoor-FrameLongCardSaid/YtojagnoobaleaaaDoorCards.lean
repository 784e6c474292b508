/-
  DERIVED. GIVEN WITH THE SEED: THE CARDS: each row of YtojagnoobaleaaaDoorRows.lean that lists a variable, with what it lists TIED to the program's text (the seventh form; the later family's looks); each row that meets fmt, with fmt's text TOLD by the authors' own Lean function (tested against real Go, not proved from fmt's source: count such statements apart). THE CARD IS WHAT COUNTS. Prove the row's statement (the work); the ties are given (YtojagnoobaleaaaDoorTie.lean); close each card by the builder's one call (the guide's Derived/Test/ToyasCard.lean, 'card_holds'). Laid BY PROGRAM, IN A SANDBOX (cutbox-door.mjs). By AI agents, Wed Nov 11 2026. No macro, syntax, notation, axiom, sorry.
-/
import Derived.Test.YtojagnoobaleaaaDoorRows
import GoSem.ClaimSeven
namespace Go.Proofs.YtojagnoobaleaaaDoor
namespace Rows

/-- THE TIED CARD OF 'transeptlaw04.FrameReads'. -/
def frameReadsCard : Claim7 := { stood := { row := frameReadsRow, standIns := [], harness := (true, "5efb3843c3db20d51aa7cf473294536c2b48622198cd516413c71cbfe2acc6b3"), looks := false }, kinds := [], alts := [], laidByText := true, laidKinds := [.data], laidTests := true, laidLooks := .later }
def FrameReadsCardSaid : Prop := Claim7.holds Tryd.pinned (.plain (OpenSpec.ofChange frameReadsSpec)) frameReadsCard

/-- THE TIED CARD OF 'transeptlaw04.FrameWrites'. -/
def frameWritesCard : Claim7 := { stood := { row := frameWritesRow, standIns := [], harness := (true, "5efb3843c3db20d51aa7cf473294536c2b48622198cd516413c71cbfe2acc6b3"), looks := false }, kinds := [], alts := [], laidByText := true, laidKinds := [.data], laidTests := true, laidLooks := .later }
def FrameWritesCardSaid : Prop := Claim7.holds Tryd.pinned (.plain (OpenSpec.ofChange frameWritesSpec)) frameWritesCard

/-- THE TIED CARD OF 'transeptlaw04.FrameBack'. -/
def frameBackCard : Claim7 := { stood := { row := frameBackRow, standIns := [], harness := (true, "5efb3843c3db20d51aa7cf473294536c2b48622198cd516413c71cbfe2acc6b3"), looks := false }, kinds := [], alts := [], laidByText := true, laidKinds := [.data], laidTests := true, laidLooks := .later }
def FrameBackCardSaid : Prop := Claim7.holds Tryd.pinned (.plain (OpenSpec.ofChange frameBackSpec)) frameBackCard

/-- THE TIED CARD OF 'transeptlaw04.FrameCuts'. -/
def frameCutsCard : Claim7 := { stood := { row := frameCutsRow, standIns := [], harness := (true, "5efb3843c3db20d51aa7cf473294536c2b48622198cd516413c71cbfe2acc6b3"), looks := false }, kinds := [], alts := [], laidByText := true, laidKinds := [.data], laidTests := true, laidLooks := .later }
def FrameCutsCardSaid : Prop := Claim7.holds Tryd.pinned (.plain (OpenSpec.ofChange frameCutsSpec)) frameCutsCard

/-- THE TIED CARD OF 'transeptlaw04.FrameFirst'. -/
def frameFirstCard : Claim7 := { stood := { row := frameFirstRow, standIns := [], harness := (true, "5efb3843c3db20d51aa7cf473294536c2b48622198cd516413c71cbfe2acc6b3"), looks := false }, kinds := [], alts := [], laidByText := true, laidKinds := [.data], laidTests := true, laidLooks := .later }
def FrameFirstCardSaid : Prop := Claim7.holds Tryd.pinned (.plain (OpenSpec.ofChange frameFirstSpec)) frameFirstCard

/-- THE TIED CARD OF 'transeptlaw04.FrameLimits'. -/
def frameLimitsCard : Claim7 := { stood := { row := frameLimitsRow, standIns := [], harness := (true, "5efb3843c3db20d51aa7cf473294536c2b48622198cd516413c71cbfe2acc6b3"), looks := false }, kinds := [], alts := [], laidByText := true, laidKinds := [.data], laidTests := true, laidLooks := .later }
def FrameLimitsCardSaid : Prop := Claim7.holds Tryd.pinned (.plain (OpenSpec.ofChange frameLimitsSpec)) frameLimitsCard

/-- THE TIED CARD OF 'transeptlaw04.FrameLong'. -/
def frameLongCard : Claim7 := { stood := { row := frameLongRow, standIns := [], harness := (true, "5efb3843c3db20d51aa7cf473294536c2b48622198cd516413c71cbfe2acc6b3"), looks := false }, kinds := [], alts := [], laidByText := true, laidKinds := [.data], laidTests := true, laidLooks := .later }
def FrameLongCardSaid : Prop := Claim7.holds Tryd.pinned (.plain (OpenSpec.ofChange frameLongSpec)) frameLongCard

/-- THE TIED CARD OF 'transeptlaw04.FrameJoins'. -/
def frameJoinsCard : Claim7 := { stood := { row := frameJoinsRow, standIns := [], harness := (true, "5efb3843c3db20d51aa7cf473294536c2b48622198cd516413c71cbfe2acc6b3"), looks := false }, kinds := [], alts := [], laidByText := true, laidKinds := [.data], laidTests := true, laidLooks := .later }
def FrameJoinsCardSaid : Prop := Claim7.holds Tryd.pinned (.plain (OpenSpec.ofChange frameJoinsSpec)) frameJoinsCard

/-- THE TIED CARD OF 'transeptlaw04.FrameTurned'. -/
def frameTurnedCard : Claim7 := { stood := { row := frameTurnedRow, standIns := [], harness := (true, "5efb3843c3db20d51aa7cf473294536c2b48622198cd516413c71cbfe2acc6b3"), looks := false }, kinds := [], alts := [], laidByText := true, laidKinds := [.data], laidTests := true, laidLooks := .later }
def FrameTurnedCardSaid : Prop := Claim7.holds Tryd.pinned (.plain (OpenSpec.ofChange frameTurnedSpec)) frameTurnedCard

/-- THE TIED CARD OF 'transeptlaw04.FrameOwn'. -/
def frameOwnCard : Claim7 := { stood := { row := frameOwnRow, standIns := [], harness := (true, "5efb3843c3db20d51aa7cf473294536c2b48622198cd516413c71cbfe2acc6b3"), looks := false }, kinds := [], alts := [], laidByText := true, laidKinds := [.data], laidTests := true, laidLooks := .later }
def FrameOwnCardSaid : Prop := Claim7.holds Tryd.pinned (.plain (OpenSpec.ofChange frameOwnSpec)) frameOwnCard

/-- THE SECOND FORM's CARD OF 'transeptlaw04.FrameReads'. -/
def frameReadsUptoCard : Claim7 := { stood := { row := frameReadsUptoRow, standIns := [], harness := (true, "5efb3843c3db20d51aa7cf473294536c2b48622198cd516413c71cbfe2acc6b3"), looks := false }, kinds := [], alts := [], laidByText := true, laidKinds := [.data], laidTests := true, laidLooks := .later }
def FrameReadsUptoCardSaid : Prop := Claim7.holds Tryd.pinned (.plain (OpenSpec.upto frameReadsSpec)) frameReadsUptoCard

/-- THE SECOND FORM's CARD OF 'transeptlaw04.FrameWrites'. -/
def frameWritesUptoCard : Claim7 := { stood := { row := frameWritesUptoRow, standIns := [], harness := (true, "5efb3843c3db20d51aa7cf473294536c2b48622198cd516413c71cbfe2acc6b3"), looks := false }, kinds := [], alts := [], laidByText := true, laidKinds := [.data], laidTests := true, laidLooks := .later }
def FrameWritesUptoCardSaid : Prop := Claim7.holds Tryd.pinned (.plain (OpenSpec.upto frameWritesSpec)) frameWritesUptoCard

/-- THE SECOND FORM's CARD OF 'transeptlaw04.FrameBack'. -/
def frameBackUptoCard : Claim7 := { stood := { row := frameBackUptoRow, standIns := [], harness := (true, "5efb3843c3db20d51aa7cf473294536c2b48622198cd516413c71cbfe2acc6b3"), looks := false }, kinds := [], alts := [], laidByText := true, laidKinds := [.data], laidTests := true, laidLooks := .later }
def FrameBackUptoCardSaid : Prop := Claim7.holds Tryd.pinned (.plain (OpenSpec.upto frameBackSpec)) frameBackUptoCard

/-- THE SECOND FORM's CARD OF 'transeptlaw04.FrameCuts'. -/
def frameCutsUptoCard : Claim7 := { stood := { row := frameCutsUptoRow, standIns := [], harness := (true, "5efb3843c3db20d51aa7cf473294536c2b48622198cd516413c71cbfe2acc6b3"), looks := false }, kinds := [], alts := [], laidByText := true, laidKinds := [.data], laidTests := true, laidLooks := .later }
def FrameCutsUptoCardSaid : Prop := Claim7.holds Tryd.pinned (.plain (OpenSpec.upto frameCutsSpec)) frameCutsUptoCard

/-- THE SECOND FORM's CARD OF 'transeptlaw04.FrameFirst'. -/
def frameFirstUptoCard : Claim7 := { stood := { row := frameFirstUptoRow, standIns := [], harness := (true, "5efb3843c3db20d51aa7cf473294536c2b48622198cd516413c71cbfe2acc6b3"), looks := false }, kinds := [], alts := [], laidByText := true, laidKinds := [.data], laidTests := true, laidLooks := .later }
def FrameFirstUptoCardSaid : Prop := Claim7.holds Tryd.pinned (.plain (OpenSpec.upto frameFirstSpec)) frameFirstUptoCard

/-- THE SECOND FORM's CARD OF 'transeptlaw04.FrameLimits'. -/
def frameLimitsUptoCard : Claim7 := { stood := { row := frameLimitsUptoRow, standIns := [], harness := (true, "5efb3843c3db20d51aa7cf473294536c2b48622198cd516413c71cbfe2acc6b3"), looks := false }, kinds := [], alts := [], laidByText := true, laidKinds := [.data], laidTests := true, laidLooks := .later }
def FrameLimitsUptoCardSaid : Prop := Claim7.holds Tryd.pinned (.plain (OpenSpec.upto frameLimitsSpec)) frameLimitsUptoCard

/-- THE SECOND FORM's CARD OF 'transeptlaw04.FrameLong'. -/
def frameLongUptoCard : Claim7 := { stood := { row := frameLongUptoRow, standIns := [], harness := (true, "5efb3843c3db20d51aa7cf473294536c2b48622198cd516413c71cbfe2acc6b3"), looks := false }, kinds := [], alts := [], laidByText := true, laidKinds := [.data], laidTests := true, laidLooks := .later }
def FrameLongUptoCardSaid : Prop := Claim7.holds Tryd.pinned (.plain (OpenSpec.upto frameLongSpec)) frameLongUptoCard

/-- THE SECOND FORM's CARD OF 'transeptlaw04.FrameJoins'. -/
def frameJoinsUptoCard : Claim7 := { stood := { row := frameJoinsUptoRow, standIns := [], harness := (true, "5efb3843c3db20d51aa7cf473294536c2b48622198cd516413c71cbfe2acc6b3"), looks := false }, kinds := [], alts := [], laidByText := true, laidKinds := [.data], laidTests := true, laidLooks := .later }
def FrameJoinsUptoCardSaid : Prop := Claim7.holds Tryd.pinned (.plain (OpenSpec.upto frameJoinsSpec)) frameJoinsUptoCard

/-- THE SECOND FORM's CARD OF 'transeptlaw04.FrameTurned'. -/
def frameTurnedUptoCard : Claim7 := { stood := { row := frameTurnedUptoRow, standIns := [], harness := (true, "5efb3843c3db20d51aa7cf473294536c2b48622198cd516413c71cbfe2acc6b3"), looks := false }, kinds := [], alts := [], laidByText := true, laidKinds := [.data], laidTests := true, laidLooks := .later }
def FrameTurnedUptoCardSaid : Prop := Claim7.holds Tryd.pinned (.plain (OpenSpec.upto frameTurnedSpec)) frameTurnedUptoCard

/-- THE SECOND FORM's CARD OF 'transeptlaw04.FrameOwn'. -/
def frameOwnUptoCard : Claim7 := { stood := { row := frameOwnUptoRow, standIns := [], harness := (true, "5efb3843c3db20d51aa7cf473294536c2b48622198cd516413c71cbfe2acc6b3"), looks := false }, kinds := [], alts := [], laidByText := true, laidKinds := [.data], laidTests := true, laidLooks := .later }
def FrameOwnUptoCardSaid : Prop := Claim7.holds Tryd.pinned (.plain (OpenSpec.upto frameOwnSpec)) frameOwnUptoCard
end Rows
end Go.Proofs.YtojagnoobaleaaaDoor
