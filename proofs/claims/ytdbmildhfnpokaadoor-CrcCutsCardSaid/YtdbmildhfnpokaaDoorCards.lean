/-
  DERIVED. GIVEN WITH THE SEED: THE CARDS: each row of YtdbmildhfnpokaaDoorRows.lean that lists a variable, with what it lists TIED to the program's text (the seventh form; the later family's looks); each row that meets fmt, with fmt's text TOLD by the authors' own Lean function (tested against real Go, not proved from fmt's source: count such statements apart). THE CARD IS WHAT COUNTS. Prove the row's statement (the work); the ties are given (YtdbmildhfnpokaaDoorTie.lean); close each card by the builder's one call (the guide's Derived/Test/ToyasCard.lean, 'card_holds'). Laid BY PROGRAM, IN A SANDBOX (cutbox-door.mjs). By AI agents, Wed Nov 11 2026. No macro, syntax, notation, axiom, sorry.
-/
import Derived.Test.YtdbmildhfnpokaaDoorRows
import GoSem.ClaimSeven
namespace Go.Proofs.YtdbmildhfnpokaaDoor
namespace Rows

/-- THE TIED CARD OF 'transeptlaw02.CrcTells'. -/
def crcTellsCard : Claim7 := { stood := { row := crcTellsRow, standIns := [], harness := (true, "3a5ac944ce4e3ad741bf29be4a08be3fdedc73b2aacb641421e795445d530e9a"), looks := false }, kinds := [], alts := [], laidByText := true, laidKinds := [.data], laidTests := true, laidLooks := .later }
def CrcTellsCardSaid : Prop := Claim7.holds Tryd.pinned (.plain (OpenSpec.ofChange crcTellsSpec)) crcTellsCard

/-- THE TIED CARD OF 'transeptlaw02.CrcCuts'. -/
def crcCutsCard : Claim7 := { stood := { row := crcCutsRow, standIns := [], harness := (true, "3a5ac944ce4e3ad741bf29be4a08be3fdedc73b2aacb641421e795445d530e9a"), looks := false }, kinds := [], alts := [], laidByText := true, laidKinds := [.data], laidTests := true, laidLooks := .later }
def CrcCutsCardSaid : Prop := Claim7.holds Tryd.pinned (.plain (OpenSpec.ofChange crcCutsSpec)) crcCutsCard

/-- THE TIED CARD OF 'transeptlaw02.CrcOne'. -/
def crcOneCard : Claim7 := { stood := { row := crcOneRow, standIns := [], harness := (true, "3a5ac944ce4e3ad741bf29be4a08be3fdedc73b2aacb641421e795445d530e9a"), looks := false }, kinds := [], alts := [], laidByText := true, laidKinds := [.data], laidTests := true, laidLooks := .later }
def CrcOneCardSaid : Prop := Claim7.holds Tryd.pinned (.plain (OpenSpec.ofChange crcOneSpec)) crcOneCard

/-- THE TIED CARD OF 'transeptlaw02.CrcFours'. -/
def crcFoursCard : Claim7 := { stood := { row := crcFoursRow, standIns := [], harness := (true, "3a5ac944ce4e3ad741bf29be4a08be3fdedc73b2aacb641421e795445d530e9a"), looks := false }, kinds := [], alts := [], laidByText := true, laidKinds := [.data], laidTests := true, laidLooks := .later }
def CrcFoursCardSaid : Prop := Claim7.holds Tryd.pinned (.plain (OpenSpec.ofChange crcFoursSpec)) crcFoursCard

/-- THE TIED CARD OF 'transeptlaw02.CrcMixed'. -/
def crcMixedCard : Claim7 := { stood := { row := crcMixedRow, standIns := [], harness := (true, "3a5ac944ce4e3ad741bf29be4a08be3fdedc73b2aacb641421e795445d530e9a"), looks := false }, kinds := [], alts := [], laidByText := true, laidKinds := [.data], laidTests := true, laidLooks := .later }
def CrcMixedCardSaid : Prop := Claim7.holds Tryd.pinned (.plain (OpenSpec.ofChange crcMixedSpec)) crcMixedCard

/-- THE TIED CARD OF 'transeptlaw02.CrcRests'. -/
def crcRestsCard : Claim7 := { stood := { row := crcRestsRow, standIns := [], harness := (true, "3a5ac944ce4e3ad741bf29be4a08be3fdedc73b2aacb641421e795445d530e9a"), looks := false }, kinds := [], alts := [], laidByText := true, laidKinds := [.data], laidTests := true, laidLooks := .later }
def CrcRestsCardSaid : Prop := Claim7.holds Tryd.pinned (.plain (OpenSpec.ofChange crcRestsSpec)) crcRestsCard

/-- THE SECOND FORM's CARD OF 'transeptlaw02.CrcTells'. -/
def crcTellsUptoCard : Claim7 := { stood := { row := crcTellsUptoRow, standIns := [], harness := (true, "3a5ac944ce4e3ad741bf29be4a08be3fdedc73b2aacb641421e795445d530e9a"), looks := false }, kinds := [], alts := [], laidByText := true, laidKinds := [.data], laidTests := true, laidLooks := .later }
def CrcTellsUptoCardSaid : Prop := Claim7.holds Tryd.pinned (.plain (OpenSpec.upto crcTellsSpec)) crcTellsUptoCard

/-- THE SECOND FORM's CARD OF 'transeptlaw02.CrcCuts'. -/
def crcCutsUptoCard : Claim7 := { stood := { row := crcCutsUptoRow, standIns := [], harness := (true, "3a5ac944ce4e3ad741bf29be4a08be3fdedc73b2aacb641421e795445d530e9a"), looks := false }, kinds := [], alts := [], laidByText := true, laidKinds := [.data], laidTests := true, laidLooks := .later }
def CrcCutsUptoCardSaid : Prop := Claim7.holds Tryd.pinned (.plain (OpenSpec.upto crcCutsSpec)) crcCutsUptoCard

/-- THE SECOND FORM's CARD OF 'transeptlaw02.CrcOne'. -/
def crcOneUptoCard : Claim7 := { stood := { row := crcOneUptoRow, standIns := [], harness := (true, "3a5ac944ce4e3ad741bf29be4a08be3fdedc73b2aacb641421e795445d530e9a"), looks := false }, kinds := [], alts := [], laidByText := true, laidKinds := [.data], laidTests := true, laidLooks := .later }
def CrcOneUptoCardSaid : Prop := Claim7.holds Tryd.pinned (.plain (OpenSpec.upto crcOneSpec)) crcOneUptoCard

/-- THE SECOND FORM's CARD OF 'transeptlaw02.CrcFours'. -/
def crcFoursUptoCard : Claim7 := { stood := { row := crcFoursUptoRow, standIns := [], harness := (true, "3a5ac944ce4e3ad741bf29be4a08be3fdedc73b2aacb641421e795445d530e9a"), looks := false }, kinds := [], alts := [], laidByText := true, laidKinds := [.data], laidTests := true, laidLooks := .later }
def CrcFoursUptoCardSaid : Prop := Claim7.holds Tryd.pinned (.plain (OpenSpec.upto crcFoursSpec)) crcFoursUptoCard

/-- THE SECOND FORM's CARD OF 'transeptlaw02.CrcMixed'. -/
def crcMixedUptoCard : Claim7 := { stood := { row := crcMixedUptoRow, standIns := [], harness := (true, "3a5ac944ce4e3ad741bf29be4a08be3fdedc73b2aacb641421e795445d530e9a"), looks := false }, kinds := [], alts := [], laidByText := true, laidKinds := [.data], laidTests := true, laidLooks := .later }
def CrcMixedUptoCardSaid : Prop := Claim7.holds Tryd.pinned (.plain (OpenSpec.upto crcMixedSpec)) crcMixedUptoCard

/-- THE SECOND FORM's CARD OF 'transeptlaw02.CrcRests'. -/
def crcRestsUptoCard : Claim7 := { stood := { row := crcRestsUptoRow, standIns := [], harness := (true, "3a5ac944ce4e3ad741bf29be4a08be3fdedc73b2aacb641421e795445d530e9a"), looks := false }, kinds := [], alts := [], laidByText := true, laidKinds := [.data], laidTests := true, laidLooks := .later }
def CrcRestsUptoCardSaid : Prop := Claim7.holds Tryd.pinned (.plain (OpenSpec.upto crcRestsSpec)) crcRestsUptoCard
end Rows
end Go.Proofs.YtdbmildhfnpokaaDoor
