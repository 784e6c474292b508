/-
  DERIVED. GIVEN WITH THE SEED: THE CARDS: each row of YtanafhccflmdkaaDoorRows.lean that lists a variable, with what it lists TIED to the program's text (the seventh form; the later family's looks); each row that meets fmt, with fmt's text TOLD by the authors' own Lean function (tested against real Go, not proved from fmt's source: count such statements apart). THE CARD IS WHAT COUNTS. Prove the row's statement (the work); the ties are given (YtanafhccflmdkaaDoorTie.lean); close each card by the builder's one call (the guide's Derived/Test/ToyasCard.lean, 'card_holds'). Laid BY PROGRAM, IN A SANDBOX (cutbox-door.mjs). By AI agents, Wed Nov 11 2026. No macro, syntax, notation, axiom, sorry.
-/
import Derived.Test.YtanafhccflmdkaaDoorRows
import GoSem.ClaimSeven
namespace Go.Proofs.YtanafhccflmdkaaDoor
namespace Rows

/-- THE TIED CARD OF 'transeptlaw03.ShaTells'. -/
def shaTellsCard : Claim7 := { stood := { row := shaTellsRow, standIns := [], harness := (true, "11c05ff3121b42cb6f50493e022068eb0f110db20db8839f6eba428910b581dd"), looks := false }, kinds := [], alts := [], laidByText := true, laidKinds := [.data], laidTests := true, laidLooks := .later }
def ShaTellsCardSaid : Prop := Claim7.holds Tryd.pinned (.plain (OpenSpec.ofChange shaTellsSpec)) shaTellsCard

/-- THE TIED CARD OF 'transeptlaw03.ShaMacs'. -/
def shaMacsCard : Claim7 := { stood := { row := shaMacsRow, standIns := [], harness := (true, "11c05ff3121b42cb6f50493e022068eb0f110db20db8839f6eba428910b581dd"), looks := false }, kinds := [], alts := [], laidByText := true, laidKinds := [.data], laidTests := true, laidLooks := .later }
def ShaMacsCardSaid : Prop := Claim7.holds Tryd.pinned (.plain (OpenSpec.ofChange shaMacsSpec)) shaMacsCard

/-- THE TIED CARD OF 'transeptlaw03.ShaPieces'. -/
def shaPiecesCard : Claim7 := { stood := { row := shaPiecesRow, standIns := [], harness := (true, "11c05ff3121b42cb6f50493e022068eb0f110db20db8839f6eba428910b581dd"), looks := false }, kinds := [], alts := [], laidByText := true, laidKinds := [.data], laidTests := true, laidLooks := .later }
def ShaPiecesCardSaid : Prop := Claim7.holds Tryd.pinned (.plain (OpenSpec.ofChange shaPiecesSpec)) shaPiecesCard

/-- THE TIED CARD OF 'transeptlaw03.ShaForks'. -/
def shaForksCard : Claim7 := { stood := { row := shaForksRow, standIns := [], harness := (true, "11c05ff3121b42cb6f50493e022068eb0f110db20db8839f6eba428910b581dd"), looks := false }, kinds := [], alts := [], laidByText := true, laidKinds := [.data], laidTests := true, laidLooks := .later }
def ShaForksCardSaid : Prop := Claim7.holds Tryd.pinned (.plain (OpenSpec.ofChange shaForksSpec)) shaForksCard

/-- THE TIED CARD OF 'transeptlaw03.ShaKeys'. -/
def shaKeysCard : Claim7 := { stood := { row := shaKeysRow, standIns := [], harness := (true, "11c05ff3121b42cb6f50493e022068eb0f110db20db8839f6eba428910b581dd"), looks := false }, kinds := [], alts := [], laidByText := true, laidKinds := [.data], laidTests := true, laidLooks := .later }
def ShaKeysCardSaid : Prop := Claim7.holds Tryd.pinned (.plain (OpenSpec.ofChange shaKeysSpec)) shaKeysCard

/-- THE TIED CARD OF 'transeptlaw03.ShaNothing'. -/
def shaNothingCard : Claim7 := { stood := { row := shaNothingRow, standIns := [], harness := (true, "11c05ff3121b42cb6f50493e022068eb0f110db20db8839f6eba428910b581dd"), looks := false }, kinds := [], alts := [], laidByText := true, laidKinds := [.data], laidTests := true, laidLooks := .later }
def ShaNothingCardSaid : Prop := Claim7.holds Tryd.pinned (.plain (OpenSpec.ofChange shaNothingSpec)) shaNothingCard

/-- THE SECOND FORM's CARD OF 'transeptlaw03.ShaTells'. -/
def shaTellsUptoCard : Claim7 := { stood := { row := shaTellsUptoRow, standIns := [], harness := (true, "11c05ff3121b42cb6f50493e022068eb0f110db20db8839f6eba428910b581dd"), looks := false }, kinds := [], alts := [], laidByText := true, laidKinds := [.data], laidTests := true, laidLooks := .later }
def ShaTellsUptoCardSaid : Prop := Claim7.holds Tryd.pinned (.plain (OpenSpec.upto shaTellsSpec)) shaTellsUptoCard

/-- THE SECOND FORM's CARD OF 'transeptlaw03.ShaMacs'. -/
def shaMacsUptoCard : Claim7 := { stood := { row := shaMacsUptoRow, standIns := [], harness := (true, "11c05ff3121b42cb6f50493e022068eb0f110db20db8839f6eba428910b581dd"), looks := false }, kinds := [], alts := [], laidByText := true, laidKinds := [.data], laidTests := true, laidLooks := .later }
def ShaMacsUptoCardSaid : Prop := Claim7.holds Tryd.pinned (.plain (OpenSpec.upto shaMacsSpec)) shaMacsUptoCard

/-- THE SECOND FORM's CARD OF 'transeptlaw03.ShaPieces'. -/
def shaPiecesUptoCard : Claim7 := { stood := { row := shaPiecesUptoRow, standIns := [], harness := (true, "11c05ff3121b42cb6f50493e022068eb0f110db20db8839f6eba428910b581dd"), looks := false }, kinds := [], alts := [], laidByText := true, laidKinds := [.data], laidTests := true, laidLooks := .later }
def ShaPiecesUptoCardSaid : Prop := Claim7.holds Tryd.pinned (.plain (OpenSpec.upto shaPiecesSpec)) shaPiecesUptoCard

/-- THE SECOND FORM's CARD OF 'transeptlaw03.ShaForks'. -/
def shaForksUptoCard : Claim7 := { stood := { row := shaForksUptoRow, standIns := [], harness := (true, "11c05ff3121b42cb6f50493e022068eb0f110db20db8839f6eba428910b581dd"), looks := false }, kinds := [], alts := [], laidByText := true, laidKinds := [.data], laidTests := true, laidLooks := .later }
def ShaForksUptoCardSaid : Prop := Claim7.holds Tryd.pinned (.plain (OpenSpec.upto shaForksSpec)) shaForksUptoCard

/-- THE SECOND FORM's CARD OF 'transeptlaw03.ShaKeys'. -/
def shaKeysUptoCard : Claim7 := { stood := { row := shaKeysUptoRow, standIns := [], harness := (true, "11c05ff3121b42cb6f50493e022068eb0f110db20db8839f6eba428910b581dd"), looks := false }, kinds := [], alts := [], laidByText := true, laidKinds := [.data], laidTests := true, laidLooks := .later }
def ShaKeysUptoCardSaid : Prop := Claim7.holds Tryd.pinned (.plain (OpenSpec.upto shaKeysSpec)) shaKeysUptoCard

/-- THE SECOND FORM's CARD OF 'transeptlaw03.ShaNothing'. -/
def shaNothingUptoCard : Claim7 := { stood := { row := shaNothingUptoRow, standIns := [], harness := (true, "11c05ff3121b42cb6f50493e022068eb0f110db20db8839f6eba428910b581dd"), looks := false }, kinds := [], alts := [], laidByText := true, laidKinds := [.data], laidTests := true, laidLooks := .later }
def ShaNothingUptoCardSaid : Prop := Claim7.holds Tryd.pinned (.plain (OpenSpec.upto shaNothingSpec)) shaNothingUptoCard
end Rows
end Go.Proofs.YtanafhccflmdkaaDoor
