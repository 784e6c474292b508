/-
  DERIVED. GIVEN WITH THE SEED: THE CARDS: each row of YtbldmicpnibnpaaDoorRows.lean that lists a variable, with what it lists TIED to the program's text (the seventh form; the later family's looks); each row that meets fmt, with fmt's text TOLD by the authors' own Lean function (tested against real Go, not proved from fmt's source: count such statements apart). THE CARD IS WHAT COUNTS. Prove the row's statement (the work); the ties are given (YtbldmicpnibnpaaDoorTie.lean); close each card by the builder's one call (the guide's Derived/Test/ToyasCard.lean, 'card_holds'). Laid BY PROGRAM, IN A SANDBOX (cutbox-door.mjs). By AI agents, Wed Nov 11 2026. No macro, syntax, notation, axiom, sorry.
-/
import Derived.Test.YtbldmicpnibnpaaDoorRows
import GoSem.ClaimSeven
namespace Go.Proofs.YtbldmicpnibnpaaDoor
namespace Rows

/-- THE TIED CARD OF 'transeptlaw10.FieldOnly'. -/
def fieldOnlyCard : Claim7 := { stood := { row := fieldOnlyRow, standIns := [], harness := (true, "ac83142f476c53730fad1604783213234d5f78b2d9ebfed956f284e9f23f5bab"), looks := false }, kinds := [], alts := [], laidByText := true, laidKinds := [.data, .pinned], laidTests := true, laidLooks := .later }
def FieldOnlyCardSaid : Prop := Claim7.holds Tryd.pinned (.plain (OpenSpec.ofChange fieldOnlySpec)) fieldOnlyCard

/-- THE SECOND FORM's CARD OF 'transeptlaw10.FieldOnly'. -/
def fieldOnlyUptoCard : Claim7 := { stood := { row := fieldOnlyUptoRow, standIns := [], harness := (true, "ac83142f476c53730fad1604783213234d5f78b2d9ebfed956f284e9f23f5bab"), looks := false }, kinds := [], alts := [], laidByText := true, laidKinds := [.data, .pinned], laidTests := true, laidLooks := .later }
def FieldOnlyUptoCardSaid : Prop := Claim7.holds Tryd.pinned (.plain (OpenSpec.upto fieldOnlySpec)) fieldOnlyUptoCard
end Rows
end Go.Proofs.YtbldmicpnibnpaaDoor
