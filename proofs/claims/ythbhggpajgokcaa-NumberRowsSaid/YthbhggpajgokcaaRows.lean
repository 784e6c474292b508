/-
  No cell of these rows narrows 'for every input' (looked for: loops, veiled, ifaces, maps, wideKeys, modest, calm, conditions, laid).
  DERIVED. THE GIVEN ROWS OF THIS SEAT. 7 by the template 'for every input the law returns true; each argument reads behind the call as it read before'; 0 by the template 'total and deterministic' (their statements: YthbhggpajgokcaaTotals.lean).
  GIVEN WITH THE SEED: the statements are not yours to turn. If you find one false, say at which input.
  Laid BY PROGRAM, IN A SANDBOX (cutbox-rows.mjs): the forced cells as the released guide's own fill.sh prints them over the translation 4d5195ae3b8dedee… (all of the seat's roots in one cut). By AI agents, Wed Nov 11 2026. No macro, syntax, notation, axiom, sorry.
-/
import Derived.Test.YthbhggpajgokcaaChecked
import GoSem.Claim
import GoSem.ClaimJoined
import GoSem.ClaimMapViews
import Derived.JoinedTies
import Derived.KernelRfl
namespace Go.Proofs.Ythbhggpajgokcaa
/- THE CELL 'sum', in the pinned program and in every row, IS THE sha256 OF THE DUMP (.gsa) THAT YthbhggpajgokcaaProg.lean LOADS. Nothing in Lean hashes anything: it is a label: what it is worth is what the hold of that sum in a sandbox is worth. -/
noncomputable def Try.pinned : Pinned := { name := "ythbhggpajgokcaa", sum := "4d5195ae3b8dedee914abc44ec6bea30a953c9dc7ea169aedf90b7dfe33eaf62", checked := Try.checked }
namespace Rows
def none {H : Type} : Left H := { results := [], args := [] }

/-- 'transeptlaw01.NumberReads': WHATEVER THE INPUT: true; the input reads as it did. -/
def numberReadsSpec : ChangeSpec := { name := "numberReads", fn := fun _ => fun
  | [d1, d2] => { results := [.lit (.bool true)], args := [d1, d2] }
  | _ => none }
def numberReadsRow : OpenClaim := { program := "ythbhggpajgokcaa", sum := "4d5195ae3b8dedee914abc44ec6bea30a953c9dc7ea169aedf90b7dfe33eaf62", func := "transept/transeptlaw01.NumberReads", spec := "numberReads", unfollowed := true, recurses := true, apart := false }
def NumberReadsSaid : Prop := numberReadsRow.holds Try.pinned (OpenSpec.ofChange numberReadsSpec)

/-- ITS FALSE NEIGHBOUR: 'it returns false'. Refute it at one input. -/
def numberReadsWrong : ChangeSpec := { name := "numberReads", fn := fun _ => fun
  | [d1, d2] => { results := [.lit (.bool false)], args := [d1, d2] }
  | _ => none }
def NumberReadsWrongFalsely : Prop := numberReadsRow.holds Try.pinned (OpenSpec.ofChange numberReadsWrong)

/-- 'transeptlaw01.NumberOne': WHATEVER THE INPUT: true; the input reads as it did. -/
def numberOneSpec : ChangeSpec := { name := "numberOne", fn := fun _ => fun
  | [d1, d2] => { results := [.lit (.bool true)], args := [d1, d2] }
  | _ => none }
def numberOneRow : OpenClaim := { program := "ythbhggpajgokcaa", sum := "4d5195ae3b8dedee914abc44ec6bea30a953c9dc7ea169aedf90b7dfe33eaf62", func := "transept/transeptlaw01.NumberOne", spec := "numberOne", unfollowed := true, recurses := true, apart := false }
def NumberOneSaid : Prop := numberOneRow.holds Try.pinned (OpenSpec.ofChange numberOneSpec)

/-- ITS FALSE NEIGHBOUR: 'it returns false'. Refute it at one input. -/
def numberOneWrong : ChangeSpec := { name := "numberOne", fn := fun _ => fun
  | [d1, d2] => { results := [.lit (.bool false)], args := [d1, d2] }
  | _ => none }
def NumberOneWrongFalsely : Prop := numberOneRow.holds Try.pinned (OpenSpec.ofChange numberOneWrong)

/-- 'transeptlaw01.NumberSizes': WHATEVER THE INPUT: true; the input reads as it did. -/
def numberSizesSpec : ChangeSpec := { name := "numberSizes", fn := fun _ => fun
  | [d] => { results := [.lit (.bool true)], args := [d] }
  | _ => none }
def numberSizesRow : OpenClaim := { program := "ythbhggpajgokcaa", sum := "4d5195ae3b8dedee914abc44ec6bea30a953c9dc7ea169aedf90b7dfe33eaf62", func := "transept/transeptlaw01.NumberSizes", spec := "numberSizes", unfollowed := true, recurses := true, apart := false }
def NumberSizesSaid : Prop := numberSizesRow.holds Try.pinned (OpenSpec.ofChange numberSizesSpec)

/-- ITS FALSE NEIGHBOUR: 'it returns false'. Refute it at one input. -/
def numberSizesWrong : ChangeSpec := { name := "numberSizes", fn := fun _ => fun
  | [d] => { results := [.lit (.bool false)], args := [d] }
  | _ => none }
def NumberSizesWrongFalsely : Prop := numberSizesRow.holds Try.pinned (OpenSpec.ofChange numberSizesWrong)

/-- 'transeptlaw01.NumberOrder': WHATEVER THE INPUT: true; the input reads as it did. -/
def numberOrderSpec : ChangeSpec := { name := "numberOrder", fn := fun _ => fun
  | [d1, d2] => { results := [.lit (.bool true)], args := [d1, d2] }
  | _ => none }
def numberOrderRow : OpenClaim := { program := "ythbhggpajgokcaa", sum := "4d5195ae3b8dedee914abc44ec6bea30a953c9dc7ea169aedf90b7dfe33eaf62", func := "transept/transeptlaw01.NumberOrder", spec := "numberOrder", unfollowed := true, recurses := true, apart := false }
def NumberOrderSaid : Prop := numberOrderRow.holds Try.pinned (OpenSpec.ofChange numberOrderSpec)

/-- ITS FALSE NEIGHBOUR: 'it returns false'. Refute it at one input. -/
def numberOrderWrong : ChangeSpec := { name := "numberOrder", fn := fun _ => fun
  | [d1, d2] => { results := [.lit (.bool false)], args := [d1, d2] }
  | _ => none }
def NumberOrderWrongFalsely : Prop := numberOrderRow.holds Try.pinned (OpenSpec.ofChange numberOrderWrong)

/-- 'transeptlaw01.NumberWrites': WHATEVER THE INPUT: true; the input reads as it did. -/
def numberWritesSpec : ChangeSpec := { name := "numberWrites", fn := fun _ => fun
  | [d1, d2, d3] => { results := [.lit (.bool true)], args := [d1, d2, d3] }
  | _ => none }
def numberWritesRow : OpenClaim := { program := "ythbhggpajgokcaa", sum := "4d5195ae3b8dedee914abc44ec6bea30a953c9dc7ea169aedf90b7dfe33eaf62", func := "transept/transeptlaw01.NumberWrites", spec := "numberWrites", unfollowed := true, recurses := true, apart := false }
def NumberWritesSaid : Prop := numberWritesRow.holds Try.pinned (OpenSpec.ofChange numberWritesSpec)

/-- ITS FALSE NEIGHBOUR: 'it returns false'. Refute it at one input. -/
def numberWritesWrong : ChangeSpec := { name := "numberWrites", fn := fun _ => fun
  | [d1, d2, d3] => { results := [.lit (.bool false)], args := [d1, d2, d3] }
  | _ => none }
def NumberWritesWrongFalsely : Prop := numberWritesRow.holds Try.pinned (OpenSpec.ofChange numberWritesWrong)

/-- 'transeptlaw01.NumberBack': WHATEVER THE INPUT: true; the input reads as it did. -/
def numberBackSpec : ChangeSpec := { name := "numberBack", fn := fun _ => fun
  | [d1, d2, d3, d4] => { results := [.lit (.bool true)], args := [d1, d2, d3, d4] }
  | _ => none }
def numberBackRow : OpenClaim := { program := "ythbhggpajgokcaa", sum := "4d5195ae3b8dedee914abc44ec6bea30a953c9dc7ea169aedf90b7dfe33eaf62", func := "transept/transeptlaw01.NumberBack", spec := "numberBack", unfollowed := true, recurses := true, apart := false }
def NumberBackSaid : Prop := numberBackRow.holds Try.pinned (OpenSpec.ofChange numberBackSpec)

/-- ITS FALSE NEIGHBOUR: 'it returns false'. Refute it at one input. -/
def numberBackWrong : ChangeSpec := { name := "numberBack", fn := fun _ => fun
  | [d1, d2, d3, d4] => { results := [.lit (.bool false)], args := [d1, d2, d3, d4] }
  | _ => none }
def NumberBackWrongFalsely : Prop := numberBackRow.holds Try.pinned (OpenSpec.ofChange numberBackWrong)

/-- 'transeptlaw01.NumberRows': WHATEVER THE INPUT: true; the input reads as it did. -/
def numberRowsSpec : ChangeSpec := { name := "numberRows", fn := fun _ => fun
  | [d1, d2] => { results := [.lit (.bool true)], args := [d1, d2] }
  | _ => none }
def numberRowsRow : OpenClaim := { program := "ythbhggpajgokcaa", sum := "4d5195ae3b8dedee914abc44ec6bea30a953c9dc7ea169aedf90b7dfe33eaf62", func := "transept/transeptlaw01.NumberRows", spec := "numberRows", unfollowed := true, recurses := true, apart := false }
def NumberRowsSaid : Prop := numberRowsRow.holds Try.pinned (OpenSpec.ofChange numberRowsSpec)

/-- ITS FALSE NEIGHBOUR: 'it returns false'. Refute it at one input. -/
def numberRowsWrong : ChangeSpec := { name := "numberRows", fn := fun _ => fun
  | [d1, d2] => { results := [.lit (.bool false)], args := [d1, d2] }
  | _ => none }
def NumberRowsWrongFalsely : Prop := numberRowsRow.holds Try.pinned (OpenSpec.ofChange numberRowsWrong)

/- THE SECOND FORM. 'bulk': how many values and letters a reading holds, each counted each time it is reached (what is shared counts as often as it is met; a slice's spare places count too). A statement '..UptoSaid' is the law's where the arguments, and the package variables that the reading takes, are together of bulk at most 1048576: NARROWER than '..Said'. Prove '..Said' where nothing that the law and all that it calls make is longer than what came in: it says more and counts as full. Else prove '..UptoSaid'. A law counts once. -/
mutual
def uptoBulk {H : Type} : DataW H → Nat
  | .lit (.string bytes) => bytes.length + 1
  | .lit _ => 1
  | .nil => 1
  | .ptr d => uptoBulk d + 1
  | .slice elems spare => uptoBulkAll elems + uptoBulkAll spare + 1
  | .agg parts => uptoBulkAll parts + 1
  | .iface _ d => uptoBulk d + 1
  | .map entries => uptoBulkEntries entries + 1
  | .held _ => 1
def uptoBulkAll {H : Type} : List (DataW H) → Nat
  | [] => 0
  | d :: r => uptoBulk d + uptoBulkAll r
def uptoBulkEntries {H : Type} : List (Lit × DataW H) → Nat
  | [] => 0
  | x :: r => uptoBulkEntry x + uptoBulkEntries r
def uptoBulkEntry {H : Type} : Lit × DataW H → Nat
  | (.string bytes, d) => bytes.length + uptoBulk d + 1
  | (_, d) => uptoBulk d + 1
 end
def uptoSmall : (H : Type) → List (DataW H) → Bool := fun _ ds => decide (uptoBulkAll ds ≤ 1048576)
def OpenSpec.upto (s : _root_.Go.ChangeSpec) : _root_.Go.OpenSpec := { _root_.Go.OpenSpec.ofChange s with cond := some uptoSmall }

/-- 'transeptlaw01.NumberReads', WHERE WHAT IT READS IS OF BULK AT MOST 1048576: true; the input reads as it did. -/
def numberReadsUptoRow : OpenClaim := { program := "ythbhggpajgokcaa", sum := "4d5195ae3b8dedee914abc44ec6bea30a953c9dc7ea169aedf90b7dfe33eaf62", func := "transept/transeptlaw01.NumberReads", spec := "numberReads", unfollowed := true, recurses := true, apart := false, narrowed := true }
def NumberReadsUptoSaid : Prop := numberReadsUptoRow.holds Try.pinned (OpenSpec.upto numberReadsSpec)

/-- 'transeptlaw01.NumberOne', WHERE WHAT IT READS IS OF BULK AT MOST 1048576: true; the input reads as it did. -/
def numberOneUptoRow : OpenClaim := { program := "ythbhggpajgokcaa", sum := "4d5195ae3b8dedee914abc44ec6bea30a953c9dc7ea169aedf90b7dfe33eaf62", func := "transept/transeptlaw01.NumberOne", spec := "numberOne", unfollowed := true, recurses := true, apart := false, narrowed := true }
def NumberOneUptoSaid : Prop := numberOneUptoRow.holds Try.pinned (OpenSpec.upto numberOneSpec)

/-- 'transeptlaw01.NumberSizes', WHERE WHAT IT READS IS OF BULK AT MOST 1048576: true; the input reads as it did. -/
def numberSizesUptoRow : OpenClaim := { program := "ythbhggpajgokcaa", sum := "4d5195ae3b8dedee914abc44ec6bea30a953c9dc7ea169aedf90b7dfe33eaf62", func := "transept/transeptlaw01.NumberSizes", spec := "numberSizes", unfollowed := true, recurses := true, apart := false, narrowed := true }
def NumberSizesUptoSaid : Prop := numberSizesUptoRow.holds Try.pinned (OpenSpec.upto numberSizesSpec)

/-- 'transeptlaw01.NumberOrder', WHERE WHAT IT READS IS OF BULK AT MOST 1048576: true; the input reads as it did. -/
def numberOrderUptoRow : OpenClaim := { program := "ythbhggpajgokcaa", sum := "4d5195ae3b8dedee914abc44ec6bea30a953c9dc7ea169aedf90b7dfe33eaf62", func := "transept/transeptlaw01.NumberOrder", spec := "numberOrder", unfollowed := true, recurses := true, apart := false, narrowed := true }
def NumberOrderUptoSaid : Prop := numberOrderUptoRow.holds Try.pinned (OpenSpec.upto numberOrderSpec)

/-- 'transeptlaw01.NumberWrites', WHERE WHAT IT READS IS OF BULK AT MOST 1048576: true; the input reads as it did. -/
def numberWritesUptoRow : OpenClaim := { program := "ythbhggpajgokcaa", sum := "4d5195ae3b8dedee914abc44ec6bea30a953c9dc7ea169aedf90b7dfe33eaf62", func := "transept/transeptlaw01.NumberWrites", spec := "numberWrites", unfollowed := true, recurses := true, apart := false, narrowed := true }
def NumberWritesUptoSaid : Prop := numberWritesUptoRow.holds Try.pinned (OpenSpec.upto numberWritesSpec)

/-- 'transeptlaw01.NumberBack', WHERE WHAT IT READS IS OF BULK AT MOST 1048576: true; the input reads as it did. -/
def numberBackUptoRow : OpenClaim := { program := "ythbhggpajgokcaa", sum := "4d5195ae3b8dedee914abc44ec6bea30a953c9dc7ea169aedf90b7dfe33eaf62", func := "transept/transeptlaw01.NumberBack", spec := "numberBack", unfollowed := true, recurses := true, apart := false, narrowed := true }
def NumberBackUptoSaid : Prop := numberBackUptoRow.holds Try.pinned (OpenSpec.upto numberBackSpec)

/-- 'transeptlaw01.NumberRows', WHERE WHAT IT READS IS OF BULK AT MOST 1048576: true; the input reads as it did. -/
def numberRowsUptoRow : OpenClaim := { program := "ythbhggpajgokcaa", sum := "4d5195ae3b8dedee914abc44ec6bea30a953c9dc7ea169aedf90b7dfe33eaf62", func := "transept/transeptlaw01.NumberRows", spec := "numberRows", unfollowed := true, recurses := true, apart := false, narrowed := true }
def NumberRowsUptoSaid : Prop := numberRowsUptoRow.holds Try.pinned (OpenSpec.upto numberRowsSpec)

end Rows
end Go.Proofs.Ythbhggpajgokcaa
