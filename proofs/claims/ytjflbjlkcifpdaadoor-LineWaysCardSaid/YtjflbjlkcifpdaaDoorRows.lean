/-
  NARROWER THAN 'FOR EVERY INPUT', by the rows' own cells (each row's printed sentence says how): LineOver: laid · LineApart: laid · LinePlays: laid · LineAgain: laid · LineLater: laid · LineWays: laid.
  DERIVED. THE GIVEN ROWS OF THIS SEAT. 6 by the template 'for every input the law returns true; each argument reads behind the call as it read before'; 0 by the template 'total and deterministic' (their statements: YtjflbjlkcifpdaaDoorTotals.lean).
  GIVEN WITH THE SEED: the statements are not yours to turn. If you find one false, say at which input.
  Laid BY PROGRAM, IN A SANDBOX (cutbox-rows.mjs): the forced cells as the released guide's own fill.sh prints them over the translation 659abe7584b9c6a6… (all of the seat's roots in one cut). By AI agents, Wed Nov 11 2026. No macro, syntax, notation, axiom, sorry.
-/
import Derived.Test.YtjflbjlkcifpdaaDoorChecked
import GoSem.Claim
import GoSem.ClaimJoined
import GoSem.ClaimMapViews
import Derived.JoinedTies
import Derived.KernelRfl
namespace Go.Proofs.YtjflbjlkcifpdaaDoor
/- THE CELL 'sum', in the pinned program and in every row, IS THE sha256 OF THE DUMP (.gsa) THAT YtjflbjlkcifpdaaDoorProg.lean LOADS. Nothing in Lean hashes anything: it is a label: what it is worth is what the hold of that sum in a sandbox is worth. -/
noncomputable def Tryd.pinned : Pinned := { name := "ytjflbjlkcifpdaadoor", sum := "659abe7584b9c6a60b909501af82c7d85c028b5b3e3d786c8163b8d51dd9ad31", checked := Tryd.checked }
namespace Rows
def none {H : Type} : Left H := { results := [], args := [] }

/- WHAT THE LISTED PACKAGE-LEVEL VARIABLES READ AS WHEN THE CALL BEGINS. Each datum BY PROGRAM (the guide's laid-datum.mjs) off the statement by which the dump's own 'gosem.cut.vars' lays the variable. In a bare row this is a premise. The card (YtjflbjlkcifpdaaDoorCards.lean) ties it to the program's text. -/
def laid_transept_event_kinds {H : Type} : DataW H := .agg [.agg [.lit (.int .i64 0), .agg [.lit (.int .i64 0), .lit (.int .i64 0), .lit (.int .i64 0)]], .agg [.lit (.int .i64 1), .agg [.lit (.int .i64 0), .lit (.int .i64 0), .lit (.int .i64 0)]], .agg [.lit (.int .i64 1), .agg [.lit (.int .i64 0), .lit (.int .i64 0), .lit (.int .i64 0)]], .agg [.lit (.int .i64 4), .agg [.lit (.int .i64 4), .lit (.int .i64 3), .lit (.int .i64 3)]], .agg [.lit (.int .i64 2), .agg [.lit (.int .i64 0), .lit (.int .i64 0), .lit (.int .i64 0)]], .agg [.lit (.int .i64 0), .agg [.lit (.int .i64 0), .lit (.int .i64 0), .lit (.int .i64 0)]], .agg [.lit (.int .i64 2), .agg [.lit (.int .i64 0), .lit (.int .i64 0), .lit (.int .i64 0)]], .agg [.lit (.int .i64 0), .agg [.lit (.int .i64 1000), .lit (.int .i64 0), .lit (.int .i64 0)]], .agg [.lit (.int .i64 0), .agg [.lit (.int .i64 0), .lit (.int .i64 0), .lit (.int .i64 0)]], .agg [.lit (.int .i64 2), .agg [.lit (.int .i64 0), .lit (.int .i64 0), .lit (.int .i64 0)]], .agg [.lit (.int .i64 0), .agg [.lit (.int .i64 1000), .lit (.int .i64 0), .lit (.int .i64 0)]], .agg [.lit (.int .i64 1), .agg [.lit (.int .i64 0), .lit (.int .i64 0), .lit (.int .i64 0)]], .agg [.lit (.int .i64 1), .agg [.lit (.int .i64 0), .lit (.int .i64 0), .lit (.int .i64 0)]], .agg [.lit (.int .i64 0), .agg [.lit (.int .i64 0), .lit (.int .i64 0), .lit (.int .i64 0)]], .agg [.lit (.int .i64 0), .agg [.lit (.int .i64 4), .lit (.int .i64 0), .lit (.int .i64 0)]]]

/-- 'transeptlaw15.LineOver': WHATEVER THE INPUT: true; the input reads as it did. -/
def lineOverSpec : ChangeSpec := { name := "lineOver", fn := fun _ => fun
  | [d] => { results := [.lit (.bool true)], args := [d] }
  | _ => none }
def lineOverRow : OpenClaim := { program := "ytjflbjlkcifpdaadoor", sum := "659abe7584b9c6a60b909501af82c7d85c028b5b3e3d786c8163b8d51dd9ad31", func := "transept/transeptlaw15.LineOver", spec := "lineOver", named := ["transept/event.kinds"], apart := false, laid := [("transept/event.kinds", laid_transept_event_kinds)] }
def LineOverSaid : Prop := lineOverRow.holds Tryd.pinned (OpenSpec.ofChange lineOverSpec)

/-- ITS FALSE NEIGHBOUR: 'it returns false'. Refute it at one input. -/
def lineOverWrong : ChangeSpec := { name := "lineOver", fn := fun _ => fun
  | [d] => { results := [.lit (.bool false)], args := [d] }
  | _ => none }
def LineOverWrongFalsely : Prop := lineOverRow.holds Tryd.pinned (OpenSpec.ofChange lineOverWrong)

/-- 'transeptlaw15.LineApart': WHATEVER THE INPUT: true; the input reads as it did. -/
def lineApartSpec : ChangeSpec := { name := "lineApart", fn := fun _ => fun
  | [d1, d2] => { results := [.lit (.bool true)], args := [d1, d2] }
  | _ => none }
def lineApartRow : OpenClaim := { program := "ytjflbjlkcifpdaadoor", sum := "659abe7584b9c6a60b909501af82c7d85c028b5b3e3d786c8163b8d51dd9ad31", func := "transept/transeptlaw15.LineApart", spec := "lineApart", named := ["transept/event.kinds"], apart := false, laid := [("transept/event.kinds", laid_transept_event_kinds)] }
def LineApartSaid : Prop := lineApartRow.holds Tryd.pinned (OpenSpec.ofChange lineApartSpec)

/-- ITS FALSE NEIGHBOUR: 'it returns false'. Refute it at one input. -/
def lineApartWrong : ChangeSpec := { name := "lineApart", fn := fun _ => fun
  | [d1, d2] => { results := [.lit (.bool false)], args := [d1, d2] }
  | _ => none }
def LineApartWrongFalsely : Prop := lineApartRow.holds Tryd.pinned (OpenSpec.ofChange lineApartWrong)

/-- 'transeptlaw15.LinePlays': WHATEVER THE INPUT: true; the input reads as it did. -/
def linePlaysSpec : ChangeSpec := { name := "linePlays", fn := fun _ => fun
  | [d] => { results := [.lit (.bool true)], args := [d] }
  | _ => none }
def linePlaysRow : OpenClaim := { program := "ytjflbjlkcifpdaadoor", sum := "659abe7584b9c6a60b909501af82c7d85c028b5b3e3d786c8163b8d51dd9ad31", func := "transept/transeptlaw15.LinePlays", spec := "linePlays", named := ["transept/event.kinds"], apart := false, laid := [("transept/event.kinds", laid_transept_event_kinds)] }
def LinePlaysSaid : Prop := linePlaysRow.holds Tryd.pinned (OpenSpec.ofChange linePlaysSpec)

/-- ITS FALSE NEIGHBOUR: 'it returns false'. Refute it at one input. -/
def linePlaysWrong : ChangeSpec := { name := "linePlays", fn := fun _ => fun
  | [d] => { results := [.lit (.bool false)], args := [d] }
  | _ => none }
def LinePlaysWrongFalsely : Prop := linePlaysRow.holds Tryd.pinned (OpenSpec.ofChange linePlaysWrong)

/-- 'transeptlaw15.LineAgain': WHATEVER THE INPUT: true; the input reads as it did. -/
def lineAgainSpec : ChangeSpec := { name := "lineAgain", fn := fun _ => fun
  | [d] => { results := [.lit (.bool true)], args := [d] }
  | _ => none }
def lineAgainRow : OpenClaim := { program := "ytjflbjlkcifpdaadoor", sum := "659abe7584b9c6a60b909501af82c7d85c028b5b3e3d786c8163b8d51dd9ad31", func := "transept/transeptlaw15.LineAgain", spec := "lineAgain", named := ["transept/event.kinds"], apart := false, laid := [("transept/event.kinds", laid_transept_event_kinds)] }
def LineAgainSaid : Prop := lineAgainRow.holds Tryd.pinned (OpenSpec.ofChange lineAgainSpec)

/-- ITS FALSE NEIGHBOUR: 'it returns false'. Refute it at one input. -/
def lineAgainWrong : ChangeSpec := { name := "lineAgain", fn := fun _ => fun
  | [d] => { results := [.lit (.bool false)], args := [d] }
  | _ => none }
def LineAgainWrongFalsely : Prop := lineAgainRow.holds Tryd.pinned (OpenSpec.ofChange lineAgainWrong)

/-- 'transeptlaw15.LineLater': WHATEVER THE INPUT: true; the input reads as it did. -/
def lineLaterSpec : ChangeSpec := { name := "lineLater", fn := fun _ => fun
  | [d] => { results := [.lit (.bool true)], args := [d] }
  | _ => none }
def lineLaterRow : OpenClaim := { program := "ytjflbjlkcifpdaadoor", sum := "659abe7584b9c6a60b909501af82c7d85c028b5b3e3d786c8163b8d51dd9ad31", func := "transept/transeptlaw15.LineLater", spec := "lineLater", named := ["transept/event.kinds"], apart := false, laid := [("transept/event.kinds", laid_transept_event_kinds)] }
def LineLaterSaid : Prop := lineLaterRow.holds Tryd.pinned (OpenSpec.ofChange lineLaterSpec)

/-- ITS FALSE NEIGHBOUR: 'it returns false'. Refute it at one input. -/
def lineLaterWrong : ChangeSpec := { name := "lineLater", fn := fun _ => fun
  | [d] => { results := [.lit (.bool false)], args := [d] }
  | _ => none }
def LineLaterWrongFalsely : Prop := lineLaterRow.holds Tryd.pinned (OpenSpec.ofChange lineLaterWrong)

/-- 'transeptlaw15.LineWays': WHATEVER THE INPUT: true; the input reads as it did. -/
def lineWaysSpec : ChangeSpec := { name := "lineWays", fn := fun _ => fun
  | [d1, d2] => { results := [.lit (.bool true)], args := [d1, d2] }
  | _ => none }
def lineWaysRow : OpenClaim := { program := "ytjflbjlkcifpdaadoor", sum := "659abe7584b9c6a60b909501af82c7d85c028b5b3e3d786c8163b8d51dd9ad31", func := "transept/transeptlaw15.LineWays", spec := "lineWays", named := ["transept/event.kinds"], apart := false, laid := [("transept/event.kinds", laid_transept_event_kinds)] }
def LineWaysSaid : Prop := lineWaysRow.holds Tryd.pinned (OpenSpec.ofChange lineWaysSpec)

/-- ITS FALSE NEIGHBOUR: 'it returns false'. Refute it at one input. -/
def lineWaysWrong : ChangeSpec := { name := "lineWays", fn := fun _ => fun
  | [d1, d2] => { results := [.lit (.bool false)], args := [d1, d2] }
  | _ => none }
def LineWaysWrongFalsely : Prop := lineWaysRow.holds Tryd.pinned (OpenSpec.ofChange lineWaysWrong)

/- THE SECOND FORM. 'bulk': how many values and letters a reading holds, each counted each time it is reached (what is shared counts as often as it is met; a slice's spare places count too). A statement '..UptoSaid' is the law's where the arguments, and the package variables that the reading takes, are together of bulk at most 1048576: NARROWER than '..Said'. Prove '..Said' where nothing that the law and all that it calls make is longer than what came in: it says more and counts as full. Else prove '..UptoSaid'. A law counts once. -/
mutual
def uptoBulk {H : Type} : DataW H → Nat
  | .lit (.string bytes) => bytes.length + 1
  | .lit _ => 1
  | .nil => 1
  | .ptr d => uptoBulk d + 1
  | .slice elems spare => uptoBulkAll elems + uptoBulkAll spare + 1
  | .agg parts => uptoBulkAll parts + 1
  | .iface _ d => uptoBulk d + 1
  | .map entries => uptoBulkEntries entries + 1
  | .held _ => 1
def uptoBulkAll {H : Type} : List (DataW H) → Nat
  | [] => 0
  | d :: r => uptoBulk d + uptoBulkAll r
def uptoBulkEntries {H : Type} : List (Lit × DataW H) → Nat
  | [] => 0
  | x :: r => uptoBulkEntry x + uptoBulkEntries r
def uptoBulkEntry {H : Type} : Lit × DataW H → Nat
  | (.string bytes, d) => bytes.length + uptoBulk d + 1
  | (_, d) => uptoBulk d + 1
 end
def uptoSmall : (H : Type) → List (DataW H) → Bool := fun _ ds => decide (uptoBulkAll ds ≤ 1048576)
def OpenSpec.upto (s : _root_.Go.ChangeSpec) : _root_.Go.OpenSpec := { _root_.Go.OpenSpec.ofChange s with cond := some uptoSmall }

/-- 'transeptlaw15.LineOver', WHERE WHAT IT READS IS OF BULK AT MOST 1048576: true; the input reads as it did. -/
def lineOverUptoRow : OpenClaim := { program := "ytjflbjlkcifpdaadoor", sum := "659abe7584b9c6a60b909501af82c7d85c028b5b3e3d786c8163b8d51dd9ad31", func := "transept/transeptlaw15.LineOver", spec := "lineOver", named := ["transept/event.kinds"], apart := false, laid := [("transept/event.kinds", laid_transept_event_kinds)], narrowed := true }
def LineOverUptoSaid : Prop := lineOverUptoRow.holds Tryd.pinned (OpenSpec.upto lineOverSpec)

/-- 'transeptlaw15.LineApart', WHERE WHAT IT READS IS OF BULK AT MOST 1048576: true; the input reads as it did. -/
def lineApartUptoRow : OpenClaim := { program := "ytjflbjlkcifpdaadoor", sum := "659abe7584b9c6a60b909501af82c7d85c028b5b3e3d786c8163b8d51dd9ad31", func := "transept/transeptlaw15.LineApart", spec := "lineApart", named := ["transept/event.kinds"], apart := false, laid := [("transept/event.kinds", laid_transept_event_kinds)], narrowed := true }
def LineApartUptoSaid : Prop := lineApartUptoRow.holds Tryd.pinned (OpenSpec.upto lineApartSpec)

/-- 'transeptlaw15.LinePlays', WHERE WHAT IT READS IS OF BULK AT MOST 1048576: true; the input reads as it did. -/
def linePlaysUptoRow : OpenClaim := { program := "ytjflbjlkcifpdaadoor", sum := "659abe7584b9c6a60b909501af82c7d85c028b5b3e3d786c8163b8d51dd9ad31", func := "transept/transeptlaw15.LinePlays", spec := "linePlays", named := ["transept/event.kinds"], apart := false, laid := [("transept/event.kinds", laid_transept_event_kinds)], narrowed := true }
def LinePlaysUptoSaid : Prop := linePlaysUptoRow.holds Tryd.pinned (OpenSpec.upto linePlaysSpec)

/-- 'transeptlaw15.LineAgain', WHERE WHAT IT READS IS OF BULK AT MOST 1048576: true; the input reads as it did. -/
def lineAgainUptoRow : OpenClaim := { program := "ytjflbjlkcifpdaadoor", sum := "659abe7584b9c6a60b909501af82c7d85c028b5b3e3d786c8163b8d51dd9ad31", func := "transept/transeptlaw15.LineAgain", spec := "lineAgain", named := ["transept/event.kinds"], apart := false, laid := [("transept/event.kinds", laid_transept_event_kinds)], narrowed := true }
def LineAgainUptoSaid : Prop := lineAgainUptoRow.holds Tryd.pinned (OpenSpec.upto lineAgainSpec)

/-- 'transeptlaw15.LineLater', WHERE WHAT IT READS IS OF BULK AT MOST 1048576: true; the input reads as it did. -/
def lineLaterUptoRow : OpenClaim := { program := "ytjflbjlkcifpdaadoor", sum := "659abe7584b9c6a60b909501af82c7d85c028b5b3e3d786c8163b8d51dd9ad31", func := "transept/transeptlaw15.LineLater", spec := "lineLater", named := ["transept/event.kinds"], apart := false, laid := [("transept/event.kinds", laid_transept_event_kinds)], narrowed := true }
def LineLaterUptoSaid : Prop := lineLaterUptoRow.holds Tryd.pinned (OpenSpec.upto lineLaterSpec)

/-- 'transeptlaw15.LineWays', WHERE WHAT IT READS IS OF BULK AT MOST 1048576: true; the input reads as it did. -/
def lineWaysUptoRow : OpenClaim := { program := "ytjflbjlkcifpdaadoor", sum := "659abe7584b9c6a60b909501af82c7d85c028b5b3e3d786c8163b8d51dd9ad31", func := "transept/transeptlaw15.LineWays", spec := "lineWays", named := ["transept/event.kinds"], apart := false, laid := [("transept/event.kinds", laid_transept_event_kinds)], narrowed := true }
def LineWaysUptoSaid : Prop := lineWaysUptoRow.holds Tryd.pinned (OpenSpec.upto lineWaysSpec)

end Rows
end Go.Proofs.YtjflbjlkcifpdaaDoor
