/-
  NARROWER THAN 'FOR EVERY INPUT', by the rows' own cells (each row's printed sentence says how): EventWrites: laid · EventReads: laid · EventBack: laid · EventCuts: laid · EventFirst: laid · EventFields: laid · EventUnlike: laid · EventTimes: laid.
  DERIVED. THE GIVEN ROWS OF THIS SEAT. 8 by the template 'for every input the law returns true; each argument reads behind the call as it read before'; 0 by the template 'total and deterministic' (their statements: YtmlhlcdamppbfaaDoorTotals.lean).
  GIVEN WITH THE SEED: the statements are not yours to turn. If you find one false, say at which input.
  Laid BY PROGRAM, IN A SANDBOX (cutbox-rows.mjs): the forced cells as the released guide's own fill.sh prints them over the translation 4dbc83c8fda6845c… (all of the seat's roots in one cut). By AI agents, Wed Nov 11 2026. No macro, syntax, notation, axiom, sorry.
-/
import Derived.Test.YtmlhlcdamppbfaaDoorChecked
import GoSem.Claim
import GoSem.ClaimJoined
import GoSem.ClaimMapViews
import Derived.JoinedTies
import Derived.KernelRfl
namespace Go.Proofs.YtmlhlcdamppbfaaDoor
/- THE CELL 'sum', in the pinned program and in every row, IS THE sha256 OF THE DUMP (.gsa) THAT YtmlhlcdamppbfaaDoorProg.lean LOADS. Nothing in Lean hashes anything: it is a label: what it is worth is what the hold of that sum in a sandbox is worth. -/
noncomputable def Tryd.pinned : Pinned := { name := "ytmlhlcdamppbfaadoor", sum := "4dbc83c8fda6845c128a8d98883b16e99da060e8d96e75e315086aadbd072698", checked := Tryd.checked }
namespace Rows
def none {H : Type} : Left H := { results := [], args := [] }

/- WHAT THE LISTED PACKAGE-LEVEL VARIABLES READ AS WHEN THE CALL BEGINS. Each datum BY PROGRAM (the guide's laid-datum.mjs) off the statement by which the dump's own 'gosem.cut.vars' lays the variable. In a bare row this is a premise. The card (YtmlhlcdamppbfaaDoorCards.lean) ties it to the program's text. -/
def laid_transept_event_kinds {H : Type} : DataW H := .agg [.agg [.lit (.int .i64 0), .agg [.lit (.int .i64 0), .lit (.int .i64 0), .lit (.int .i64 0)]], .agg [.lit (.int .i64 1), .agg [.lit (.int .i64 0), .lit (.int .i64 0), .lit (.int .i64 0)]], .agg [.lit (.int .i64 1), .agg [.lit (.int .i64 0), .lit (.int .i64 0), .lit (.int .i64 0)]], .agg [.lit (.int .i64 4), .agg [.lit (.int .i64 4), .lit (.int .i64 3), .lit (.int .i64 3)]], .agg [.lit (.int .i64 2), .agg [.lit (.int .i64 0), .lit (.int .i64 0), .lit (.int .i64 0)]], .agg [.lit (.int .i64 0), .agg [.lit (.int .i64 0), .lit (.int .i64 0), .lit (.int .i64 0)]], .agg [.lit (.int .i64 2), .agg [.lit (.int .i64 0), .lit (.int .i64 0), .lit (.int .i64 0)]], .agg [.lit (.int .i64 0), .agg [.lit (.int .i64 1000), .lit (.int .i64 0), .lit (.int .i64 0)]], .agg [.lit (.int .i64 0), .agg [.lit (.int .i64 0), .lit (.int .i64 0), .lit (.int .i64 0)]], .agg [.lit (.int .i64 2), .agg [.lit (.int .i64 0), .lit (.int .i64 0), .lit (.int .i64 0)]], .agg [.lit (.int .i64 0), .agg [.lit (.int .i64 1000), .lit (.int .i64 0), .lit (.int .i64 0)]], .agg [.lit (.int .i64 1), .agg [.lit (.int .i64 0), .lit (.int .i64 0), .lit (.int .i64 0)]], .agg [.lit (.int .i64 1), .agg [.lit (.int .i64 0), .lit (.int .i64 0), .lit (.int .i64 0)]], .agg [.lit (.int .i64 0), .agg [.lit (.int .i64 0), .lit (.int .i64 0), .lit (.int .i64 0)]], .agg [.lit (.int .i64 0), .agg [.lit (.int .i64 4), .lit (.int .i64 0), .lit (.int .i64 0)]]]

/-- 'transeptlaw05.EventWrites': WHATEVER THE INPUT: true; the input reads as it did. -/
def eventWritesSpec : ChangeSpec := { name := "eventWrites", fn := fun _ => fun
  | [d] => { results := [.lit (.bool true)], args := [d] }
  | _ => none }
def eventWritesRow : OpenClaim := { program := "ytmlhlcdamppbfaadoor", sum := "4dbc83c8fda6845c128a8d98883b16e99da060e8d96e75e315086aadbd072698", func := "transept/transeptlaw05.EventWrites", spec := "eventWrites", unfollowed := true, recurses := true, named := ["transept/event.kinds"], apart := false, laid := [("transept/event.kinds", laid_transept_event_kinds)] }
def EventWritesSaid : Prop := eventWritesRow.holds Tryd.pinned (OpenSpec.ofChange eventWritesSpec)

/-- ITS FALSE NEIGHBOUR: 'it returns false'. Refute it at one input. -/
def eventWritesWrong : ChangeSpec := { name := "eventWrites", fn := fun _ => fun
  | [d] => { results := [.lit (.bool false)], args := [d] }
  | _ => none }
def EventWritesWrongFalsely : Prop := eventWritesRow.holds Tryd.pinned (OpenSpec.ofChange eventWritesWrong)

/-- 'transeptlaw05.EventReads': WHATEVER THE INPUT: true; the input reads as it did. -/
def eventReadsSpec : ChangeSpec := { name := "eventReads", fn := fun _ => fun
  | [d] => { results := [.lit (.bool true)], args := [d] }
  | _ => none }
def eventReadsRow : OpenClaim := { program := "ytmlhlcdamppbfaadoor", sum := "4dbc83c8fda6845c128a8d98883b16e99da060e8d96e75e315086aadbd072698", func := "transept/transeptlaw05.EventReads", spec := "eventReads", unfollowed := true, recurses := true, named := ["transept/event.kinds"], apart := false, laid := [("transept/event.kinds", laid_transept_event_kinds)] }
def EventReadsSaid : Prop := eventReadsRow.holds Tryd.pinned (OpenSpec.ofChange eventReadsSpec)

/-- ITS FALSE NEIGHBOUR: 'it returns false'. Refute it at one input. -/
def eventReadsWrong : ChangeSpec := { name := "eventReads", fn := fun _ => fun
  | [d] => { results := [.lit (.bool false)], args := [d] }
  | _ => none }
def EventReadsWrongFalsely : Prop := eventReadsRow.holds Tryd.pinned (OpenSpec.ofChange eventReadsWrong)

/-- 'transeptlaw05.EventBack': WHATEVER THE INPUT: true; the input reads as it did. -/
def eventBackSpec : ChangeSpec := { name := "eventBack", fn := fun _ => fun
  | [d1, d2] => { results := [.lit (.bool true)], args := [d1, d2] }
  | _ => none }
def eventBackRow : OpenClaim := { program := "ytmlhlcdamppbfaadoor", sum := "4dbc83c8fda6845c128a8d98883b16e99da060e8d96e75e315086aadbd072698", func := "transept/transeptlaw05.EventBack", spec := "eventBack", unfollowed := true, recurses := true, named := ["transept/event.kinds"], apart := false, laid := [("transept/event.kinds", laid_transept_event_kinds)] }
def EventBackSaid : Prop := eventBackRow.holds Tryd.pinned (OpenSpec.ofChange eventBackSpec)

/-- ITS FALSE NEIGHBOUR: 'it returns false'. Refute it at one input. -/
def eventBackWrong : ChangeSpec := { name := "eventBack", fn := fun _ => fun
  | [d1, d2] => { results := [.lit (.bool false)], args := [d1, d2] }
  | _ => none }
def EventBackWrongFalsely : Prop := eventBackRow.holds Tryd.pinned (OpenSpec.ofChange eventBackWrong)

/-- 'transeptlaw05.EventCuts': WHATEVER THE INPUT: true; the input reads as it did. -/
def eventCutsSpec : ChangeSpec := { name := "eventCuts", fn := fun _ => fun
  | [d1, d2, d3] => { results := [.lit (.bool true)], args := [d1, d2, d3] }
  | _ => none }
def eventCutsRow : OpenClaim := { program := "ytmlhlcdamppbfaadoor", sum := "4dbc83c8fda6845c128a8d98883b16e99da060e8d96e75e315086aadbd072698", func := "transept/transeptlaw05.EventCuts", spec := "eventCuts", unfollowed := true, recurses := true, named := ["transept/event.kinds"], apart := false, laid := [("transept/event.kinds", laid_transept_event_kinds)] }
def EventCutsSaid : Prop := eventCutsRow.holds Tryd.pinned (OpenSpec.ofChange eventCutsSpec)

/-- ITS FALSE NEIGHBOUR: 'it returns false'. Refute it at one input. -/
def eventCutsWrong : ChangeSpec := { name := "eventCuts", fn := fun _ => fun
  | [d1, d2, d3] => { results := [.lit (.bool false)], args := [d1, d2, d3] }
  | _ => none }
def EventCutsWrongFalsely : Prop := eventCutsRow.holds Tryd.pinned (OpenSpec.ofChange eventCutsWrong)

/-- 'transeptlaw05.EventFirst': WHATEVER THE INPUT: true; the input reads as it did. -/
def eventFirstSpec : ChangeSpec := { name := "eventFirst", fn := fun _ => fun
  | [d1, d2] => { results := [.lit (.bool true)], args := [d1, d2] }
  | _ => none }
def eventFirstRow : OpenClaim := { program := "ytmlhlcdamppbfaadoor", sum := "4dbc83c8fda6845c128a8d98883b16e99da060e8d96e75e315086aadbd072698", func := "transept/transeptlaw05.EventFirst", spec := "eventFirst", unfollowed := true, recurses := true, named := ["transept/event.kinds"], apart := false, laid := [("transept/event.kinds", laid_transept_event_kinds)] }
def EventFirstSaid : Prop := eventFirstRow.holds Tryd.pinned (OpenSpec.ofChange eventFirstSpec)

/-- ITS FALSE NEIGHBOUR: 'it returns false'. Refute it at one input. -/
def eventFirstWrong : ChangeSpec := { name := "eventFirst", fn := fun _ => fun
  | [d1, d2] => { results := [.lit (.bool false)], args := [d1, d2] }
  | _ => none }
def EventFirstWrongFalsely : Prop := eventFirstRow.holds Tryd.pinned (OpenSpec.ofChange eventFirstWrong)

/-- 'transeptlaw05.EventFields': WHATEVER THE INPUT: true; the input reads as it did. -/
def eventFieldsSpec : ChangeSpec := { name := "eventFields", fn := fun _ => fun
  | [d1, d2, d3, d4] => { results := [.lit (.bool true)], args := [d1, d2, d3, d4] }
  | _ => none }
def eventFieldsRow : OpenClaim := { program := "ytmlhlcdamppbfaadoor", sum := "4dbc83c8fda6845c128a8d98883b16e99da060e8d96e75e315086aadbd072698", func := "transept/transeptlaw05.EventFields", spec := "eventFields", unfollowed := true, recurses := true, named := ["transept/event.kinds"], apart := false, laid := [("transept/event.kinds", laid_transept_event_kinds)] }
def EventFieldsSaid : Prop := eventFieldsRow.holds Tryd.pinned (OpenSpec.ofChange eventFieldsSpec)

/-- ITS FALSE NEIGHBOUR: 'it returns false'. Refute it at one input. -/
def eventFieldsWrong : ChangeSpec := { name := "eventFields", fn := fun _ => fun
  | [d1, d2, d3, d4] => { results := [.lit (.bool false)], args := [d1, d2, d3, d4] }
  | _ => none }
def EventFieldsWrongFalsely : Prop := eventFieldsRow.holds Tryd.pinned (OpenSpec.ofChange eventFieldsWrong)

/-- 'transeptlaw05.EventUnlike': WHATEVER THE INPUT: true; the input reads as it did. -/
def eventUnlikeSpec : ChangeSpec := { name := "eventUnlike", fn := fun _ => fun
  | [d1, d2] => { results := [.lit (.bool true)], args := [d1, d2] }
  | _ => none }
def eventUnlikeRow : OpenClaim := { program := "ytmlhlcdamppbfaadoor", sum := "4dbc83c8fda6845c128a8d98883b16e99da060e8d96e75e315086aadbd072698", func := "transept/transeptlaw05.EventUnlike", spec := "eventUnlike", unfollowed := true, recurses := true, named := ["transept/event.kinds"], apart := false, laid := [("transept/event.kinds", laid_transept_event_kinds)] }
def EventUnlikeSaid : Prop := eventUnlikeRow.holds Tryd.pinned (OpenSpec.ofChange eventUnlikeSpec)

/-- ITS FALSE NEIGHBOUR: 'it returns false'. Refute it at one input. -/
def eventUnlikeWrong : ChangeSpec := { name := "eventUnlike", fn := fun _ => fun
  | [d1, d2] => { results := [.lit (.bool false)], args := [d1, d2] }
  | _ => none }
def EventUnlikeWrongFalsely : Prop := eventUnlikeRow.holds Tryd.pinned (OpenSpec.ofChange eventUnlikeWrong)

/-- 'transeptlaw05.EventTimes': WHATEVER THE INPUT: true; the input reads as it did. -/
def eventTimesSpec : ChangeSpec := { name := "eventTimes", fn := fun _ => fun
  | [d1, d2, d3, d4, d5] => { results := [.lit (.bool true)], args := [d1, d2, d3, d4, d5] }
  | _ => none }
def eventTimesRow : OpenClaim := { program := "ytmlhlcdamppbfaadoor", sum := "4dbc83c8fda6845c128a8d98883b16e99da060e8d96e75e315086aadbd072698", func := "transept/transeptlaw05.EventTimes", spec := "eventTimes", unfollowed := true, recurses := true, named := ["transept/event.kinds"], apart := false, laid := [("transept/event.kinds", laid_transept_event_kinds)] }
def EventTimesSaid : Prop := eventTimesRow.holds Tryd.pinned (OpenSpec.ofChange eventTimesSpec)

/-- ITS FALSE NEIGHBOUR: 'it returns false'. Refute it at one input. -/
def eventTimesWrong : ChangeSpec := { name := "eventTimes", fn := fun _ => fun
  | [d1, d2, d3, d4, d5] => { results := [.lit (.bool false)], args := [d1, d2, d3, d4, d5] }
  | _ => none }
def EventTimesWrongFalsely : Prop := eventTimesRow.holds Tryd.pinned (OpenSpec.ofChange eventTimesWrong)

/- THE SECOND FORM. 'bulk': how many values and letters a reading holds, each counted each time it is reached (what is shared counts as often as it is met; a slice's spare places count too). A statement '..UptoSaid' is the law's where the arguments, and the package variables that the reading takes, are together of bulk at most 1048576: NARROWER than '..Said'. Prove '..Said' where nothing that the law and all that it calls make is longer than what came in: it says more and counts as full. Else prove '..UptoSaid'. A law counts once. -/
mutual
def uptoBulk {H : Type} : DataW H → Nat
  | .lit (.string bytes) => bytes.length + 1
  | .lit _ => 1
  | .nil => 1
  | .ptr d => uptoBulk d + 1
  | .slice elems spare => uptoBulkAll elems + uptoBulkAll spare + 1
  | .agg parts => uptoBulkAll parts + 1
  | .iface _ d => uptoBulk d + 1
  | .map entries => uptoBulkEntries entries + 1
  | .held _ => 1
def uptoBulkAll {H : Type} : List (DataW H) → Nat
  | [] => 0
  | d :: r => uptoBulk d + uptoBulkAll r
def uptoBulkEntries {H : Type} : List (Lit × DataW H) → Nat
  | [] => 0
  | x :: r => uptoBulkEntry x + uptoBulkEntries r
def uptoBulkEntry {H : Type} : Lit × DataW H → Nat
  | (.string bytes, d) => bytes.length + uptoBulk d + 1
  | (_, d) => uptoBulk d + 1
 end
def uptoSmall : (H : Type) → List (DataW H) → Bool := fun _ ds => decide (uptoBulkAll ds ≤ 1048576)
def OpenSpec.upto (s : _root_.Go.ChangeSpec) : _root_.Go.OpenSpec := { _root_.Go.OpenSpec.ofChange s with cond := some uptoSmall }

/-- 'transeptlaw05.EventWrites', WHERE WHAT IT READS IS OF BULK AT MOST 1048576: true; the input reads as it did. -/
def eventWritesUptoRow : OpenClaim := { program := "ytmlhlcdamppbfaadoor", sum := "4dbc83c8fda6845c128a8d98883b16e99da060e8d96e75e315086aadbd072698", func := "transept/transeptlaw05.EventWrites", spec := "eventWrites", unfollowed := true, recurses := true, named := ["transept/event.kinds"], apart := false, laid := [("transept/event.kinds", laid_transept_event_kinds)], narrowed := true }
def EventWritesUptoSaid : Prop := eventWritesUptoRow.holds Tryd.pinned (OpenSpec.upto eventWritesSpec)

/-- 'transeptlaw05.EventReads', WHERE WHAT IT READS IS OF BULK AT MOST 1048576: true; the input reads as it did. -/
def eventReadsUptoRow : OpenClaim := { program := "ytmlhlcdamppbfaadoor", sum := "4dbc83c8fda6845c128a8d98883b16e99da060e8d96e75e315086aadbd072698", func := "transept/transeptlaw05.EventReads", spec := "eventReads", unfollowed := true, recurses := true, named := ["transept/event.kinds"], apart := false, laid := [("transept/event.kinds", laid_transept_event_kinds)], narrowed := true }
def EventReadsUptoSaid : Prop := eventReadsUptoRow.holds Tryd.pinned (OpenSpec.upto eventReadsSpec)

/-- 'transeptlaw05.EventBack', WHERE WHAT IT READS IS OF BULK AT MOST 1048576: true; the input reads as it did. -/
def eventBackUptoRow : OpenClaim := { program := "ytmlhlcdamppbfaadoor", sum := "4dbc83c8fda6845c128a8d98883b16e99da060e8d96e75e315086aadbd072698", func := "transept/transeptlaw05.EventBack", spec := "eventBack", unfollowed := true, recurses := true, named := ["transept/event.kinds"], apart := false, laid := [("transept/event.kinds", laid_transept_event_kinds)], narrowed := true }
def EventBackUptoSaid : Prop := eventBackUptoRow.holds Tryd.pinned (OpenSpec.upto eventBackSpec)

/-- 'transeptlaw05.EventCuts', WHERE WHAT IT READS IS OF BULK AT MOST 1048576: true; the input reads as it did. -/
def eventCutsUptoRow : OpenClaim := { program := "ytmlhlcdamppbfaadoor", sum := "4dbc83c8fda6845c128a8d98883b16e99da060e8d96e75e315086aadbd072698", func := "transept/transeptlaw05.EventCuts", spec := "eventCuts", unfollowed := true, recurses := true, named := ["transept/event.kinds"], apart := false, laid := [("transept/event.kinds", laid_transept_event_kinds)], narrowed := true }
def EventCutsUptoSaid : Prop := eventCutsUptoRow.holds Tryd.pinned (OpenSpec.upto eventCutsSpec)

/-- 'transeptlaw05.EventFirst', WHERE WHAT IT READS IS OF BULK AT MOST 1048576: true; the input reads as it did. -/
def eventFirstUptoRow : OpenClaim := { program := "ytmlhlcdamppbfaadoor", sum := "4dbc83c8fda6845c128a8d98883b16e99da060e8d96e75e315086aadbd072698", func := "transept/transeptlaw05.EventFirst", spec := "eventFirst", unfollowed := true, recurses := true, named := ["transept/event.kinds"], apart := false, laid := [("transept/event.kinds", laid_transept_event_kinds)], narrowed := true }
def EventFirstUptoSaid : Prop := eventFirstUptoRow.holds Tryd.pinned (OpenSpec.upto eventFirstSpec)

/-- 'transeptlaw05.EventFields', WHERE WHAT IT READS IS OF BULK AT MOST 1048576: true; the input reads as it did. -/
def eventFieldsUptoRow : OpenClaim := { program := "ytmlhlcdamppbfaadoor", sum := "4dbc83c8fda6845c128a8d98883b16e99da060e8d96e75e315086aadbd072698", func := "transept/transeptlaw05.EventFields", spec := "eventFields", unfollowed := true, recurses := true, named := ["transept/event.kinds"], apart := false, laid := [("transept/event.kinds", laid_transept_event_kinds)], narrowed := true }
def EventFieldsUptoSaid : Prop := eventFieldsUptoRow.holds Tryd.pinned (OpenSpec.upto eventFieldsSpec)

/-- 'transeptlaw05.EventUnlike', WHERE WHAT IT READS IS OF BULK AT MOST 1048576: true; the input reads as it did. -/
def eventUnlikeUptoRow : OpenClaim := { program := "ytmlhlcdamppbfaadoor", sum := "4dbc83c8fda6845c128a8d98883b16e99da060e8d96e75e315086aadbd072698", func := "transept/transeptlaw05.EventUnlike", spec := "eventUnlike", unfollowed := true, recurses := true, named := ["transept/event.kinds"], apart := false, laid := [("transept/event.kinds", laid_transept_event_kinds)], narrowed := true }
def EventUnlikeUptoSaid : Prop := eventUnlikeUptoRow.holds Tryd.pinned (OpenSpec.upto eventUnlikeSpec)

/-- 'transeptlaw05.EventTimes', WHERE WHAT IT READS IS OF BULK AT MOST 1048576: true; the input reads as it did. -/
def eventTimesUptoRow : OpenClaim := { program := "ytmlhlcdamppbfaadoor", sum := "4dbc83c8fda6845c128a8d98883b16e99da060e8d96e75e315086aadbd072698", func := "transept/transeptlaw05.EventTimes", spec := "eventTimes", unfollowed := true, recurses := true, named := ["transept/event.kinds"], apart := false, laid := [("transept/event.kinds", laid_transept_event_kinds)], narrowed := true }
def EventTimesUptoSaid : Prop := eventTimesUptoRow.holds Tryd.pinned (OpenSpec.upto eventTimesSpec)

end Rows
end Go.Proofs.YtmlhlcdamppbfaaDoor
