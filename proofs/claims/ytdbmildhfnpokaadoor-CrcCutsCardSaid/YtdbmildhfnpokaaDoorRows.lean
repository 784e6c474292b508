/-
  NARROWER THAN 'FOR EVERY INPUT', by the rows' own cells (each row's printed sentence says how): CrcTells: laid · CrcCuts: laid · CrcOne: laid · CrcFours: laid · CrcMixed: laid · CrcRests: laid.
  DERIVED. THE GIVEN ROWS OF THIS SEAT. 6 by the template 'for every input the law returns true; each argument reads behind the call as it read before'; 0 by the template 'total and deterministic' (their statements: YtdbmildhfnpokaaDoorTotals.lean).
  GIVEN WITH THE SEED: the statements are not yours to turn. If you find one false, say at which input.
  Laid BY PROGRAM, IN A SANDBOX (cutbox-rows.mjs): the forced cells as the released guide's own fill.sh prints them over the translation 22a7d704fa465d86… (all of the seat's roots in one cut). By AI agents, Wed Nov 11 2026. No macro, syntax, notation, axiom, sorry.
-/
import Derived.Test.YtdbmildhfnpokaaDoorChecked
import GoSem.Claim
import GoSem.ClaimJoined
import GoSem.ClaimMapViews
import Derived.JoinedTies
import Derived.KernelRfl
namespace Go.Proofs.YtdbmildhfnpokaaDoor
/- THE CELL 'sum', in the pinned program and in every row, IS THE sha256 OF THE DUMP (.gsa) THAT YtdbmildhfnpokaaDoorProg.lean LOADS. Nothing in Lean hashes anything: it is a label: what it is worth is what the hold of that sum in a sandbox is worth. -/
noncomputable def Tryd.pinned : Pinned := { name := "ytdbmildhfnpokaadoor", sum := "22a7d704fa465d86348c3e37b79d0cc271e0d35ed0e353218c97b21e0c005cee", checked := Tryd.checked }
namespace Rows
def none {H : Type} : Left H := { results := [], args := [] }

/- WHAT THE LISTED PACKAGE-LEVEL VARIABLES READ AS WHEN THE CALL BEGINS. Each datum BY PROGRAM (the guide's laid-datum.mjs) off the statement by which the dump's own 'gosem.cut.vars' lays the variable. In a bare row this is a premise. The card (YtdbmildhfnpokaaDoorCards.lean) ties it to the program's text. -/
def laid_transept_crc_halves {H : Type} : DataW H := .agg [.lit (.int .u32 0), .lit (.int .u32 498536548), .lit (.int .u32 997073096), .lit (.int .u32 651767980), .lit (.int .u32 1994146192), .lit (.int .u32 1802195444), .lit (.int .u32 1303535960), .lit (.int .u32 1342533948), .lit (.int .u32 3988292384), .lit (.int .u32 4027552580), .lit (.int .u32 3604390888), .lit (.int .u32 3412177804), .lit (.int .u32 2607071920), .lit (.int .u32 2262029012), .lit (.int .u32 2685067896), .lit (.int .u32 3183342108)]

/-- 'transeptlaw02.CrcTells': WHATEVER THE INPUT: true; the input reads as it did. -/
def crcTellsSpec : ChangeSpec := { name := "crcTells", fn := fun _ => fun
  | [d1, d2] => { results := [.lit (.bool true)], args := [d1, d2] }
  | _ => none }
def crcTellsRow : OpenClaim := { program := "ytdbmildhfnpokaadoor", sum := "22a7d704fa465d86348c3e37b79d0cc271e0d35ed0e353218c97b21e0c005cee", func := "transept/transeptlaw02.CrcTells", spec := "crcTells", named := ["transept/crc.halves"], apart := false, laid := [("transept/crc.halves", laid_transept_crc_halves)] }
def CrcTellsSaid : Prop := crcTellsRow.holds Tryd.pinned (OpenSpec.ofChange crcTellsSpec)

/-- ITS FALSE NEIGHBOUR: 'it returns false'. Refute it at one input. -/
def crcTellsWrong : ChangeSpec := { name := "crcTells", fn := fun _ => fun
  | [d1, d2] => { results := [.lit (.bool false)], args := [d1, d2] }
  | _ => none }
def CrcTellsWrongFalsely : Prop := crcTellsRow.holds Tryd.pinned (OpenSpec.ofChange crcTellsWrong)

/-- 'transeptlaw02.CrcCuts': WHATEVER THE INPUT: true; the input reads as it did. -/
def crcCutsSpec : ChangeSpec := { name := "crcCuts", fn := fun _ => fun
  | [d1, d2, d3] => { results := [.lit (.bool true)], args := [d1, d2, d3] }
  | _ => none }
def crcCutsRow : OpenClaim := { program := "ytdbmildhfnpokaadoor", sum := "22a7d704fa465d86348c3e37b79d0cc271e0d35ed0e353218c97b21e0c005cee", func := "transept/transeptlaw02.CrcCuts", spec := "crcCuts", named := ["transept/crc.halves"], apart := false, laid := [("transept/crc.halves", laid_transept_crc_halves)] }
def CrcCutsSaid : Prop := crcCutsRow.holds Tryd.pinned (OpenSpec.ofChange crcCutsSpec)

/-- ITS FALSE NEIGHBOUR: 'it returns false'. Refute it at one input. -/
def crcCutsWrong : ChangeSpec := { name := "crcCuts", fn := fun _ => fun
  | [d1, d2, d3] => { results := [.lit (.bool false)], args := [d1, d2, d3] }
  | _ => none }
def CrcCutsWrongFalsely : Prop := crcCutsRow.holds Tryd.pinned (OpenSpec.ofChange crcCutsWrong)

/-- 'transeptlaw02.CrcOne': WHATEVER THE INPUT: true; the input reads as it did. -/
def crcOneSpec : ChangeSpec := { name := "crcOne", fn := fun _ => fun
  | [d1, d2, d3] => { results := [.lit (.bool true)], args := [d1, d2, d3] }
  | _ => none }
def crcOneRow : OpenClaim := { program := "ytdbmildhfnpokaadoor", sum := "22a7d704fa465d86348c3e37b79d0cc271e0d35ed0e353218c97b21e0c005cee", func := "transept/transeptlaw02.CrcOne", spec := "crcOne", named := ["transept/crc.halves"], apart := false, laid := [("transept/crc.halves", laid_transept_crc_halves)] }
def CrcOneSaid : Prop := crcOneRow.holds Tryd.pinned (OpenSpec.ofChange crcOneSpec)

/-- ITS FALSE NEIGHBOUR: 'it returns false'. Refute it at one input. -/
def crcOneWrong : ChangeSpec := { name := "crcOne", fn := fun _ => fun
  | [d1, d2, d3] => { results := [.lit (.bool false)], args := [d1, d2, d3] }
  | _ => none }
def CrcOneWrongFalsely : Prop := crcOneRow.holds Tryd.pinned (OpenSpec.ofChange crcOneWrong)

/-- 'transeptlaw02.CrcFours': WHATEVER THE INPUT: true; the input reads as it did. -/
def crcFoursSpec : ChangeSpec := { name := "crcFours", fn := fun _ => fun
  | [d1, d2, d3] => { results := [.lit (.bool true)], args := [d1, d2, d3] }
  | _ => none }
def crcFoursRow : OpenClaim := { program := "ytdbmildhfnpokaadoor", sum := "22a7d704fa465d86348c3e37b79d0cc271e0d35ed0e353218c97b21e0c005cee", func := "transept/transeptlaw02.CrcFours", spec := "crcFours", named := ["transept/crc.halves"], apart := false, laid := [("transept/crc.halves", laid_transept_crc_halves)] }
def CrcFoursSaid : Prop := crcFoursRow.holds Tryd.pinned (OpenSpec.ofChange crcFoursSpec)

/-- ITS FALSE NEIGHBOUR: 'it returns false'. Refute it at one input. -/
def crcFoursWrong : ChangeSpec := { name := "crcFours", fn := fun _ => fun
  | [d1, d2, d3] => { results := [.lit (.bool false)], args := [d1, d2, d3] }
  | _ => none }
def CrcFoursWrongFalsely : Prop := crcFoursRow.holds Tryd.pinned (OpenSpec.ofChange crcFoursWrong)

/-- 'transeptlaw02.CrcMixed': WHATEVER THE INPUT: true; the input reads as it did. -/
def crcMixedSpec : ChangeSpec := { name := "crcMixed", fn := fun _ => fun
  | [d1, d2, d3] => { results := [.lit (.bool true)], args := [d1, d2, d3] }
  | _ => none }
def crcMixedRow : OpenClaim := { program := "ytdbmildhfnpokaadoor", sum := "22a7d704fa465d86348c3e37b79d0cc271e0d35ed0e353218c97b21e0c005cee", func := "transept/transeptlaw02.CrcMixed", spec := "crcMixed", named := ["transept/crc.halves"], apart := false, laid := [("transept/crc.halves", laid_transept_crc_halves)] }
def CrcMixedSaid : Prop := crcMixedRow.holds Tryd.pinned (OpenSpec.ofChange crcMixedSpec)

/-- ITS FALSE NEIGHBOUR: 'it returns false'. Refute it at one input. -/
def crcMixedWrong : ChangeSpec := { name := "crcMixed", fn := fun _ => fun
  | [d1, d2, d3] => { results := [.lit (.bool false)], args := [d1, d2, d3] }
  | _ => none }
def CrcMixedWrongFalsely : Prop := crcMixedRow.holds Tryd.pinned (OpenSpec.ofChange crcMixedWrong)

/-- 'transeptlaw02.CrcRests': WHATEVER THE INPUT: true; the input reads as it did. -/
def crcRestsSpec : ChangeSpec := { name := "crcRests", fn := fun _ => fun
  | [d1, d2] => { results := [.lit (.bool true)], args := [d1, d2] }
  | _ => none }
def crcRestsRow : OpenClaim := { program := "ytdbmildhfnpokaadoor", sum := "22a7d704fa465d86348c3e37b79d0cc271e0d35ed0e353218c97b21e0c005cee", func := "transept/transeptlaw02.CrcRests", spec := "crcRests", named := ["transept/crc.halves"], apart := false, laid := [("transept/crc.halves", laid_transept_crc_halves)] }
def CrcRestsSaid : Prop := crcRestsRow.holds Tryd.pinned (OpenSpec.ofChange crcRestsSpec)

/-- ITS FALSE NEIGHBOUR: 'it returns false'. Refute it at one input. -/
def crcRestsWrong : ChangeSpec := { name := "crcRests", fn := fun _ => fun
  | [d1, d2] => { results := [.lit (.bool false)], args := [d1, d2] }
  | _ => none }
def CrcRestsWrongFalsely : Prop := crcRestsRow.holds Tryd.pinned (OpenSpec.ofChange crcRestsWrong)

/- THE SECOND FORM. 'bulk': how many values and letters a reading holds, each counted each time it is reached (what is shared counts as often as it is met; a slice's spare places count too). A statement '..UptoSaid' is the law's where the arguments, and the package variables that the reading takes, are together of bulk at most 1048576: NARROWER than '..Said'. Prove '..Said' where nothing that the law and all that it calls make is longer than what came in: it says more and counts as full. Else prove '..UptoSaid'. A law counts once. -/
mutual
def uptoBulk {H : Type} : DataW H → Nat
  | .lit (.string bytes) => bytes.length + 1
  | .lit _ => 1
  | .nil => 1
  | .ptr d => uptoBulk d + 1
  | .slice elems spare => uptoBulkAll elems + uptoBulkAll spare + 1
  | .agg parts => uptoBulkAll parts + 1
  | .iface _ d => uptoBulk d + 1
  | .map entries => uptoBulkEntries entries + 1
  | .held _ => 1
def uptoBulkAll {H : Type} : List (DataW H) → Nat
  | [] => 0
  | d :: r => uptoBulk d + uptoBulkAll r
def uptoBulkEntries {H : Type} : List (Lit × DataW H) → Nat
  | [] => 0
  | x :: r => uptoBulkEntry x + uptoBulkEntries r
def uptoBulkEntry {H : Type} : Lit × DataW H → Nat
  | (.string bytes, d) => bytes.length + uptoBulk d + 1
  | (_, d) => uptoBulk d + 1
 end
def uptoSmall : (H : Type) → List (DataW H) → Bool := fun _ ds => decide (uptoBulkAll ds ≤ 1048576)
def OpenSpec.upto (s : _root_.Go.ChangeSpec) : _root_.Go.OpenSpec := { _root_.Go.OpenSpec.ofChange s with cond := some uptoSmall }

/-- 'transeptlaw02.CrcTells', WHERE WHAT IT READS IS OF BULK AT MOST 1048576: true; the input reads as it did. -/
def crcTellsUptoRow : OpenClaim := { program := "ytdbmildhfnpokaadoor", sum := "22a7d704fa465d86348c3e37b79d0cc271e0d35ed0e353218c97b21e0c005cee", func := "transept/transeptlaw02.CrcTells", spec := "crcTells", named := ["transept/crc.halves"], apart := false, laid := [("transept/crc.halves", laid_transept_crc_halves)], narrowed := true }
def CrcTellsUptoSaid : Prop := crcTellsUptoRow.holds Tryd.pinned (OpenSpec.upto crcTellsSpec)

/-- 'transeptlaw02.CrcCuts', WHERE WHAT IT READS IS OF BULK AT MOST 1048576: true; the input reads as it did. -/
def crcCutsUptoRow : OpenClaim := { program := "ytdbmildhfnpokaadoor", sum := "22a7d704fa465d86348c3e37b79d0cc271e0d35ed0e353218c97b21e0c005cee", func := "transept/transeptlaw02.CrcCuts", spec := "crcCuts", named := ["transept/crc.halves"], apart := false, laid := [("transept/crc.halves", laid_transept_crc_halves)], narrowed := true }
def CrcCutsUptoSaid : Prop := crcCutsUptoRow.holds Tryd.pinned (OpenSpec.upto crcCutsSpec)

/-- 'transeptlaw02.CrcOne', WHERE WHAT IT READS IS OF BULK AT MOST 1048576: true; the input reads as it did. -/
def crcOneUptoRow : OpenClaim := { program := "ytdbmildhfnpokaadoor", sum := "22a7d704fa465d86348c3e37b79d0cc271e0d35ed0e353218c97b21e0c005cee", func := "transept/transeptlaw02.CrcOne", spec := "crcOne", named := ["transept/crc.halves"], apart := false, laid := [("transept/crc.halves", laid_transept_crc_halves)], narrowed := true }
def CrcOneUptoSaid : Prop := crcOneUptoRow.holds Tryd.pinned (OpenSpec.upto crcOneSpec)

/-- 'transeptlaw02.CrcFours', WHERE WHAT IT READS IS OF BULK AT MOST 1048576: true; the input reads as it did. -/
def crcFoursUptoRow : OpenClaim := { program := "ytdbmildhfnpokaadoor", sum := "22a7d704fa465d86348c3e37b79d0cc271e0d35ed0e353218c97b21e0c005cee", func := "transept/transeptlaw02.CrcFours", spec := "crcFours", named := ["transept/crc.halves"], apart := false, laid := [("transept/crc.halves", laid_transept_crc_halves)], narrowed := true }
def CrcFoursUptoSaid : Prop := crcFoursUptoRow.holds Tryd.pinned (OpenSpec.upto crcFoursSpec)

/-- 'transeptlaw02.CrcMixed', WHERE WHAT IT READS IS OF BULK AT MOST 1048576: true; the input reads as it did. -/
def crcMixedUptoRow : OpenClaim := { program := "ytdbmildhfnpokaadoor", sum := "22a7d704fa465d86348c3e37b79d0cc271e0d35ed0e353218c97b21e0c005cee", func := "transept/transeptlaw02.CrcMixed", spec := "crcMixed", named := ["transept/crc.halves"], apart := false, laid := [("transept/crc.halves", laid_transept_crc_halves)], narrowed := true }
def CrcMixedUptoSaid : Prop := crcMixedUptoRow.holds Tryd.pinned (OpenSpec.upto crcMixedSpec)

/-- 'transeptlaw02.CrcRests', WHERE WHAT IT READS IS OF BULK AT MOST 1048576: true; the input reads as it did. -/
def crcRestsUptoRow : OpenClaim := { program := "ytdbmildhfnpokaadoor", sum := "22a7d704fa465d86348c3e37b79d0cc271e0d35ed0e353218c97b21e0c005cee", func := "transept/transeptlaw02.CrcRests", spec := "crcRests", named := ["transept/crc.halves"], apart := false, laid := [("transept/crc.halves", laid_transept_crc_halves)], narrowed := true }
def CrcRestsUptoSaid : Prop := crcRestsUptoRow.holds Tryd.pinned (OpenSpec.upto crcRestsSpec)

end Rows
end Go.Proofs.YtdbmildhfnpokaaDoor
