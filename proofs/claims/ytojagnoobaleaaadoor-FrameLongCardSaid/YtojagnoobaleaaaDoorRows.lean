/-
  NARROWER THAN 'FOR EVERY INPUT', by the rows' own cells (each row's printed sentence says how): FrameReads: laid · FrameWrites: laid · FrameBack: laid · FrameCuts: laid · FrameFirst: laid · FrameLimits: laid · FrameLong: laid · FrameJoins: laid · FrameTurned: laid · FrameOwn: laid.
  DERIVED. THE GIVEN ROWS OF THIS SEAT. 10 by the template 'for every input the law returns true; each argument reads behind the call as it read before'; 0 by the template 'total and deterministic' (their statements: YtojagnoobaleaaaDoorTotals.lean).
  GIVEN WITH THE SEED: the statements are not yours to turn. If you find one false, say at which input.
  Laid BY PROGRAM, IN A SANDBOX (cutbox-rows.mjs): the forced cells as the released guide's own fill.sh prints them over the translation edc9b7ab50f61266… (all of the seat's roots in one cut). By AI agents, Wed Nov 11 2026. No macro, syntax, notation, axiom, sorry.
-/
import Derived.Test.YtojagnoobaleaaaDoorChecked
import GoSem.Claim
import GoSem.ClaimJoined
import GoSem.ClaimMapViews
import Derived.JoinedTies
import Derived.KernelRfl
namespace Go.Proofs.YtojagnoobaleaaaDoor
/- THE CELL 'sum', in the pinned program and in every row, IS THE sha256 OF THE DUMP (.gsa) THAT YtojagnoobaleaaaDoorProg.lean LOADS. Nothing in Lean hashes anything: it is a label: what it is worth is what the hold of that sum in a sandbox is worth. -/
noncomputable def Tryd.pinned : Pinned := { name := "ytojagnoobaleaaadoor", sum := "edc9b7ab50f61266d5274eb587bcae39acf1959ee4a3303b1ea5ff53df402714", checked := Tryd.checked }
namespace Rows
def none {H : Type} : Left H := { results := [], args := [] }

/- WHAT THE LISTED PACKAGE-LEVEL VARIABLES READ AS WHEN THE CALL BEGINS. Each datum BY PROGRAM (the guide's laid-datum.mjs) off the statement by which the dump's own 'gosem.cut.vars' lays the variable. In a bare row this is a premise. The card (YtojagnoobaleaaaDoorCards.lean) ties it to the program's text. -/
def laid_transept_crc_halves {H : Type} : DataW H := .agg [.lit (.int .u32 0), .lit (.int .u32 498536548), .lit (.int .u32 997073096), .lit (.int .u32 651767980), .lit (.int .u32 1994146192), .lit (.int .u32 1802195444), .lit (.int .u32 1303535960), .lit (.int .u32 1342533948), .lit (.int .u32 3988292384), .lit (.int .u32 4027552580), .lit (.int .u32 3604390888), .lit (.int .u32 3412177804), .lit (.int .u32 2607071920), .lit (.int .u32 2262029012), .lit (.int .u32 2685067896), .lit (.int .u32 3183342108)]

/-- 'transeptlaw04.FrameReads': WHATEVER THE INPUT: true; the input reads as it did. -/
def frameReadsSpec : ChangeSpec := { name := "frameReads", fn := fun _ => fun
  | [d] => { results := [.lit (.bool true)], args := [d] }
  | _ => none }
def frameReadsRow : OpenClaim := { program := "ytojagnoobaleaaadoor", sum := "edc9b7ab50f61266d5274eb587bcae39acf1959ee4a3303b1ea5ff53df402714", func := "transept/transeptlaw04.FrameReads", spec := "frameReads", unfollowed := true, recurses := true, named := ["transept/crc.halves"], apart := false, laid := [("transept/crc.halves", laid_transept_crc_halves)] }
def FrameReadsSaid : Prop := frameReadsRow.holds Tryd.pinned (OpenSpec.ofChange frameReadsSpec)

/-- ITS FALSE NEIGHBOUR: 'it returns false'. Refute it at one input. -/
def frameReadsWrong : ChangeSpec := { name := "frameReads", fn := fun _ => fun
  | [d] => { results := [.lit (.bool false)], args := [d] }
  | _ => none }
def FrameReadsWrongFalsely : Prop := frameReadsRow.holds Tryd.pinned (OpenSpec.ofChange frameReadsWrong)

/-- 'transeptlaw04.FrameWrites': WHATEVER THE INPUT: true; the input reads as it did. -/
def frameWritesSpec : ChangeSpec := { name := "frameWrites", fn := fun _ => fun
  | [d1, d2] => { results := [.lit (.bool true)], args := [d1, d2] }
  | _ => none }
def frameWritesRow : OpenClaim := { program := "ytojagnoobaleaaadoor", sum := "edc9b7ab50f61266d5274eb587bcae39acf1959ee4a3303b1ea5ff53df402714", func := "transept/transeptlaw04.FrameWrites", spec := "frameWrites", unfollowed := true, recurses := true, named := ["transept/crc.halves"], apart := false, laid := [("transept/crc.halves", laid_transept_crc_halves)] }
def FrameWritesSaid : Prop := frameWritesRow.holds Tryd.pinned (OpenSpec.ofChange frameWritesSpec)

/-- ITS FALSE NEIGHBOUR: 'it returns false'. Refute it at one input. -/
def frameWritesWrong : ChangeSpec := { name := "frameWrites", fn := fun _ => fun
  | [d1, d2] => { results := [.lit (.bool false)], args := [d1, d2] }
  | _ => none }
def FrameWritesWrongFalsely : Prop := frameWritesRow.holds Tryd.pinned (OpenSpec.ofChange frameWritesWrong)

/-- 'transeptlaw04.FrameBack': WHATEVER THE INPUT: true; the input reads as it did. -/
def frameBackSpec : ChangeSpec := { name := "frameBack", fn := fun _ => fun
  | [d1, d2] => { results := [.lit (.bool true)], args := [d1, d2] }
  | _ => none }
def frameBackRow : OpenClaim := { program := "ytojagnoobaleaaadoor", sum := "edc9b7ab50f61266d5274eb587bcae39acf1959ee4a3303b1ea5ff53df402714", func := "transept/transeptlaw04.FrameBack", spec := "frameBack", unfollowed := true, recurses := true, named := ["transept/crc.halves"], apart := false, laid := [("transept/crc.halves", laid_transept_crc_halves)] }
def FrameBackSaid : Prop := frameBackRow.holds Tryd.pinned (OpenSpec.ofChange frameBackSpec)

/-- ITS FALSE NEIGHBOUR: 'it returns false'. Refute it at one input. -/
def frameBackWrong : ChangeSpec := { name := "frameBack", fn := fun _ => fun
  | [d1, d2] => { results := [.lit (.bool false)], args := [d1, d2] }
  | _ => none }
def FrameBackWrongFalsely : Prop := frameBackRow.holds Tryd.pinned (OpenSpec.ofChange frameBackWrong)

/-- 'transeptlaw04.FrameCuts': WHATEVER THE INPUT: true; the input reads as it did. -/
def frameCutsSpec : ChangeSpec := { name := "frameCuts", fn := fun _ => fun
  | [d1, d2] => { results := [.lit (.bool true)], args := [d1, d2] }
  | _ => none }
def frameCutsRow : OpenClaim := { program := "ytojagnoobaleaaadoor", sum := "edc9b7ab50f61266d5274eb587bcae39acf1959ee4a3303b1ea5ff53df402714", func := "transept/transeptlaw04.FrameCuts", spec := "frameCuts", unfollowed := true, recurses := true, named := ["transept/crc.halves"], apart := false, laid := [("transept/crc.halves", laid_transept_crc_halves)] }
def FrameCutsSaid : Prop := frameCutsRow.holds Tryd.pinned (OpenSpec.ofChange frameCutsSpec)

/-- ITS FALSE NEIGHBOUR: 'it returns false'. Refute it at one input. -/
def frameCutsWrong : ChangeSpec := { name := "frameCuts", fn := fun _ => fun
  | [d1, d2] => { results := [.lit (.bool false)], args := [d1, d2] }
  | _ => none }
def FrameCutsWrongFalsely : Prop := frameCutsRow.holds Tryd.pinned (OpenSpec.ofChange frameCutsWrong)

/-- 'transeptlaw04.FrameFirst': WHATEVER THE INPUT: true; the input reads as it did. -/
def frameFirstSpec : ChangeSpec := { name := "frameFirst", fn := fun _ => fun
  | [d1, d2] => { results := [.lit (.bool true)], args := [d1, d2] }
  | _ => none }
def frameFirstRow : OpenClaim := { program := "ytojagnoobaleaaadoor", sum := "edc9b7ab50f61266d5274eb587bcae39acf1959ee4a3303b1ea5ff53df402714", func := "transept/transeptlaw04.FrameFirst", spec := "frameFirst", unfollowed := true, recurses := true, named := ["transept/crc.halves"], apart := false, laid := [("transept/crc.halves", laid_transept_crc_halves)] }
def FrameFirstSaid : Prop := frameFirstRow.holds Tryd.pinned (OpenSpec.ofChange frameFirstSpec)

/-- ITS FALSE NEIGHBOUR: 'it returns false'. Refute it at one input. -/
def frameFirstWrong : ChangeSpec := { name := "frameFirst", fn := fun _ => fun
  | [d1, d2] => { results := [.lit (.bool false)], args := [d1, d2] }
  | _ => none }
def FrameFirstWrongFalsely : Prop := frameFirstRow.holds Tryd.pinned (OpenSpec.ofChange frameFirstWrong)

/-- 'transeptlaw04.FrameLimits': WHATEVER THE INPUT: true; the input reads as it did. -/
def frameLimitsSpec : ChangeSpec := { name := "frameLimits", fn := fun _ => fun
  | [d1, d2] => { results := [.lit (.bool true)], args := [d1, d2] }
  | _ => none }
def frameLimitsRow : OpenClaim := { program := "ytojagnoobaleaaadoor", sum := "edc9b7ab50f61266d5274eb587bcae39acf1959ee4a3303b1ea5ff53df402714", func := "transept/transeptlaw04.FrameLimits", spec := "frameLimits", unfollowed := true, recurses := true, named := ["transept/crc.halves"], apart := false, laid := [("transept/crc.halves", laid_transept_crc_halves)] }
def FrameLimitsSaid : Prop := frameLimitsRow.holds Tryd.pinned (OpenSpec.ofChange frameLimitsSpec)

/-- ITS FALSE NEIGHBOUR: 'it returns false'. Refute it at one input. -/
def frameLimitsWrong : ChangeSpec := { name := "frameLimits", fn := fun _ => fun
  | [d1, d2] => { results := [.lit (.bool false)], args := [d1, d2] }
  | _ => none }
def FrameLimitsWrongFalsely : Prop := frameLimitsRow.holds Tryd.pinned (OpenSpec.ofChange frameLimitsWrong)

/-- 'transeptlaw04.FrameLong': WHATEVER THE INPUT: true; the input reads as it did. -/
def frameLongSpec : ChangeSpec := { name := "frameLong", fn := fun _ => fun
  | [d1, d2] => { results := [.lit (.bool true)], args := [d1, d2] }
  | _ => none }
def frameLongRow : OpenClaim := { program := "ytojagnoobaleaaadoor", sum := "edc9b7ab50f61266d5274eb587bcae39acf1959ee4a3303b1ea5ff53df402714", func := "transept/transeptlaw04.FrameLong", spec := "frameLong", unfollowed := true, recurses := true, named := ["transept/crc.halves"], apart := false, laid := [("transept/crc.halves", laid_transept_crc_halves)] }
def FrameLongSaid : Prop := frameLongRow.holds Tryd.pinned (OpenSpec.ofChange frameLongSpec)

/-- ITS FALSE NEIGHBOUR: 'it returns false'. Refute it at one input. -/
def frameLongWrong : ChangeSpec := { name := "frameLong", fn := fun _ => fun
  | [d1, d2] => { results := [.lit (.bool false)], args := [d1, d2] }
  | _ => none }
def FrameLongWrongFalsely : Prop := frameLongRow.holds Tryd.pinned (OpenSpec.ofChange frameLongWrong)

/-- 'transeptlaw04.FrameJoins': WHATEVER THE INPUT: true; the input reads as it did. -/
def frameJoinsSpec : ChangeSpec := { name := "frameJoins", fn := fun _ => fun
  | [d1, d2] => { results := [.lit (.bool true)], args := [d1, d2] }
  | _ => none }
def frameJoinsRow : OpenClaim := { program := "ytojagnoobaleaaadoor", sum := "edc9b7ab50f61266d5274eb587bcae39acf1959ee4a3303b1ea5ff53df402714", func := "transept/transeptlaw04.FrameJoins", spec := "frameJoins", unfollowed := true, recurses := true, named := ["transept/crc.halves"], apart := false, laid := [("transept/crc.halves", laid_transept_crc_halves)] }
def FrameJoinsSaid : Prop := frameJoinsRow.holds Tryd.pinned (OpenSpec.ofChange frameJoinsSpec)

/-- ITS FALSE NEIGHBOUR: 'it returns false'. Refute it at one input. -/
def frameJoinsWrong : ChangeSpec := { name := "frameJoins", fn := fun _ => fun
  | [d1, d2] => { results := [.lit (.bool false)], args := [d1, d2] }
  | _ => none }
def FrameJoinsWrongFalsely : Prop := frameJoinsRow.holds Tryd.pinned (OpenSpec.ofChange frameJoinsWrong)

/-- 'transeptlaw04.FrameTurned': WHATEVER THE INPUT: true; the input reads as it did. -/
def frameTurnedSpec : ChangeSpec := { name := "frameTurned", fn := fun _ => fun
  | [d1, d2, d3] => { results := [.lit (.bool true)], args := [d1, d2, d3] }
  | _ => none }
def frameTurnedRow : OpenClaim := { program := "ytojagnoobaleaaadoor", sum := "edc9b7ab50f61266d5274eb587bcae39acf1959ee4a3303b1ea5ff53df402714", func := "transept/transeptlaw04.FrameTurned", spec := "frameTurned", unfollowed := true, recurses := true, named := ["transept/crc.halves"], apart := false, laid := [("transept/crc.halves", laid_transept_crc_halves)] }
def FrameTurnedSaid : Prop := frameTurnedRow.holds Tryd.pinned (OpenSpec.ofChange frameTurnedSpec)

/-- ITS FALSE NEIGHBOUR: 'it returns false'. Refute it at one input. -/
def frameTurnedWrong : ChangeSpec := { name := "frameTurned", fn := fun _ => fun
  | [d1, d2, d3] => { results := [.lit (.bool false)], args := [d1, d2, d3] }
  | _ => none }
def FrameTurnedWrongFalsely : Prop := frameTurnedRow.holds Tryd.pinned (OpenSpec.ofChange frameTurnedWrong)

/-- 'transeptlaw04.FrameOwn': WHATEVER THE INPUT: true; the input reads as it did. -/
def frameOwnSpec : ChangeSpec := { name := "frameOwn", fn := fun _ => fun
  | [d] => { results := [.lit (.bool true)], args := [d] }
  | _ => none }
def frameOwnRow : OpenClaim := { program := "ytojagnoobaleaaadoor", sum := "edc9b7ab50f61266d5274eb587bcae39acf1959ee4a3303b1ea5ff53df402714", func := "transept/transeptlaw04.FrameOwn", spec := "frameOwn", unfollowed := true, recurses := true, named := ["transept/crc.halves"], apart := false, laid := [("transept/crc.halves", laid_transept_crc_halves)] }
def FrameOwnSaid : Prop := frameOwnRow.holds Tryd.pinned (OpenSpec.ofChange frameOwnSpec)

/-- ITS FALSE NEIGHBOUR: 'it returns false'. Refute it at one input. -/
def frameOwnWrong : ChangeSpec := { name := "frameOwn", fn := fun _ => fun
  | [d] => { results := [.lit (.bool false)], args := [d] }
  | _ => none }
def FrameOwnWrongFalsely : Prop := frameOwnRow.holds Tryd.pinned (OpenSpec.ofChange frameOwnWrong)

/- THE SECOND FORM. 'bulk': how many values and letters a reading holds, each counted each time it is reached (what is shared counts as often as it is met; a slice's spare places count too). A statement '..UptoSaid' is the law's where the arguments, and the package variables that the reading takes, are together of bulk at most 1048576: NARROWER than '..Said'. Prove '..Said' where nothing that the law and all that it calls make is longer than what came in: it says more and counts as full. Else prove '..UptoSaid'. A law counts once. -/
mutual
def uptoBulk {H : Type} : DataW H → Nat
  | .lit (.string bytes) => bytes.length + 1
  | .lit _ => 1
  | .nil => 1
  | .ptr d => uptoBulk d + 1
  | .slice elems spare => uptoBulkAll elems + uptoBulkAll spare + 1
  | .agg parts => uptoBulkAll parts + 1
  | .iface _ d => uptoBulk d + 1
  | .map entries => uptoBulkEntries entries + 1
  | .held _ => 1
def uptoBulkAll {H : Type} : List (DataW H) → Nat
  | [] => 0
  | d :: r => uptoBulk d + uptoBulkAll r
def uptoBulkEntries {H : Type} : List (Lit × DataW H) → Nat
  | [] => 0
  | x :: r => uptoBulkEntry x + uptoBulkEntries r
def uptoBulkEntry {H : Type} : Lit × DataW H → Nat
  | (.string bytes, d) => bytes.length + uptoBulk d + 1
  | (_, d) => uptoBulk d + 1
 end
def uptoSmall : (H : Type) → List (DataW H) → Bool := fun _ ds => decide (uptoBulkAll ds ≤ 1048576)
def OpenSpec.upto (s : _root_.Go.ChangeSpec) : _root_.Go.OpenSpec := { _root_.Go.OpenSpec.ofChange s with cond := some uptoSmall }

/-- 'transeptlaw04.FrameReads', WHERE WHAT IT READS IS OF BULK AT MOST 1048576: true; the input reads as it did. -/
def frameReadsUptoRow : OpenClaim := { program := "ytojagnoobaleaaadoor", sum := "edc9b7ab50f61266d5274eb587bcae39acf1959ee4a3303b1ea5ff53df402714", func := "transept/transeptlaw04.FrameReads", spec := "frameReads", unfollowed := true, recurses := true, named := ["transept/crc.halves"], apart := false, laid := [("transept/crc.halves", laid_transept_crc_halves)], narrowed := true }
def FrameReadsUptoSaid : Prop := frameReadsUptoRow.holds Tryd.pinned (OpenSpec.upto frameReadsSpec)

/-- 'transeptlaw04.FrameWrites', WHERE WHAT IT READS IS OF BULK AT MOST 1048576: true; the input reads as it did. -/
def frameWritesUptoRow : OpenClaim := { program := "ytojagnoobaleaaadoor", sum := "edc9b7ab50f61266d5274eb587bcae39acf1959ee4a3303b1ea5ff53df402714", func := "transept/transeptlaw04.FrameWrites", spec := "frameWrites", unfollowed := true, recurses := true, named := ["transept/crc.halves"], apart := false, laid := [("transept/crc.halves", laid_transept_crc_halves)], narrowed := true }
def FrameWritesUptoSaid : Prop := frameWritesUptoRow.holds Tryd.pinned (OpenSpec.upto frameWritesSpec)

/-- 'transeptlaw04.FrameBack', WHERE WHAT IT READS IS OF BULK AT MOST 1048576: true; the input reads as it did. -/
def frameBackUptoRow : OpenClaim := { program := "ytojagnoobaleaaadoor", sum := "edc9b7ab50f61266d5274eb587bcae39acf1959ee4a3303b1ea5ff53df402714", func := "transept/transeptlaw04.FrameBack", spec := "frameBack", unfollowed := true, recurses := true, named := ["transept/crc.halves"], apart := false, laid := [("transept/crc.halves", laid_transept_crc_halves)], narrowed := true }
def FrameBackUptoSaid : Prop := frameBackUptoRow.holds Tryd.pinned (OpenSpec.upto frameBackSpec)

/-- 'transeptlaw04.FrameCuts', WHERE WHAT IT READS IS OF BULK AT MOST 1048576: true; the input reads as it did. -/
def frameCutsUptoRow : OpenClaim := { program := "ytojagnoobaleaaadoor", sum := "edc9b7ab50f61266d5274eb587bcae39acf1959ee4a3303b1ea5ff53df402714", func := "transept/transeptlaw04.FrameCuts", spec := "frameCuts", unfollowed := true, recurses := true, named := ["transept/crc.halves"], apart := false, laid := [("transept/crc.halves", laid_transept_crc_halves)], narrowed := true }
def FrameCutsUptoSaid : Prop := frameCutsUptoRow.holds Tryd.pinned (OpenSpec.upto frameCutsSpec)

/-- 'transeptlaw04.FrameFirst', WHERE WHAT IT READS IS OF BULK AT MOST 1048576: true; the input reads as it did. -/
def frameFirstUptoRow : OpenClaim := { program := "ytojagnoobaleaaadoor", sum := "edc9b7ab50f61266d5274eb587bcae39acf1959ee4a3303b1ea5ff53df402714", func := "transept/transeptlaw04.FrameFirst", spec := "frameFirst", unfollowed := true, recurses := true, named := ["transept/crc.halves"], apart := false, laid := [("transept/crc.halves", laid_transept_crc_halves)], narrowed := true }
def FrameFirstUptoSaid : Prop := frameFirstUptoRow.holds Tryd.pinned (OpenSpec.upto frameFirstSpec)

/-- 'transeptlaw04.FrameLimits', WHERE WHAT IT READS IS OF BULK AT MOST 1048576: true; the input reads as it did. -/
def frameLimitsUptoRow : OpenClaim := { program := "ytojagnoobaleaaadoor", sum := "edc9b7ab50f61266d5274eb587bcae39acf1959ee4a3303b1ea5ff53df402714", func := "transept/transeptlaw04.FrameLimits", spec := "frameLimits", unfollowed := true, recurses := true, named := ["transept/crc.halves"], apart := false, laid := [("transept/crc.halves", laid_transept_crc_halves)], narrowed := true }
def FrameLimitsUptoSaid : Prop := frameLimitsUptoRow.holds Tryd.pinned (OpenSpec.upto frameLimitsSpec)

/-- 'transeptlaw04.FrameLong', WHERE WHAT IT READS IS OF BULK AT MOST 1048576: true; the input reads as it did. -/
def frameLongUptoRow : OpenClaim := { program := "ytojagnoobaleaaadoor", sum := "edc9b7ab50f61266d5274eb587bcae39acf1959ee4a3303b1ea5ff53df402714", func := "transept/transeptlaw04.FrameLong", spec := "frameLong", unfollowed := true, recurses := true, named := ["transept/crc.halves"], apart := false, laid := [("transept/crc.halves", laid_transept_crc_halves)], narrowed := true }
def FrameLongUptoSaid : Prop := frameLongUptoRow.holds Tryd.pinned (OpenSpec.upto frameLongSpec)

/-- 'transeptlaw04.FrameJoins', WHERE WHAT IT READS IS OF BULK AT MOST 1048576: true; the input reads as it did. -/
def frameJoinsUptoRow : OpenClaim := { program := "ytojagnoobaleaaadoor", sum := "edc9b7ab50f61266d5274eb587bcae39acf1959ee4a3303b1ea5ff53df402714", func := "transept/transeptlaw04.FrameJoins", spec := "frameJoins", unfollowed := true, recurses := true, named := ["transept/crc.halves"], apart := false, laid := [("transept/crc.halves", laid_transept_crc_halves)], narrowed := true }
def FrameJoinsUptoSaid : Prop := frameJoinsUptoRow.holds Tryd.pinned (OpenSpec.upto frameJoinsSpec)

/-- 'transeptlaw04.FrameTurned', WHERE WHAT IT READS IS OF BULK AT MOST 1048576: true; the input reads as it did. -/
def frameTurnedUptoRow : OpenClaim := { program := "ytojagnoobaleaaadoor", sum := "edc9b7ab50f61266d5274eb587bcae39acf1959ee4a3303b1ea5ff53df402714", func := "transept/transeptlaw04.FrameTurned", spec := "frameTurned", unfollowed := true, recurses := true, named := ["transept/crc.halves"], apart := false, laid := [("transept/crc.halves", laid_transept_crc_halves)], narrowed := true }
def FrameTurnedUptoSaid : Prop := frameTurnedUptoRow.holds Tryd.pinned (OpenSpec.upto frameTurnedSpec)

/-- 'transeptlaw04.FrameOwn', WHERE WHAT IT READS IS OF BULK AT MOST 1048576: true; the input reads as it did. -/
def frameOwnUptoRow : OpenClaim := { program := "ytojagnoobaleaaadoor", sum := "edc9b7ab50f61266d5274eb587bcae39acf1959ee4a3303b1ea5ff53df402714", func := "transept/transeptlaw04.FrameOwn", spec := "frameOwn", unfollowed := true, recurses := true, named := ["transept/crc.halves"], apart := false, laid := [("transept/crc.halves", laid_transept_crc_halves)], narrowed := true }
def FrameOwnUptoSaid : Prop := frameOwnUptoRow.holds Tryd.pinned (OpenSpec.upto frameOwnSpec)

end Rows
end Go.Proofs.YtojagnoobaleaaaDoor
