/-
  No cell of these rows narrows 'for every input' (looked for: loops, veiled, ifaces, maps, wideKeys, modest, calm, conditions, laid).
  DERIVED. THE GIVEN ROWS OF THIS SEAT. 7 by the template 'for every input the law returns true; each argument reads behind the call as it read before'; 0 by the template 'total and deterministic' (their statements: YtpofepfkalighaaTotals.lean).
  GIVEN WITH THE SEED: the statements are not yours to turn. If you find one false, say at which input.
  Laid BY PROGRAM, IN A SANDBOX (cutbox-rows.mjs): the forced cells as the released guide's own fill.sh prints them over the translation 2e44f482fdb6519f… (all of the seat's roots in one cut). By AI agents, Wed Nov 11 2026. No macro, syntax, notation, axiom, sorry.
-/
import Derived.Test.YtpofepfkalighaaChecked
import GoSem.Claim
import GoSem.ClaimJoined
import GoSem.ClaimMapViews
import Derived.JoinedTies
import Derived.KernelRfl
namespace Go.Proofs.Ytpofepfkalighaa
/- THE CELL 'sum', in the pinned program and in every row, IS THE sha256 OF THE DUMP (.gsa) THAT YtpofepfkalighaaProg.lean LOADS. Nothing in Lean hashes anything: it is a label: what it is worth is what the hold of that sum in a sandbox is worth. -/
noncomputable def Try.pinned : Pinned := { name := "ytpofepfkalighaa", sum := "2e44f482fdb6519f852ee72d5fab4d564d6d19c5eae9f29db89bdd20052b1adc", checked := Try.checked }
namespace Rows
def none {H : Type} : Left H := { results := [], args := [] }

/-- 'transeptlaw06.PercentTells': WHATEVER THE INPUT: true; the input reads as it did. -/
def percentTellsSpec : ChangeSpec := { name := "percentTells", fn := fun _ => fun
  | [d1, d2] => { results := [.lit (.bool true)], args := [d1, d2] }
  | _ => none }
def percentTellsRow : OpenClaim := { program := "ytpofepfkalighaa", sum := "2e44f482fdb6519f852ee72d5fab4d564d6d19c5eae9f29db89bdd20052b1adc", func := "transept/transeptlaw06.PercentTells", spec := "percentTells", inPlace := ["internal/bytealg.IndexByteString", "internal/abi.NoEscape"], unfollowed := true, recurses := true, apart := false }
def PercentTellsSaid : Prop := percentTellsRow.holds Try.pinned (OpenSpec.ofChange percentTellsSpec)

/-- ITS FALSE NEIGHBOUR: 'it returns false'. Refute it at one input. -/
def percentTellsWrong : ChangeSpec := { name := "percentTells", fn := fun _ => fun
  | [d1, d2] => { results := [.lit (.bool false)], args := [d1, d2] }
  | _ => none }
def PercentTellsWrongFalsely : Prop := percentTellsRow.holds Try.pinned (OpenSpec.ofChange percentTellsWrong)

/-- 'transeptlaw06.PercentOnce': WHATEVER THE INPUT: true; the input reads as it did. -/
def percentOnceSpec : ChangeSpec := { name := "percentOnce", fn := fun _ => fun
  | [d1, d2] => { results := [.lit (.bool true)], args := [d1, d2] }
  | _ => none }
def percentOnceRow : OpenClaim := { program := "ytpofepfkalighaa", sum := "2e44f482fdb6519f852ee72d5fab4d564d6d19c5eae9f29db89bdd20052b1adc", func := "transept/transeptlaw06.PercentOnce", spec := "percentOnce", inPlace := ["internal/bytealg.IndexByteString", "internal/abi.NoEscape"], unfollowed := true, recurses := true, apart := false }
def PercentOnceSaid : Prop := percentOnceRow.holds Try.pinned (OpenSpec.ofChange percentOnceSpec)

/-- ITS FALSE NEIGHBOUR: 'it returns false'. Refute it at one input. -/
def percentOnceWrong : ChangeSpec := { name := "percentOnce", fn := fun _ => fun
  | [d1, d2] => { results := [.lit (.bool false)], args := [d1, d2] }
  | _ => none }
def PercentOnceWrongFalsely : Prop := percentOnceRow.holds Try.pinned (OpenSpec.ofChange percentOnceWrong)

/-- 'transeptlaw06.PercentBack': WHATEVER THE INPUT: true; the input reads as it did. -/
def percentBackSpec : ChangeSpec := { name := "percentBack", fn := fun _ => fun
  | [d1, d2] => { results := [.lit (.bool true)], args := [d1, d2] }
  | _ => none }
def percentBackRow : OpenClaim := { program := "ytpofepfkalighaa", sum := "2e44f482fdb6519f852ee72d5fab4d564d6d19c5eae9f29db89bdd20052b1adc", func := "transept/transeptlaw06.PercentBack", spec := "percentBack", inPlace := ["internal/bytealg.IndexByteString", "internal/abi.NoEscape"], unfollowed := true, recurses := true, apart := false }
def PercentBackSaid : Prop := percentBackRow.holds Try.pinned (OpenSpec.ofChange percentBackSpec)

/-- ITS FALSE NEIGHBOUR: 'it returns false'. Refute it at one input. -/
def percentBackWrong : ChangeSpec := { name := "percentBack", fn := fun _ => fun
  | [d1, d2] => { results := [.lit (.bool false)], args := [d1, d2] }
  | _ => none }
def PercentBackWrongFalsely : Prop := percentBackRow.holds Try.pinned (OpenSpec.ofChange percentBackWrong)

/-- 'transeptlaw06.PercentJoins': WHATEVER THE INPUT: true; the input reads as it did. -/
def percentJoinsSpec : ChangeSpec := { name := "percentJoins", fn := fun _ => fun
  | [d1, d2, d3] => { results := [.lit (.bool true)], args := [d1, d2, d3] }
  | _ => none }
def percentJoinsRow : OpenClaim := { program := "ytpofepfkalighaa", sum := "2e44f482fdb6519f852ee72d5fab4d564d6d19c5eae9f29db89bdd20052b1adc", func := "transept/transeptlaw06.PercentJoins", spec := "percentJoins", inPlace := ["internal/bytealg.IndexByteString", "internal/abi.NoEscape"], unfollowed := true, recurses := true, apart := false }
def PercentJoinsSaid : Prop := percentJoinsRow.holds Try.pinned (OpenSpec.ofChange percentJoinsSpec)

/-- ITS FALSE NEIGHBOUR: 'it returns false'. Refute it at one input. -/
def percentJoinsWrong : ChangeSpec := { name := "percentJoins", fn := fun _ => fun
  | [d1, d2, d3] => { results := [.lit (.bool false)], args := [d1, d2, d3] }
  | _ => none }
def PercentJoinsWrongFalsely : Prop := percentJoinsRow.holds Try.pinned (OpenSpec.ofChange percentJoinsWrong)

/-- 'transeptlaw06.PercentSets': WHATEVER THE INPUT: true; the input reads as it did. -/
def percentSetsSpec : ChangeSpec := { name := "percentSets", fn := fun _ => fun
  | [d] => { results := [.lit (.bool true)], args := [d] }
  | _ => none }
def percentSetsRow : OpenClaim := { program := "ytpofepfkalighaa", sum := "2e44f482fdb6519f852ee72d5fab4d564d6d19c5eae9f29db89bdd20052b1adc", func := "transept/transeptlaw06.PercentSets", spec := "percentSets", inPlace := ["internal/bytealg.IndexByteString", "internal/abi.NoEscape"], unfollowed := true, recurses := true, apart := false }
def PercentSetsSaid : Prop := percentSetsRow.holds Try.pinned (OpenSpec.ofChange percentSetsSpec)

/-- ITS FALSE NEIGHBOUR: 'it returns false'. Refute it at one input. -/
def percentSetsWrong : ChangeSpec := { name := "percentSets", fn := fun _ => fun
  | [d] => { results := [.lit (.bool false)], args := [d] }
  | _ => none }
def PercentSetsWrongFalsely : Prop := percentSetsRow.holds Try.pinned (OpenSpec.ofChange percentSetsWrong)

/-- 'transeptlaw06.PercentBytes': WHATEVER THE INPUT: true; the input reads as it did. -/
def percentBytesSpec : ChangeSpec := { name := "percentBytes", fn := fun _ => fun
  | [d1, d2, d3] => { results := [.lit (.bool true)], args := [d1, d2, d3] }
  | _ => none }
def percentBytesRow : OpenClaim := { program := "ytpofepfkalighaa", sum := "2e44f482fdb6519f852ee72d5fab4d564d6d19c5eae9f29db89bdd20052b1adc", func := "transept/transeptlaw06.PercentBytes", spec := "percentBytes", inPlace := ["internal/bytealg.IndexByteString", "internal/abi.NoEscape"], unfollowed := true, recurses := true, apart := false }
def PercentBytesSaid : Prop := percentBytesRow.holds Try.pinned (OpenSpec.ofChange percentBytesSpec)

/-- ITS FALSE NEIGHBOUR: 'it returns false'. Refute it at one input. -/
def percentBytesWrong : ChangeSpec := { name := "percentBytes", fn := fun _ => fun
  | [d1, d2, d3] => { results := [.lit (.bool false)], args := [d1, d2, d3] }
  | _ => none }
def PercentBytesWrongFalsely : Prop := percentBytesRow.holds Try.pinned (OpenSpec.ofChange percentBytesWrong)

/-- 'transeptlaw06.PercentLess': WHATEVER THE INPUT: true; the input reads as it did. -/
def percentLessSpec : ChangeSpec := { name := "percentLess", fn := fun _ => fun
  | [d] => { results := [.lit (.bool true)], args := [d] }
  | _ => none }
def percentLessRow : OpenClaim := { program := "ytpofepfkalighaa", sum := "2e44f482fdb6519f852ee72d5fab4d564d6d19c5eae9f29db89bdd20052b1adc", func := "transept/transeptlaw06.PercentLess", spec := "percentLess", inPlace := ["internal/bytealg.IndexByteString", "internal/abi.NoEscape"], unfollowed := true, recurses := true, apart := false }
def PercentLessSaid : Prop := percentLessRow.holds Try.pinned (OpenSpec.ofChange percentLessSpec)

/-- ITS FALSE NEIGHBOUR: 'it returns false'. Refute it at one input. -/
def percentLessWrong : ChangeSpec := { name := "percentLess", fn := fun _ => fun
  | [d] => { results := [.lit (.bool false)], args := [d] }
  | _ => none }
def PercentLessWrongFalsely : Prop := percentLessRow.holds Try.pinned (OpenSpec.ofChange percentLessWrong)

/- THE SECOND FORM. 'bulk': how many values and letters a reading holds, each counted each time it is reached (what is shared counts as often as it is met; a slice's spare places count too). A statement '..UptoSaid' is the law's where the arguments, and the package variables that the reading takes, are together of bulk at most 1048576: NARROWER than '..Said'. Prove '..Said' where nothing that the law and all that it calls make is longer than what came in: it says more and counts as full. Else prove '..UptoSaid'. A law counts once. -/
mutual
def uptoBulk {H : Type} : DataW H → Nat
  | .lit (.string bytes) => bytes.length + 1
  | .lit _ => 1
  | .nil => 1
  | .ptr d => uptoBulk d + 1
  | .slice elems spare => uptoBulkAll elems + uptoBulkAll spare + 1
  | .agg parts => uptoBulkAll parts + 1
  | .iface _ d => uptoBulk d + 1
  | .map entries => uptoBulkEntries entries + 1
  | .held _ => 1
def uptoBulkAll {H : Type} : List (DataW H) → Nat
  | [] => 0
  | d :: r => uptoBulk d + uptoBulkAll r
def uptoBulkEntries {H : Type} : List (Lit × DataW H) → Nat
  | [] => 0
  | x :: r => uptoBulkEntry x + uptoBulkEntries r
def uptoBulkEntry {H : Type} : Lit × DataW H → Nat
  | (.string bytes, d) => bytes.length + uptoBulk d + 1
  | (_, d) => uptoBulk d + 1
 end
def uptoSmall : (H : Type) → List (DataW H) → Bool := fun _ ds => decide (uptoBulkAll ds ≤ 1048576)
def OpenSpec.upto (s : _root_.Go.ChangeSpec) : _root_.Go.OpenSpec := { _root_.Go.OpenSpec.ofChange s with cond := some uptoSmall }

/-- 'transeptlaw06.PercentTells', WHERE WHAT IT READS IS OF BULK AT MOST 1048576: true; the input reads as it did. -/
def percentTellsUptoRow : OpenClaim := { program := "ytpofepfkalighaa", sum := "2e44f482fdb6519f852ee72d5fab4d564d6d19c5eae9f29db89bdd20052b1adc", func := "transept/transeptlaw06.PercentTells", spec := "percentTells", inPlace := ["internal/bytealg.IndexByteString", "internal/abi.NoEscape"], unfollowed := true, recurses := true, apart := false, narrowed := true }
def PercentTellsUptoSaid : Prop := percentTellsUptoRow.holds Try.pinned (OpenSpec.upto percentTellsSpec)

/-- 'transeptlaw06.PercentOnce', WHERE WHAT IT READS IS OF BULK AT MOST 1048576: true; the input reads as it did. -/
def percentOnceUptoRow : OpenClaim := { program := "ytpofepfkalighaa", sum := "2e44f482fdb6519f852ee72d5fab4d564d6d19c5eae9f29db89bdd20052b1adc", func := "transept/transeptlaw06.PercentOnce", spec := "percentOnce", inPlace := ["internal/bytealg.IndexByteString", "internal/abi.NoEscape"], unfollowed := true, recurses := true, apart := false, narrowed := true }
def PercentOnceUptoSaid : Prop := percentOnceUptoRow.holds Try.pinned (OpenSpec.upto percentOnceSpec)

/-- 'transeptlaw06.PercentBack', WHERE WHAT IT READS IS OF BULK AT MOST 1048576: true; the input reads as it did. -/
def percentBackUptoRow : OpenClaim := { program := "ytpofepfkalighaa", sum := "2e44f482fdb6519f852ee72d5fab4d564d6d19c5eae9f29db89bdd20052b1adc", func := "transept/transeptlaw06.PercentBack", spec := "percentBack", inPlace := ["internal/bytealg.IndexByteString", "internal/abi.NoEscape"], unfollowed := true, recurses := true, apart := false, narrowed := true }
def PercentBackUptoSaid : Prop := percentBackUptoRow.holds Try.pinned (OpenSpec.upto percentBackSpec)

/-- 'transeptlaw06.PercentJoins', WHERE WHAT IT READS IS OF BULK AT MOST 1048576: true; the input reads as it did. -/
def percentJoinsUptoRow : OpenClaim := { program := "ytpofepfkalighaa", sum := "2e44f482fdb6519f852ee72d5fab4d564d6d19c5eae9f29db89bdd20052b1adc", func := "transept/transeptlaw06.PercentJoins", spec := "percentJoins", inPlace := ["internal/bytealg.IndexByteString", "internal/abi.NoEscape"], unfollowed := true, recurses := true, apart := false, narrowed := true }
def PercentJoinsUptoSaid : Prop := percentJoinsUptoRow.holds Try.pinned (OpenSpec.upto percentJoinsSpec)

/-- 'transeptlaw06.PercentSets', WHERE WHAT IT READS IS OF BULK AT MOST 1048576: true; the input reads as it did. -/
def percentSetsUptoRow : OpenClaim := { program := "ytpofepfkalighaa", sum := "2e44f482fdb6519f852ee72d5fab4d564d6d19c5eae9f29db89bdd20052b1adc", func := "transept/transeptlaw06.PercentSets", spec := "percentSets", inPlace := ["internal/bytealg.IndexByteString", "internal/abi.NoEscape"], unfollowed := true, recurses := true, apart := false, narrowed := true }
def PercentSetsUptoSaid : Prop := percentSetsUptoRow.holds Try.pinned (OpenSpec.upto percentSetsSpec)

/-- 'transeptlaw06.PercentBytes', WHERE WHAT IT READS IS OF BULK AT MOST 1048576: true; the input reads as it did. -/
def percentBytesUptoRow : OpenClaim := { program := "ytpofepfkalighaa", sum := "2e44f482fdb6519f852ee72d5fab4d564d6d19c5eae9f29db89bdd20052b1adc", func := "transept/transeptlaw06.PercentBytes", spec := "percentBytes", inPlace := ["internal/bytealg.IndexByteString", "internal/abi.NoEscape"], unfollowed := true, recurses := true, apart := false, narrowed := true }
def PercentBytesUptoSaid : Prop := percentBytesUptoRow.holds Try.pinned (OpenSpec.upto percentBytesSpec)

/-- 'transeptlaw06.PercentLess', WHERE WHAT IT READS IS OF BULK AT MOST 1048576: true; the input reads as it did. -/
def percentLessUptoRow : OpenClaim := { program := "ytpofepfkalighaa", sum := "2e44f482fdb6519f852ee72d5fab4d564d6d19c5eae9f29db89bdd20052b1adc", func := "transept/transeptlaw06.PercentLess", spec := "percentLess", inPlace := ["internal/bytealg.IndexByteString", "internal/abi.NoEscape"], unfollowed := true, recurses := true, apart := false, narrowed := true }
def PercentLessUptoSaid : Prop := percentLessUptoRow.holds Try.pinned (OpenSpec.upto percentLessSpec)

end Rows
end Go.Proofs.Ytpofepfkalighaa
