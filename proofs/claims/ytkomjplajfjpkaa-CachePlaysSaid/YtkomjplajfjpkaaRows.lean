/-
  No cell of these rows narrows 'for every input' (looked for: loops, veiled, ifaces, maps, wideKeys, modest, calm, conditions, laid).
  DERIVED. THE GIVEN ROWS OF THIS SEAT. 5 by the template 'for every input the law returns true; each argument reads behind the call as it read before'; 0 by the template 'total and deterministic' (their statements: YtkomjplajfjpkaaTotals.lean).
  GIVEN WITH THE SEED: the statements are not yours to turn. If you find one false, say at which input.
  Laid BY PROGRAM, IN A SANDBOX (cutbox-rows.mjs): the forced cells as the released guide's own fill.sh prints them over the translation 61089d0478792f49… (all of the seat's roots in one cut). By AI agents, Wed Nov 11 2026. No macro, syntax, notation, axiom, sorry.
-/
import Derived.Test.YtkomjplajfjpkaaChecked
import GoSem.Claim
import GoSem.ClaimJoined
import GoSem.ClaimMapViews
import Derived.JoinedTies
import Derived.KernelRfl
namespace Go.Proofs.Ytkomjplajfjpkaa
/- THE CELL 'sum', in the pinned program and in every row, IS THE sha256 OF THE DUMP (.gsa) THAT YtkomjplajfjpkaaProg.lean LOADS. Nothing in Lean hashes anything: it is a label: what it is worth is what the hold of that sum in a sandbox is worth. -/
noncomputable def Try.pinned : Pinned := { name := "ytkomjplajfjpkaa", sum := "61089d0478792f493b98564de288993db70a4ada9512b2bcc4be04c321397ea1", checked := Try.checked }
namespace Rows
def none {H : Type} : Left H := { results := [], args := [] }

/-- 'transeptlaw16.CachePlays': WHATEVER THE INPUT: true; the input reads as it did. -/
def cachePlaysSpec : ChangeSpec := { name := "cachePlays", fn := fun _ => fun
  | [d1, d2] => { results := [.lit (.bool true)], args := [d1, d2] }
  | _ => none }
def cachePlaysRow : OpenClaim := { program := "ytkomjplajfjpkaa", sum := "61089d0478792f493b98564de288993db70a4ada9512b2bcc4be04c321397ea1", func := "transept/transeptlaw16.CachePlays", spec := "cachePlays", unfollowed := true, recurses := true, apart := false }
def CachePlaysSaid : Prop := cachePlaysRow.holds Try.pinned (OpenSpec.ofChange cachePlaysSpec)

/-- ITS FALSE NEIGHBOUR: 'it returns false'. Refute it at one input. -/
def cachePlaysWrong : ChangeSpec := { name := "cachePlays", fn := fun _ => fun
  | [d1, d2] => { results := [.lit (.bool false)], args := [d1, d2] }
  | _ => none }
def CachePlaysWrongFalsely : Prop := cachePlaysRow.holds Try.pinned (OpenSpec.ofChange cachePlaysWrong)

/-- 'transeptlaw16.CacheOrder': WHATEVER THE INPUT: true; the input reads as it did. -/
def cacheOrderSpec : ChangeSpec := { name := "cacheOrder", fn := fun _ => fun
  | [d1, d2] => { results := [.lit (.bool true)], args := [d1, d2] }
  | _ => none }
def cacheOrderRow : OpenClaim := { program := "ytkomjplajfjpkaa", sum := "61089d0478792f493b98564de288993db70a4ada9512b2bcc4be04c321397ea1", func := "transept/transeptlaw16.CacheOrder", spec := "cacheOrder", unfollowed := true, recurses := true, apart := false }
def CacheOrderSaid : Prop := cacheOrderRow.holds Try.pinned (OpenSpec.ofChange cacheOrderSpec)

/-- ITS FALSE NEIGHBOUR: 'it returns false'. Refute it at one input. -/
def cacheOrderWrong : ChangeSpec := { name := "cacheOrder", fn := fun _ => fun
  | [d1, d2] => { results := [.lit (.bool false)], args := [d1, d2] }
  | _ => none }
def CacheOrderWrongFalsely : Prop := cacheOrderRow.holds Try.pinned (OpenSpec.ofChange cacheOrderWrong)

/-- 'transeptlaw16.CacheLater': WHATEVER THE INPUT: true; the input reads as it did. -/
def cacheLaterSpec : ChangeSpec := { name := "cacheLater", fn := fun _ => fun
  | [d1, d2, d3] => { results := [.lit (.bool true)], args := [d1, d2, d3] }
  | _ => none }
def cacheLaterRow : OpenClaim := { program := "ytkomjplajfjpkaa", sum := "61089d0478792f493b98564de288993db70a4ada9512b2bcc4be04c321397ea1", func := "transept/transeptlaw16.CacheLater", spec := "cacheLater", unfollowed := true, recurses := true, apart := false }
def CacheLaterSaid : Prop := cacheLaterRow.holds Try.pinned (OpenSpec.ofChange cacheLaterSpec)

/-- ITS FALSE NEIGHBOUR: 'it returns false'. Refute it at one input. -/
def cacheLaterWrong : ChangeSpec := { name := "cacheLater", fn := fun _ => fun
  | [d1, d2, d3] => { results := [.lit (.bool false)], args := [d1, d2, d3] }
  | _ => none }
def CacheLaterWrongFalsely : Prop := cacheLaterRow.holds Try.pinned (OpenSpec.ofChange cacheLaterWrong)

/-- 'transeptlaw16.CacheSteps': WHATEVER THE INPUT: true; the input reads as it did. -/
def cacheStepsSpec : ChangeSpec := { name := "cacheSteps", fn := fun _ => fun
  | [d1, d2, d3] => { results := [.lit (.bool true)], args := [d1, d2, d3] }
  | _ => none }
def cacheStepsRow : OpenClaim := { program := "ytkomjplajfjpkaa", sum := "61089d0478792f493b98564de288993db70a4ada9512b2bcc4be04c321397ea1", func := "transept/transeptlaw16.CacheSteps", spec := "cacheSteps", unfollowed := true, recurses := true, apart := false }
def CacheStepsSaid : Prop := cacheStepsRow.holds Try.pinned (OpenSpec.ofChange cacheStepsSpec)

/-- ITS FALSE NEIGHBOUR: 'it returns false'. Refute it at one input. -/
def cacheStepsWrong : ChangeSpec := { name := "cacheSteps", fn := fun _ => fun
  | [d1, d2, d3] => { results := [.lit (.bool false)], args := [d1, d2, d3] }
  | _ => none }
def CacheStepsWrongFalsely : Prop := cacheStepsRow.holds Try.pinned (OpenSpec.ofChange cacheStepsWrong)

/-- 'transeptlaw16.CacheTwice': WHATEVER THE INPUT: true; the input reads as it did. -/
def cacheTwiceSpec : ChangeSpec := { name := "cacheTwice", fn := fun _ => fun
  | [d1, d2, d3] => { results := [.lit (.bool true)], args := [d1, d2, d3] }
  | _ => none }
def cacheTwiceRow : OpenClaim := { program := "ytkomjplajfjpkaa", sum := "61089d0478792f493b98564de288993db70a4ada9512b2bcc4be04c321397ea1", func := "transept/transeptlaw16.CacheTwice", spec := "cacheTwice", unfollowed := true, recurses := true, apart := false }
def CacheTwiceSaid : Prop := cacheTwiceRow.holds Try.pinned (OpenSpec.ofChange cacheTwiceSpec)

/-- ITS FALSE NEIGHBOUR: 'it returns false'. Refute it at one input. -/
def cacheTwiceWrong : ChangeSpec := { name := "cacheTwice", fn := fun _ => fun
  | [d1, d2, d3] => { results := [.lit (.bool false)], args := [d1, d2, d3] }
  | _ => none }
def CacheTwiceWrongFalsely : Prop := cacheTwiceRow.holds Try.pinned (OpenSpec.ofChange cacheTwiceWrong)

/- THE SECOND FORM. 'bulk': how many values and letters a reading holds, each counted each time it is reached (what is shared counts as often as it is met; a slice's spare places count too). A statement '..UptoSaid' is the law's where the arguments, and the package variables that the reading takes, are together of bulk at most 1048576: NARROWER than '..Said'. Prove '..Said' where nothing that the law and all that it calls make is longer than what came in: it says more and counts as full. Else prove '..UptoSaid'. A law counts once. -/
mutual
def uptoBulk {H : Type} : DataW H → Nat
  | .lit (.string bytes) => bytes.length + 1
  | .lit _ => 1
  | .nil => 1
  | .ptr d => uptoBulk d + 1
  | .slice elems spare => uptoBulkAll elems + uptoBulkAll spare + 1
  | .agg parts => uptoBulkAll parts + 1
  | .iface _ d => uptoBulk d + 1
  | .map entries => uptoBulkEntries entries + 1
  | .held _ => 1
def uptoBulkAll {H : Type} : List (DataW H) → Nat
  | [] => 0
  | d :: r => uptoBulk d + uptoBulkAll r
def uptoBulkEntries {H : Type} : List (Lit × DataW H) → Nat
  | [] => 0
  | x :: r => uptoBulkEntry x + uptoBulkEntries r
def uptoBulkEntry {H : Type} : Lit × DataW H → Nat
  | (.string bytes, d) => bytes.length + uptoBulk d + 1
  | (_, d) => uptoBulk d + 1
 end
def uptoSmall : (H : Type) → List (DataW H) → Bool := fun _ ds => decide (uptoBulkAll ds ≤ 1048576)
def OpenSpec.upto (s : _root_.Go.ChangeSpec) : _root_.Go.OpenSpec := { _root_.Go.OpenSpec.ofChange s with cond := some uptoSmall }

/-- 'transeptlaw16.CachePlays', WHERE WHAT IT READS IS OF BULK AT MOST 1048576: true; the input reads as it did. -/
def cachePlaysUptoRow : OpenClaim := { program := "ytkomjplajfjpkaa", sum := "61089d0478792f493b98564de288993db70a4ada9512b2bcc4be04c321397ea1", func := "transept/transeptlaw16.CachePlays", spec := "cachePlays", unfollowed := true, recurses := true, apart := false, narrowed := true }
def CachePlaysUptoSaid : Prop := cachePlaysUptoRow.holds Try.pinned (OpenSpec.upto cachePlaysSpec)

/-- 'transeptlaw16.CacheOrder', WHERE WHAT IT READS IS OF BULK AT MOST 1048576: true; the input reads as it did. -/
def cacheOrderUptoRow : OpenClaim := { program := "ytkomjplajfjpkaa", sum := "61089d0478792f493b98564de288993db70a4ada9512b2bcc4be04c321397ea1", func := "transept/transeptlaw16.CacheOrder", spec := "cacheOrder", unfollowed := true, recurses := true, apart := false, narrowed := true }
def CacheOrderUptoSaid : Prop := cacheOrderUptoRow.holds Try.pinned (OpenSpec.upto cacheOrderSpec)

/-- 'transeptlaw16.CacheLater', WHERE WHAT IT READS IS OF BULK AT MOST 1048576: true; the input reads as it did. -/
def cacheLaterUptoRow : OpenClaim := { program := "ytkomjplajfjpkaa", sum := "61089d0478792f493b98564de288993db70a4ada9512b2bcc4be04c321397ea1", func := "transept/transeptlaw16.CacheLater", spec := "cacheLater", unfollowed := true, recurses := true, apart := false, narrowed := true }
def CacheLaterUptoSaid : Prop := cacheLaterUptoRow.holds Try.pinned (OpenSpec.upto cacheLaterSpec)

/-- 'transeptlaw16.CacheSteps', WHERE WHAT IT READS IS OF BULK AT MOST 1048576: true; the input reads as it did. -/
def cacheStepsUptoRow : OpenClaim := { program := "ytkomjplajfjpkaa", sum := "61089d0478792f493b98564de288993db70a4ada9512b2bcc4be04c321397ea1", func := "transept/transeptlaw16.CacheSteps", spec := "cacheSteps", unfollowed := true, recurses := true, apart := false, narrowed := true }
def CacheStepsUptoSaid : Prop := cacheStepsUptoRow.holds Try.pinned (OpenSpec.upto cacheStepsSpec)

/-- 'transeptlaw16.CacheTwice', WHERE WHAT IT READS IS OF BULK AT MOST 1048576: true; the input reads as it did. -/
def cacheTwiceUptoRow : OpenClaim := { program := "ytkomjplajfjpkaa", sum := "61089d0478792f493b98564de288993db70a4ada9512b2bcc4be04c321397ea1", func := "transept/transeptlaw16.CacheTwice", spec := "cacheTwice", unfollowed := true, recurses := true, apart := false, narrowed := true }
def CacheTwiceUptoSaid : Prop := cacheTwiceUptoRow.holds Try.pinned (OpenSpec.upto cacheTwiceSpec)

end Rows
end Go.Proofs.Ytkomjplajfjpkaa
