/-
  NARROWER THAN 'FOR EVERY INPUT', by the rows' own cells (each row's printed sentence says how): ShaTells: laid · ShaMacs: laid · ShaPieces: laid · ShaForks: laid · ShaKeys: laid · ShaNothing: laid.
  DERIVED. THE GIVEN ROWS OF THIS SEAT. 6 by the template 'for every input the law returns true; each argument reads behind the call as it read before'; 0 by the template 'total and deterministic' (their statements: YtanafhccflmdkaaDoorTotals.lean).
  GIVEN WITH THE SEED: the statements are not yours to turn. If you find one false, say at which input.
  Laid BY PROGRAM, IN A SANDBOX (cutbox-rows.mjs): the forced cells as the released guide's own fill.sh prints them over the translation b8208d51c9dc4a86… (all of the seat's roots in one cut). By AI agents, Wed Nov 11 2026. No macro, syntax, notation, axiom, sorry.
-/
import Derived.Test.YtanafhccflmdkaaDoorChecked
import GoSem.Claim
import GoSem.ClaimJoined
import GoSem.ClaimMapViews
import Derived.JoinedTies
import Derived.KernelRfl
namespace Go.Proofs.YtanafhccflmdkaaDoor
/- THE CELL 'sum', in the pinned program and in every row, IS THE sha256 OF THE DUMP (.gsa) THAT YtanafhccflmdkaaDoorProg.lean LOADS. Nothing in Lean hashes anything: it is a label: what it is worth is what the hold of that sum in a sandbox is worth. -/
noncomputable def Tryd.pinned : Pinned := { name := "ytanafhccflmdkaadoor", sum := "b8208d51c9dc4a862fa458290f4af561d98075be378c1b4d9cbbd385e4d24d2e", checked := Tryd.checked }
namespace Rows
def none {H : Type} : Left H := { results := [], args := [] }

/- WHAT THE LISTED PACKAGE-LEVEL VARIABLES READ AS WHEN THE CALL BEGINS. Each datum BY PROGRAM (the guide's laid-datum.mjs) off the statement by which the dump's own 'gosem.cut.vars' lays the variable. In a bare row this is a premise. The card (YtanafhccflmdkaaDoorCards.lean) ties it to the program's text. -/
def laid_transept_sha_roots {H : Type} : DataW H := .agg [.lit (.int .u32 1116352408), .lit (.int .u32 1899447441), .lit (.int .u32 3049323471), .lit (.int .u32 3921009573), .lit (.int .u32 961987163), .lit (.int .u32 1508970993), .lit (.int .u32 2453635748), .lit (.int .u32 2870763221), .lit (.int .u32 3624381080), .lit (.int .u32 310598401), .lit (.int .u32 607225278), .lit (.int .u32 1426881987), .lit (.int .u32 1925078388), .lit (.int .u32 2162078206), .lit (.int .u32 2614888103), .lit (.int .u32 3248222580), .lit (.int .u32 3835390401), .lit (.int .u32 4022224774), .lit (.int .u32 264347078), .lit (.int .u32 604807628), .lit (.int .u32 770255983), .lit (.int .u32 1249150122), .lit (.int .u32 1555081692), .lit (.int .u32 1996064986), .lit (.int .u32 2554220882), .lit (.int .u32 2821834349), .lit (.int .u32 2952996808), .lit (.int .u32 3210313671), .lit (.int .u32 3336571891), .lit (.int .u32 3584528711), .lit (.int .u32 113926993), .lit (.int .u32 338241895), .lit (.int .u32 666307205), .lit (.int .u32 773529912), .lit (.int .u32 1294757372), .lit (.int .u32 1396182291), .lit (.int .u32 1695183700), .lit (.int .u32 1986661051), .lit (.int .u32 2177026350), .lit (.int .u32 2456956037), .lit (.int .u32 2730485921), .lit (.int .u32 2820302411), .lit (.int .u32 3259730800), .lit (.int .u32 3345764771), .lit (.int .u32 3516065817), .lit (.int .u32 3600352804), .lit (.int .u32 4094571909), .lit (.int .u32 275423344), .lit (.int .u32 430227734), .lit (.int .u32 506948616), .lit (.int .u32 659060556), .lit (.int .u32 883997877), .lit (.int .u32 958139571), .lit (.int .u32 1322822218), .lit (.int .u32 1537002063), .lit (.int .u32 1747873779), .lit (.int .u32 1955562222), .lit (.int .u32 2024104815), .lit (.int .u32 2227730452), .lit (.int .u32 2361852424), .lit (.int .u32 2428436474), .lit (.int .u32 2756734187), .lit (.int .u32 3204031479), .lit (.int .u32 3329325298)]

/-- 'transeptlaw03.ShaTells': WHATEVER THE INPUT: true; the input reads as it did. -/
def shaTellsSpec : ChangeSpec := { name := "shaTells", fn := fun _ => fun
  | [d1, d2] => { results := [.lit (.bool true)], args := [d1, d2] }
  | _ => none }
def shaTellsRow : OpenClaim := { program := "ytanafhccflmdkaadoor", sum := "b8208d51c9dc4a862fa458290f4af561d98075be378c1b4d9cbbd385e4d24d2e", func := "transept/transeptlaw03.ShaTells", spec := "shaTells", unfollowed := true, recurses := true, named := ["transept/sha.roots"], apart := false, laid := [("transept/sha.roots", laid_transept_sha_roots)] }
def ShaTellsSaid : Prop := shaTellsRow.holds Tryd.pinned (OpenSpec.ofChange shaTellsSpec)

/-- ITS FALSE NEIGHBOUR: 'it returns false'. Refute it at one input. -/
def shaTellsWrong : ChangeSpec := { name := "shaTells", fn := fun _ => fun
  | [d1, d2] => { results := [.lit (.bool false)], args := [d1, d2] }
  | _ => none }
def ShaTellsWrongFalsely : Prop := shaTellsRow.holds Tryd.pinned (OpenSpec.ofChange shaTellsWrong)

/-- 'transeptlaw03.ShaMacs': WHATEVER THE INPUT: true; the input reads as it did. -/
def shaMacsSpec : ChangeSpec := { name := "shaMacs", fn := fun _ => fun
  | [d1, d2] => { results := [.lit (.bool true)], args := [d1, d2] }
  | _ => none }
def shaMacsRow : OpenClaim := { program := "ytanafhccflmdkaadoor", sum := "b8208d51c9dc4a862fa458290f4af561d98075be378c1b4d9cbbd385e4d24d2e", func := "transept/transeptlaw03.ShaMacs", spec := "shaMacs", unfollowed := true, recurses := true, named := ["transept/sha.roots"], apart := false, laid := [("transept/sha.roots", laid_transept_sha_roots)] }
def ShaMacsSaid : Prop := shaMacsRow.holds Tryd.pinned (OpenSpec.ofChange shaMacsSpec)

/-- ITS FALSE NEIGHBOUR: 'it returns false'. Refute it at one input. -/
def shaMacsWrong : ChangeSpec := { name := "shaMacs", fn := fun _ => fun
  | [d1, d2] => { results := [.lit (.bool false)], args := [d1, d2] }
  | _ => none }
def ShaMacsWrongFalsely : Prop := shaMacsRow.holds Tryd.pinned (OpenSpec.ofChange shaMacsWrong)

/-- 'transeptlaw03.ShaPieces': WHATEVER THE INPUT: true; the input reads as it did. -/
def shaPiecesSpec : ChangeSpec := { name := "shaPieces", fn := fun _ => fun
  | [d] => { results := [.lit (.bool true)], args := [d] }
  | _ => none }
def shaPiecesRow : OpenClaim := { program := "ytanafhccflmdkaadoor", sum := "b8208d51c9dc4a862fa458290f4af561d98075be378c1b4d9cbbd385e4d24d2e", func := "transept/transeptlaw03.ShaPieces", spec := "shaPieces", unfollowed := true, recurses := true, named := ["transept/sha.roots"], apart := false, laid := [("transept/sha.roots", laid_transept_sha_roots)] }
def ShaPiecesSaid : Prop := shaPiecesRow.holds Tryd.pinned (OpenSpec.ofChange shaPiecesSpec)

/-- ITS FALSE NEIGHBOUR: 'it returns false'. Refute it at one input. -/
def shaPiecesWrong : ChangeSpec := { name := "shaPieces", fn := fun _ => fun
  | [d] => { results := [.lit (.bool false)], args := [d] }
  | _ => none }
def ShaPiecesWrongFalsely : Prop := shaPiecesRow.holds Tryd.pinned (OpenSpec.ofChange shaPiecesWrong)

/-- 'transeptlaw03.ShaForks': WHATEVER THE INPUT: true; the input reads as it did. -/
def shaForksSpec : ChangeSpec := { name := "shaForks", fn := fun _ => fun
  | [d1, d2, d3] => { results := [.lit (.bool true)], args := [d1, d2, d3] }
  | _ => none }
def shaForksRow : OpenClaim := { program := "ytanafhccflmdkaadoor", sum := "b8208d51c9dc4a862fa458290f4af561d98075be378c1b4d9cbbd385e4d24d2e", func := "transept/transeptlaw03.ShaForks", spec := "shaForks", unfollowed := true, recurses := true, named := ["transept/sha.roots"], apart := false, laid := [("transept/sha.roots", laid_transept_sha_roots)] }
def ShaForksSaid : Prop := shaForksRow.holds Tryd.pinned (OpenSpec.ofChange shaForksSpec)

/-- ITS FALSE NEIGHBOUR: 'it returns false'. Refute it at one input. -/
def shaForksWrong : ChangeSpec := { name := "shaForks", fn := fun _ => fun
  | [d1, d2, d3] => { results := [.lit (.bool false)], args := [d1, d2, d3] }
  | _ => none }
def ShaForksWrongFalsely : Prop := shaForksRow.holds Tryd.pinned (OpenSpec.ofChange shaForksWrong)

/-- 'transeptlaw03.ShaKeys': WHATEVER THE INPUT: true; the input reads as it did. -/
def shaKeysSpec : ChangeSpec := { name := "shaKeys", fn := fun _ => fun
  | [d1, d2, d3] => { results := [.lit (.bool true)], args := [d1, d2, d3] }
  | _ => none }
def shaKeysRow : OpenClaim := { program := "ytanafhccflmdkaadoor", sum := "b8208d51c9dc4a862fa458290f4af561d98075be378c1b4d9cbbd385e4d24d2e", func := "transept/transeptlaw03.ShaKeys", spec := "shaKeys", unfollowed := true, recurses := true, named := ["transept/sha.roots"], apart := false, laid := [("transept/sha.roots", laid_transept_sha_roots)] }
def ShaKeysSaid : Prop := shaKeysRow.holds Tryd.pinned (OpenSpec.ofChange shaKeysSpec)

/-- ITS FALSE NEIGHBOUR: 'it returns false'. Refute it at one input. -/
def shaKeysWrong : ChangeSpec := { name := "shaKeys", fn := fun _ => fun
  | [d1, d2, d3] => { results := [.lit (.bool false)], args := [d1, d2, d3] }
  | _ => none }
def ShaKeysWrongFalsely : Prop := shaKeysRow.holds Tryd.pinned (OpenSpec.ofChange shaKeysWrong)

/-- 'transeptlaw03.ShaNothing': WHATEVER THE INPUT: true; the input reads as it did. -/
def shaNothingSpec : ChangeSpec := { name := "shaNothing", fn := fun _ => fun
  | [d1, d2] => { results := [.lit (.bool true)], args := [d1, d2] }
  | _ => none }
def shaNothingRow : OpenClaim := { program := "ytanafhccflmdkaadoor", sum := "b8208d51c9dc4a862fa458290f4af561d98075be378c1b4d9cbbd385e4d24d2e", func := "transept/transeptlaw03.ShaNothing", spec := "shaNothing", unfollowed := true, recurses := true, named := ["transept/sha.roots"], apart := false, laid := [("transept/sha.roots", laid_transept_sha_roots)] }
def ShaNothingSaid : Prop := shaNothingRow.holds Tryd.pinned (OpenSpec.ofChange shaNothingSpec)

/-- ITS FALSE NEIGHBOUR: 'it returns false'. Refute it at one input. -/
def shaNothingWrong : ChangeSpec := { name := "shaNothing", fn := fun _ => fun
  | [d1, d2] => { results := [.lit (.bool false)], args := [d1, d2] }
  | _ => none }
def ShaNothingWrongFalsely : Prop := shaNothingRow.holds Tryd.pinned (OpenSpec.ofChange shaNothingWrong)

/- THE SECOND FORM. 'bulk': how many values and letters a reading holds, each counted each time it is reached (what is shared counts as often as it is met; a slice's spare places count too). A statement '..UptoSaid' is the law's where the arguments, and the package variables that the reading takes, are together of bulk at most 1048576: NARROWER than '..Said'. Prove '..Said' where nothing that the law and all that it calls make is longer than what came in: it says more and counts as full. Else prove '..UptoSaid'. A law counts once. -/
mutual
def uptoBulk {H : Type} : DataW H → Nat
  | .lit (.string bytes) => bytes.length + 1
  | .lit _ => 1
  | .nil => 1
  | .ptr d => uptoBulk d + 1
  | .slice elems spare => uptoBulkAll elems + uptoBulkAll spare + 1
  | .agg parts => uptoBulkAll parts + 1
  | .iface _ d => uptoBulk d + 1
  | .map entries => uptoBulkEntries entries + 1
  | .held _ => 1
def uptoBulkAll {H : Type} : List (DataW H) → Nat
  | [] => 0
  | d :: r => uptoBulk d + uptoBulkAll r
def uptoBulkEntries {H : Type} : List (Lit × DataW H) → Nat
  | [] => 0
  | x :: r => uptoBulkEntry x + uptoBulkEntries r
def uptoBulkEntry {H : Type} : Lit × DataW H → Nat
  | (.string bytes, d) => bytes.length + uptoBulk d + 1
  | (_, d) => uptoBulk d + 1
 end
def uptoSmall : (H : Type) → List (DataW H) → Bool := fun _ ds => decide (uptoBulkAll ds ≤ 1048576)
def OpenSpec.upto (s : _root_.Go.ChangeSpec) : _root_.Go.OpenSpec := { _root_.Go.OpenSpec.ofChange s with cond := some uptoSmall }

/-- 'transeptlaw03.ShaTells', WHERE WHAT IT READS IS OF BULK AT MOST 1048576: true; the input reads as it did. -/
def shaTellsUptoRow : OpenClaim := { program := "ytanafhccflmdkaadoor", sum := "b8208d51c9dc4a862fa458290f4af561d98075be378c1b4d9cbbd385e4d24d2e", func := "transept/transeptlaw03.ShaTells", spec := "shaTells", unfollowed := true, recurses := true, named := ["transept/sha.roots"], apart := false, laid := [("transept/sha.roots", laid_transept_sha_roots)], narrowed := true }
def ShaTellsUptoSaid : Prop := shaTellsUptoRow.holds Tryd.pinned (OpenSpec.upto shaTellsSpec)

/-- 'transeptlaw03.ShaMacs', WHERE WHAT IT READS IS OF BULK AT MOST 1048576: true; the input reads as it did. -/
def shaMacsUptoRow : OpenClaim := { program := "ytanafhccflmdkaadoor", sum := "b8208d51c9dc4a862fa458290f4af561d98075be378c1b4d9cbbd385e4d24d2e", func := "transept/transeptlaw03.ShaMacs", spec := "shaMacs", unfollowed := true, recurses := true, named := ["transept/sha.roots"], apart := false, laid := [("transept/sha.roots", laid_transept_sha_roots)], narrowed := true }
def ShaMacsUptoSaid : Prop := shaMacsUptoRow.holds Tryd.pinned (OpenSpec.upto shaMacsSpec)

/-- 'transeptlaw03.ShaPieces', WHERE WHAT IT READS IS OF BULK AT MOST 1048576: true; the input reads as it did. -/
def shaPiecesUptoRow : OpenClaim := { program := "ytanafhccflmdkaadoor", sum := "b8208d51c9dc4a862fa458290f4af561d98075be378c1b4d9cbbd385e4d24d2e", func := "transept/transeptlaw03.ShaPieces", spec := "shaPieces", unfollowed := true, recurses := true, named := ["transept/sha.roots"], apart := false, laid := [("transept/sha.roots", laid_transept_sha_roots)], narrowed := true }
def ShaPiecesUptoSaid : Prop := shaPiecesUptoRow.holds Tryd.pinned (OpenSpec.upto shaPiecesSpec)

/-- 'transeptlaw03.ShaForks', WHERE WHAT IT READS IS OF BULK AT MOST 1048576: true; the input reads as it did. -/
def shaForksUptoRow : OpenClaim := { program := "ytanafhccflmdkaadoor", sum := "b8208d51c9dc4a862fa458290f4af561d98075be378c1b4d9cbbd385e4d24d2e", func := "transept/transeptlaw03.ShaForks", spec := "shaForks", unfollowed := true, recurses := true, named := ["transept/sha.roots"], apart := false, laid := [("transept/sha.roots", laid_transept_sha_roots)], narrowed := true }
def ShaForksUptoSaid : Prop := shaForksUptoRow.holds Tryd.pinned (OpenSpec.upto shaForksSpec)

/-- 'transeptlaw03.ShaKeys', WHERE WHAT IT READS IS OF BULK AT MOST 1048576: true; the input reads as it did. -/
def shaKeysUptoRow : OpenClaim := { program := "ytanafhccflmdkaadoor", sum := "b8208d51c9dc4a862fa458290f4af561d98075be378c1b4d9cbbd385e4d24d2e", func := "transept/transeptlaw03.ShaKeys", spec := "shaKeys", unfollowed := true, recurses := true, named := ["transept/sha.roots"], apart := false, laid := [("transept/sha.roots", laid_transept_sha_roots)], narrowed := true }
def ShaKeysUptoSaid : Prop := shaKeysUptoRow.holds Tryd.pinned (OpenSpec.upto shaKeysSpec)

/-- 'transeptlaw03.ShaNothing', WHERE WHAT IT READS IS OF BULK AT MOST 1048576: true; the input reads as it did. -/
def shaNothingUptoRow : OpenClaim := { program := "ytanafhccflmdkaadoor", sum := "b8208d51c9dc4a862fa458290f4af561d98075be378c1b4d9cbbd385e4d24d2e", func := "transept/transeptlaw03.ShaNothing", spec := "shaNothing", unfollowed := true, recurses := true, named := ["transept/sha.roots"], apart := false, laid := [("transept/sha.roots", laid_transept_sha_roots)], narrowed := true }
def ShaNothingUptoSaid : Prop := shaNothingUptoRow.holds Tryd.pinned (OpenSpec.upto shaNothingSpec)

end Rows
end Go.Proofs.YtanafhccflmdkaaDoor
