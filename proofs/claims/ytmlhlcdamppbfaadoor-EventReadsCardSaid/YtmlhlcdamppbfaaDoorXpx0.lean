-- Written by a program of this session (wip/tools/xprint.py), in the manner of the print of the kit.
import Derived.Test.YtmlhlcdamppbfaaDoorProg
import Derived.Below
import Derived.Deep.Draws
import Derived.Deep.AppendLies
import Derived.Maps.AppendAt
import Derived.OwnWalk
import Derived.Laws.BytesArg
import Derived.Laws.MakeOwn
import Derived.Laws.OwnMore
import Derived.Deep.OwnRows
import Derived.Tactics
import Derived.Lib.ConvBytes
import Derived.Laws.Slices
import Derived.WalkKit
import Derived.KernelRfl
import Derived.RowKit3
import Derived.Deep.LoopGhost
import Derived.Deep.QuietTactic
import Derived.BigQuiet
import Derived.WideLaws
import Derived.Deep.DeepCutAuto
import Derived.Deep.CutBlock
import Derived.Deep.RegionHeld3
import Derived.Laws.Rows
import Derived.Lib.AppendStr
import Derived.ArgAppend
import Derived.Laws.IdiomCopy
import Derived.OrdersHeld
import Derived.Laws.BitsLemmas
import Derived.RowKit
import Derived.Test.YtmlhlcdamppbfaaDoorWWords
import Derived.Test.YtmlhlcdamppbfaaDoorWLast
import Derived.Test.YtmlhlcdamppbfaaDoorWTab
import Derived.Test.YtmlhlcdamppbfaaDoorWFour
import Derived.Test.YtmlhlcdamppbfaaDoorWQPut
import Derived.Test.YtmlhlcdamppbfaaDoorWApart
import Derived.Test.YtmlhlcdamppbfaaDoorWArr
import Derived.Test.YtmlhlcdamppbfaaDoorWZeros
import Derived.Test.YtmlhlcdamppbfaaDoorWFoot
import Derived.Test.YtmlhlcdamppbfaaDoorWKept
import Derived.Test.YtmlhlcdamppbfaaDoorWShare
import Derived.Test.YtmlhlcdamppbfaaDoorWN
import Derived.Test.YtmlhlcdamppbfaaDoorWFootNe
import Derived.Test.YtmlhlcdamppbfaaDoorWAt
import Derived.Test.YtmlhlcdamppbfaaDoorWEqStruct
import Derived.Test.YtmlhlcdamppbfaaDoorWRepsOne
import Derived.Test.YtmlhlcdamppbfaaDoorWInv
import Derived.Test.YtmlhlcdamppbfaaDoorWInvWords
import Derived.Test.YtmlhlcdamppbfaaDoorWGuard
import Derived.Test.YtmlhlcdamppbfaaDoorWNEv
import Derived.Test.YtmlhlcdamppbfaaDoorWMore
namespace Go.Proofs.YtmlhlcdamppbfaaDoor.Xp
open Go.RowKit Go.Proofs.YtmlhlcdamppbfaaDoorW.PrintWords Go.Proofs.YtmlhlcdamppbfaaDoorW.PrintLast Go.Proofs.YtmlhlcdamppbfaaDoorW.PrintMore
attribute [local go_sem] max2_int min2_int max_two min_two max_three min_three max_four min_four   -- for this text's walks alone
set_option linter.unusedVariables false
set_option linter.unusedSimpArgs false



def errW : Option Int → Value
  | none => .nilIface
  | some c => .iface 0 (.int .i64 c)
theorem errW_none : errW none = .nilIface := rfl
theorem errW_some (c : Int) : errW (some c) = .iface 0 (.int .i64 c) := rfl

theorem info3 : (Tryd.prog.info? 3).map (fun i => (i.zero, i.size, i.bytes)) = some (some (.int .i64 0), 1, 8) := by kernel_rfl
theorem info5 : (Tryd.prog.info? 5).map (fun i => (i.zero, i.size, i.bytes)) = some (some (.int .u8 0), 1, 1) := by kernel_rfl
theorem info9 : (Tryd.prog.info? 9).map (fun i => (i.zero, i.size, i.bytes)) = some (some (.string ⟨#[]⟩), 1, 16) := by kernel_rfl
-- the values' own types

theorem Kd_C_len {α : Type} {d : Kd α} {w : World} {A : Option Addr} {n m : Nat} {xs : List α} (h : m = n) (hc : Kd.C d w A m xs) : Kd.C d w A n xs := h ▸ hc

end Go.Proofs.YtmlhlcdamppbfaaDoor.Xp
