-- Written by a program of this session (wip/tools/xprint.py), in the manner of the print of the kit.
import Derived.Test.YtdbmildhfnpokaaDoorXax0
import Derived.Test.YtdbmildhfnpokaaDoorXax3
import Derived.Test.YtdbmildhfnpokaaDoorShown
namespace Go.Proofs.YtdbmildhfnpokaaDoor.Xa
open Go.RowKit Go.Proofs.YtdbmildhfnpokaaDoor.Ext Go.Proofs.YtdbmildhfnpokaaDoorW.PrintWords Go.Proofs.YtdbmildhfnpokaaDoorW.PrintLast Go.Proofs.YtdbmildhfnpokaaDoorW.PrintMore
attribute [local go_sem] max2_int min2_int max_two min_two max_three min_three max_four min_four   -- for this text's walks alone
set_option linter.unusedVariables false
set_option linter.unusedSimpArgs false

/-! ### transeptlaw02_CrcOne: function 5 -/
def transeptlaw02_CrcOne.f (l0 : List Int) (a1 : Int) (a2 : Int) : Option (Bool) := (transeptlaw02_shown.f).bind fun t126 => ((some (([3, 5] : List Int) : List Int)).bind fun y127 => (if 0 ≤ (mn (l0.length : Int) 1000) then (if (mn (l0.length : Int) 1000) ≤ (l0.length : Int) then (if y127.length + (l0.take ((mn (l0.length : Int) 1000) : Int).toNat).length < 140737488355328 then ((some (y127 ++ (l0.take ((mn (l0.length : Int) 1000) : Int).toNat) : List Int)).bind fun y131 => (if (wrap64 ((y131.length : Int) - 1)) = 0 then (none) else ((some (([] : List Int) : List Int)).bind fun y134 => (if y134.length + y131.length < 140737488355328 then ((some (y134 ++ y131 : List Int)).bind fun y137 => (if 0 ≤ (Int.tmod (Go.bits .and .i64 a1 65535) (wrap64 ((y131.length : Int) - 1))) then (if (Int.tmod (Go.bits .and .i64 a1 65535) (wrap64 ((y131.length : Int) - 1))) < (y137.length : Int) then ((some (([] : List Int) : List Int)).bind fun y141 => (if y141.length + y131.length < 140737488355328 then ((some (y141 ++ y131 : List Int)).bind fun y144 => (if 0 ≤ (wrap64 ((Int.tmod (Go.bits .and .i64 a1 65535) (wrap64 ((y131.length : Int) - 1))) + 1)) then (if (wrap64 ((Int.tmod (Go.bits .and .i64 a1 65535) (wrap64 ((y131.length : Int) - 1))) + 1)) < (y144.length : Int) then (if (Int.tmod (Go.bits .and .i64 a1 65535) (wrap64 ((y131.length : Int) - 1))) < (y144.length : Int) then (if t126 = true then ((crc_Sum.f (y137.set ((Int.tmod (Go.bits .and .i64 a1 65535) (wrap64 ((y131.length : Int) - 1))) : Int).toNat a2)).bind fun t151 => ((crc_Sum.f y131).bind fun t152 => (if (Int.tmod (Go.bits .and .i64 a1 65535) (wrap64 ((y131.length : Int) - 1))) < (y131.length : Int) then (if ((t151 == t152) == (a2 == (rd y131 (Int.tmod (Go.bits .and .i64 a1 65535) (wrap64 ((y131.length : Int) - 1)))))) = true then ((crc_Sum.f ((y144.set ((Int.tmod (Go.bits .and .i64 a1 65535) (wrap64 ((y131.length : Int) - 1))) : Int).toNat (rd y144 (wrap64 ((Int.tmod (Go.bits .and .i64 a1 65535) (wrap64 ((y131.length : Int) - 1))) + 1)))).set ((wrap64 ((Int.tmod (Go.bits .and .i64 a1 65535) (wrap64 ((y131.length : Int) - 1))) + 1)) : Int).toNat (rd y144 (Int.tmod (Go.bits .and .i64 a1 65535) (wrap64 ((y131.length : Int) - 1)))))).bind fun t154 => ((crc_Sum.f y131).bind fun t155 => (if (wrap64 ((Int.tmod (Go.bits .and .i64 a1 65535) (wrap64 ((y131.length : Int) - 1))) + 1)) < (y131.length : Int) then (some ((t154 == t155) == ((rd y131 (Int.tmod (Go.bits .and .i64 a1 65535) (wrap64 ((y131.length : Int) - 1)))) == (rd y131 (wrap64 ((Int.tmod (Go.bits .and .i64 a1 65535) (wrap64 ((y131.length : Int) - 1))) + 1)))))) else (none)))) else (some false)) else (none)))) else (some false)) else (none)) else (none)) else (none))) else (none))) else (none)) else (none))) else (none))))) else (none)) else (none)) else (none)))
def transeptlaw02_CrcOne.T7 : Bool × List (List Nat × List Nat) := (true, [([], []), ([], []), ([], []), ([], []), ([3], [3]), ([], []), ([], []), ([6], [6]), ([5, 7], [5, 7]), ([8], [8]), ([], []), ([], []), ([10, 11], [10, 11]), ([12], [12]), ([0, 1, 0, 1, 5, 6, 7, 8, 9, 13], [0, 1]), ([14, 9, 0, 1, 5, 6, 7, 8, 9, 13], [9, 14]), ([2, 4, 0, 1, 2, 3, 4, 5, 6, 7, 8, 9, 10, 11, 12, 13, 14, 15], [2, 4]), ([16, 13, 15, 0, 1, 2, 3, 4, 5, 6, 7, 8, 9, 10, 11, 12, 13, 14, 15], [13, 16])])
def transeptlaw02_CrcOne.B7 : List Nat := [0, 0, 0, 0, 8, 0, 0, 64, 224, 480, 0, 0, 3072, 7168, 16355, 32739, 65535, 131071]
theorem transeptlaw02_CrcOne.tab7 : rtab .any (opsOf Tryd.f5 7) = transeptlaw02_CrcOne.T7 := by kernel_rfl
theorem transeptlaw02_CrcOne.bits7 : waitsOk transeptlaw02_CrcOne.T7.2 transeptlaw02_CrcOne.B7 = true := by kernel_rfl
def transeptlaw02_CrcOne.T8 : Bool × List (List Nat × List Nat) := (true, [([], []), ([0], [0]), ([1], [1]), ([2, 1, 1], [1, 2]), ([1], [1]), ([4, 3, 1], [1, 4]), ([3, 5, 1], [1, 3, 5]), ([1], [1]), ([1], [1]), ([1], [1]), ([8, 9, 1], [1, 8, 9]), ([10, 1], [1, 10]), ([7, 11, 1], [1, 7, 11]), ([6, 12, 1], [1, 6, 12]), ([1, 13], [1, 13]), ([14, 5], [14]), ([15], [15]), ([16, 15, 15], [15, 16]), ([15], [15]), ([18, 17, 15], [15, 18]), ([17, 19, 15], [15, 17, 19]), ([15], [15]), ([15], [15]), ([21, 22, 15], [15, 21, 22]), ([23, 15], [15, 23]), ([15], [15]), ([15], [15]), ([26, 15], [15, 26]), ([25, 27, 15], [15, 25, 27]), ([28, 15], [15, 28]), ([24, 29, 15], [15, 24, 29]), ([20, 30, 15], [15, 20, 30]), ([15, 31], [15, 31]), ([32, 19, 0, 1, 2, 3, 4, 5, 6, 7, 8, 9, 10, 11, 12, 13, 14, 15, 16, 17, 18, 19, 20, 21, 22, 23, 24, 25, 26, 27, 28, 29, 30, 31, 32], [32])])
def transeptlaw02_CrcOne.B8 : List Nat := [0, 1, 3, 7, 3, 31, 63, 3, 3, 3, 771, 1795, 3971, 8191, 16383, 32767, 65535, 131071, 65535, 524287, 1048575, 65535, 65535, 6356991, 14745599, 65535, 65535, 67174399, 234946559, 503382015, 1071710207, 2147483647, 4294967295, 8589934591]
theorem transeptlaw02_CrcOne.tab8 : rtab .any (opsOf Tryd.f5 8) = transeptlaw02_CrcOne.T8 := by kernel_rfl
theorem transeptlaw02_CrcOne.bits8 : waitsOk transeptlaw02_CrcOne.T8.2 transeptlaw02_CrcOne.B8 = true := by kernel_rfl
set_option maxHeartbeats 8000000 in
set_option maxRecDepth 100000 in
theorem transeptlaw02_CrcOne.calls (A0 : Option Addr) (c0 : Nat) (l0 : List Int) (a1 : Int) (a2 : Int) (r : Bool) (w : World) (hG : Glob w) (hr0 : Kd.C (Kd.int .u8) w A0 l0.length l0) (hc0 : l0.length ≤ c0) (hT_ : r = true) (h : transeptlaw02_CrcOne.f l0 a1 a2 = some r) :
    Calls Tryd.prog 5 #[.slice A0 l0.length c0, .int .i64 a1, .int .u8 a2] w fun e w' => e = .returned (.bool r) ∧ Below w.heap.size w w' := by
  have HG := Aside0.mk hG
  clear hG
  have HT := Aside0.mk hT_
  clear hT_
  have HR0 := Aside0.mk hr0
  have HC0 := Aside0.mk hc0
  clear hr0 hc0
  have HB := Aside0.mk (Below.refl w.heap.size w)
  have H : ((transeptlaw02_shown.f).bind fun t126 => ((some (([3, 5] : List Int) : List Int)).bind fun y127 => (if 0 ≤ (mn (l0.length : Int) 1000) then (if (mn (l0.length : Int) 1000) ≤ (l0.length : Int) then (if y127.length + (l0.take ((mn (l0.length : Int) 1000) : Int).toNat).length < 140737488355328 then ((some (y127 ++ (l0.take ((mn (l0.length : Int) 1000) : Int).toNat) : List Int)).bind fun y131 => (if (wrap64 ((y131.length : Int) - 1)) = 0 then (none) else ((some (([] : List Int) : List Int)).bind fun y134 => (if y134.length + y131.length < 140737488355328 then ((some (y134 ++ y131 : List Int)).bind fun y137 => (if 0 ≤ (Int.tmod (Go.bits .and .i64 a1 65535) (wrap64 ((y131.length : Int) - 1))) then (if (Int.tmod (Go.bits .and .i64 a1 65535) (wrap64 ((y131.length : Int) - 1))) < (y137.length : Int) then ((some (([] : List Int) : List Int)).bind fun y141 => (if y141.length + y131.length < 140737488355328 then ((some (y141 ++ y131 : List Int)).bind fun y144 => (if 0 ≤ (wrap64 ((Int.tmod (Go.bits .and .i64 a1 65535) (wrap64 ((y131.length : Int) - 1))) + 1)) then (if (wrap64 ((Int.tmod (Go.bits .and .i64 a1 65535) (wrap64 ((y131.length : Int) - 1))) + 1)) < (y144.length : Int) then (if (Int.tmod (Go.bits .and .i64 a1 65535) (wrap64 ((y131.length : Int) - 1))) < (y144.length : Int) then (if t126 = true then ((crc_Sum.f (y137.set ((Int.tmod (Go.bits .and .i64 a1 65535) (wrap64 ((y131.length : Int) - 1))) : Int).toNat a2)).bind fun t151 => ((crc_Sum.f y131).bind fun t152 => (if (Int.tmod (Go.bits .and .i64 a1 65535) (wrap64 ((y131.length : Int) - 1))) < (y131.length : Int) then (if ((t151 == t152) == (a2 == (rd y131 (Int.tmod (Go.bits .and .i64 a1 65535) (wrap64 ((y131.length : Int) - 1)))))) = true then ((crc_Sum.f ((y144.set ((Int.tmod (Go.bits .and .i64 a1 65535) (wrap64 ((y131.length : Int) - 1))) : Int).toNat (rd y144 (wrap64 ((Int.tmod (Go.bits .and .i64 a1 65535) (wrap64 ((y131.length : Int) - 1))) + 1)))).set ((wrap64 ((Int.tmod (Go.bits .and .i64 a1 65535) (wrap64 ((y131.length : Int) - 1))) + 1)) : Int).toNat (rd y144 (Int.tmod (Go.bits .and .i64 a1 65535) (wrap64 ((y131.length : Int) - 1)))))).bind fun t154 => ((crc_Sum.f y131).bind fun t155 => (if (wrap64 ((Int.tmod (Go.bits .and .i64 a1 65535) (wrap64 ((y131.length : Int) - 1))) + 1)) < (y131.length : Int) then (some ((t154 == t155) == ((rd y131 (Int.tmod (Go.bits .and .i64 a1 65535) (wrap64 ((y131.length : Int) - 1)))) == (rd y131 (wrap64 ((Int.tmod (Go.bits .and .i64 a1 65535) (wrap64 ((y131.length : Int) - 1))) + 1)))))) else (none)))) else (some false)) else (none)))) else (some false)) else (none)) else (none)) else (none))) else (none))) else (none)) else (none))) else (none))))) else (none)) else (none)) else (none)))) = some r := h
  clear h
  replace H := Option.bind_eq_some_iff.mp H
  obtain ⟨t126, A40, H⟩ := H
  replace H : ((some (([3, 5] : List Int) : List Int)).bind fun y127 => (if 0 ≤ (mn (l0.length : Int) 1000) then (if (mn (l0.length : Int) 1000) ≤ (l0.length : Int) then (if y127.length + (l0.take ((mn (l0.length : Int) 1000) : Int).toNat).length < 140737488355328 then ((some (y127 ++ (l0.take ((mn (l0.length : Int) 1000) : Int).toNat) : List Int)).bind fun y131 => (if (wrap64 ((y131.length : Int) - 1)) = 0 then (none) else ((some (([] : List Int) : List Int)).bind fun y134 => (if y134.length + y131.length < 140737488355328 then ((some (y134 ++ y131 : List Int)).bind fun y137 => (if 0 ≤ (Int.tmod (Go.bits .and .i64 a1 65535) (wrap64 ((y131.length : Int) - 1))) then (if (Int.tmod (Go.bits .and .i64 a1 65535) (wrap64 ((y131.length : Int) - 1))) < (y137.length : Int) then ((some (([] : List Int) : List Int)).bind fun y141 => (if y141.length + y131.length < 140737488355328 then ((some (y141 ++ y131 : List Int)).bind fun y144 => (if 0 ≤ (wrap64 ((Int.tmod (Go.bits .and .i64 a1 65535) (wrap64 ((y131.length : Int) - 1))) + 1)) then (if (wrap64 ((Int.tmod (Go.bits .and .i64 a1 65535) (wrap64 ((y131.length : Int) - 1))) + 1)) < (y144.length : Int) then (if (Int.tmod (Go.bits .and .i64 a1 65535) (wrap64 ((y131.length : Int) - 1))) < (y144.length : Int) then (if t126 = true then ((crc_Sum.f (y137.set ((Int.tmod (Go.bits .and .i64 a1 65535) (wrap64 ((y131.length : Int) - 1))) : Int).toNat a2)).bind fun t151 => ((crc_Sum.f y131).bind fun t152 => (if (Int.tmod (Go.bits .and .i64 a1 65535) (wrap64 ((y131.length : Int) - 1))) < (y131.length : Int) then (if ((t151 == t152) == (a2 == (rd y131 (Int.tmod (Go.bits .and .i64 a1 65535) (wrap64 ((y131.length : Int) - 1)))))) = true then ((crc_Sum.f ((y144.set ((Int.tmod (Go.bits .and .i64 a1 65535) (wrap64 ((y131.length : Int) - 1))) : Int).toNat (rd y144 (wrap64 ((Int.tmod (Go.bits .and .i64 a1 65535) (wrap64 ((y131.length : Int) - 1))) + 1)))).set ((wrap64 ((Int.tmod (Go.bits .and .i64 a1 65535) (wrap64 ((y131.length : Int) - 1))) + 1)) : Int).toNat (rd y144 (Int.tmod (Go.bits .and .i64 a1 65535) (wrap64 ((y131.length : Int) - 1)))))).bind fun t154 => ((crc_Sum.f y131).bind fun t155 => (if (wrap64 ((Int.tmod (Go.bits .and .i64 a1 65535) (wrap64 ((y131.length : Int) - 1))) + 1)) < (y131.length : Int) then (some ((t154 == t155) == ((rd y131 (Int.tmod (Go.bits .and .i64 a1 65535) (wrap64 ((y131.length : Int) - 1)))) == (rd y131 (wrap64 ((Int.tmod (Go.bits .and .i64 a1 65535) (wrap64 ((y131.length : Int) - 1))) + 1)))))) else (none)))) else (some false)) else (none)))) else (some false)) else (none)) else (none)) else (none))) else (none))) else (none)) else (none))) else (none))))) else (none)) else (none)) else (none))) = some r := H
  have A4 := Aside0.mk A40
  clear A40
  obtain ⟨y127, hy127⟩ : ∃ y_ : List Int, y_ = (([3, 5] : List Int)) := ⟨_, rfl⟩
  replace H : (if 0 ≤ (mn (l0.length : Int) 1000) then (if (mn (l0.length : Int) 1000) ≤ (l0.length : Int) then (if y127.length + (l0.take ((mn (l0.length : Int) 1000) : Int).toNat).length < 140737488355328 then ((some (y127 ++ (l0.take ((mn (l0.length : Int) 1000) : Int).toNat) : List Int)).bind fun y131 => (if (wrap64 ((y131.length : Int) - 1)) = 0 then (none) else ((some (([] : List Int) : List Int)).bind fun y134 => (if y134.length + y131.length < 140737488355328 then ((some (y134 ++ y131 : List Int)).bind fun y137 => (if 0 ≤ (Int.tmod (Go.bits .and .i64 a1 65535) (wrap64 ((y131.length : Int) - 1))) then (if (Int.tmod (Go.bits .and .i64 a1 65535) (wrap64 ((y131.length : Int) - 1))) < (y137.length : Int) then ((some (([] : List Int) : List Int)).bind fun y141 => (if y141.length + y131.length < 140737488355328 then ((some (y141 ++ y131 : List Int)).bind fun y144 => (if 0 ≤ (wrap64 ((Int.tmod (Go.bits .and .i64 a1 65535) (wrap64 ((y131.length : Int) - 1))) + 1)) then (if (wrap64 ((Int.tmod (Go.bits .and .i64 a1 65535) (wrap64 ((y131.length : Int) - 1))) + 1)) < (y144.length : Int) then (if (Int.tmod (Go.bits .and .i64 a1 65535) (wrap64 ((y131.length : Int) - 1))) < (y144.length : Int) then (if t126 = true then ((crc_Sum.f (y137.set ((Int.tmod (Go.bits .and .i64 a1 65535) (wrap64 ((y131.length : Int) - 1))) : Int).toNat a2)).bind fun t151 => ((crc_Sum.f y131).bind fun t152 => (if (Int.tmod (Go.bits .and .i64 a1 65535) (wrap64 ((y131.length : Int) - 1))) < (y131.length : Int) then (if ((t151 == t152) == (a2 == (rd y131 (Int.tmod (Go.bits .and .i64 a1 65535) (wrap64 ((y131.length : Int) - 1)))))) = true then ((crc_Sum.f ((y144.set ((Int.tmod (Go.bits .and .i64 a1 65535) (wrap64 ((y131.length : Int) - 1))) : Int).toNat (rd y144 (wrap64 ((Int.tmod (Go.bits .and .i64 a1 65535) (wrap64 ((y131.length : Int) - 1))) + 1)))).set ((wrap64 ((Int.tmod (Go.bits .and .i64 a1 65535) (wrap64 ((y131.length : Int) - 1))) + 1)) : Int).toNat (rd y144 (Int.tmod (Go.bits .and .i64 a1 65535) (wrap64 ((y131.length : Int) - 1)))))).bind fun t154 => ((crc_Sum.f y131).bind fun t155 => (if (wrap64 ((Int.tmod (Go.bits .and .i64 a1 65535) (wrap64 ((y131.length : Int) - 1))) + 1)) < (y131.length : Int) then (some ((t154 == t155) == ((rd y131 (Int.tmod (Go.bits .and .i64 a1 65535) (wrap64 ((y131.length : Int) - 1)))) == (rd y131 (wrap64 ((Int.tmod (Go.bits .and .i64 a1 65535) (wrap64 ((y131.length : Int) - 1))) + 1)))))) else (none)))) else (some false)) else (none)))) else (some false)) else (none)) else (none)) else (none))) else (none))) else (none)) else (none))) else (none))))) else (none)) else (none)) else (none)) = some r := by first | (rw [hy127]; with_reducible exact H) | (have H2_ := (Option.bind_some _ _).symm.trans H; rw [hy127]; with_reducible exact H2_) | (have H2_ := (Option.bind_some _ _).symm.trans H; with_reducible exact H2_) | with_reducible exact H | (rw [hy127]; exact H) | exact H
  have Ny127 := Aside0.mk hy127
  clear hy127
  obtain ⟨ji5, hji5⟩ : ∃ j_ : Int, (mn (l0.length : Int) 1000) = j_ := ⟨_, rfl⟩
  replace H : (if 0 ≤ (ji5) then (if (ji5) ≤ (l0.length : Int) then (if y127.length + (l0.take ((ji5) : Int).toNat).length < 140737488355328 then ((some (y127 ++ (l0.take ((ji5) : Int).toNat) : List Int)).bind fun y131 => (if (wrap64 ((y131.length : Int) - 1)) = 0 then (none) else ((some (([] : List Int) : List Int)).bind fun y134 => (if y134.length + y131.length < 140737488355328 then ((some (y134 ++ y131 : List Int)).bind fun y137 => (if 0 ≤ (Int.tmod (Go.bits .and .i64 a1 65535) (wrap64 ((y131.length : Int) - 1))) then (if (Int.tmod (Go.bits .and .i64 a1 65535) (wrap64 ((y131.length : Int) - 1))) < (y137.length : Int) then ((some (([] : List Int) : List Int)).bind fun y141 => (if y141.length + y131.length < 140737488355328 then ((some (y141 ++ y131 : List Int)).bind fun y144 => (if 0 ≤ (wrap64 ((Int.tmod (Go.bits .and .i64 a1 65535) (wrap64 ((y131.length : Int) - 1))) + 1)) then (if (wrap64 ((Int.tmod (Go.bits .and .i64 a1 65535) (wrap64 ((y131.length : Int) - 1))) + 1)) < (y144.length : Int) then (if (Int.tmod (Go.bits .and .i64 a1 65535) (wrap64 ((y131.length : Int) - 1))) < (y144.length : Int) then (if t126 = true then ((crc_Sum.f (y137.set ((Int.tmod (Go.bits .and .i64 a1 65535) (wrap64 ((y131.length : Int) - 1))) : Int).toNat a2)).bind fun t151 => ((crc_Sum.f y131).bind fun t152 => (if (Int.tmod (Go.bits .and .i64 a1 65535) (wrap64 ((y131.length : Int) - 1))) < (y131.length : Int) then (if ((t151 == t152) == (a2 == (rd y131 (Int.tmod (Go.bits .and .i64 a1 65535) (wrap64 ((y131.length : Int) - 1)))))) = true then ((crc_Sum.f ((y144.set ((Int.tmod (Go.bits .and .i64 a1 65535) (wrap64 ((y131.length : Int) - 1))) : Int).toNat (rd y144 (wrap64 ((Int.tmod (Go.bits .and .i64 a1 65535) (wrap64 ((y131.length : Int) - 1))) + 1)))).set ((wrap64 ((Int.tmod (Go.bits .and .i64 a1 65535) (wrap64 ((y131.length : Int) - 1))) + 1)) : Int).toNat (rd y144 (Int.tmod (Go.bits .and .i64 a1 65535) (wrap64 ((y131.length : Int) - 1)))))).bind fun t154 => ((crc_Sum.f y131).bind fun t155 => (if (wrap64 ((Int.tmod (Go.bits .and .i64 a1 65535) (wrap64 ((y131.length : Int) - 1))) + 1)) < (y131.length : Int) then (some ((t154 == t155) == ((rd y131 (Int.tmod (Go.bits .and .i64 a1 65535) (wrap64 ((y131.length : Int) - 1)))) == (rd y131 (wrap64 ((Int.tmod (Go.bits .and .i64 a1 65535) (wrap64 ((y131.length : Int) - 1))) + 1)))))) else (none)))) else (some false)) else (none)))) else (some false)) else (none)) else (none)) else (none))) else (none))) else (none)) else (none))) else (none))))) else (none)) else (none)) else (none)) = some r := by first | (rw [hji5] at H; exact H) | (simp only [hji5] at H ⊢; exact H)
  (try rw [hji5] at A4)
  (try (have hji5h : ji5 ≤ 1000 := by (rw [← hji5]; unfold mn; (repeat' split) <;> omega)))
  (try (have hji5g : ji5 ≤ 64 := by omega))
  (try (have hji5l : 0 ≤ ji5 := by (rw [← hji5]; unfold mn; (repeat' split) <;> omega)))
  (try (have hji5m : 0 ≤ ji5 := by omega))
  have hji5_ : (if 1000 < (l0.length : Int) then 1000 else (l0.length : Int)) = ji5 := hji5
  by_cases c6 : 0 ≤ (ji5)
  · rw [if_pos c6] at H
    have c6b0 := eq_true c6
    have c6b1 : decide (0 ≤ (ji5)) = true := decide_eq_true c6
    clear c6
    by_cases c7 : (ji5) ≤ (l0.length : Int)
    · rw [if_pos c7] at H
      have c7b0 := eq_true c7
      have c7b1 : decide ((ji5) ≤ (l0.length : Int)) = true := decide_eq_true c7
      clear c7
      by_cases c8 : y127.length + (l0.take ((ji5) : Int).toNat).length < 140737488355328
      · rw [if_pos c8] at H
        have LMc8 := Aside0.mk c8
        clear c8
        obtain ⟨y131, hy131⟩ : ∃ y_ : List Int, y_ = (y127 ++ (l0.take ((ji5) : Int).toNat)) := ⟨_, rfl⟩
        replace H : (if (wrap64 ((y131.length : Int) - 1)) = 0 then (none) else ((some (([] : List Int) : List Int)).bind fun y134 => (if y134.length + y131.length < 140737488355328 then ((some (y134 ++ y131 : List Int)).bind fun y137 => (if 0 ≤ (Int.tmod (Go.bits .and .i64 a1 65535) (wrap64 ((y131.length : Int) - 1))) then (if (Int.tmod (Go.bits .and .i64 a1 65535) (wrap64 ((y131.length : Int) - 1))) < (y137.length : Int) then ((some (([] : List Int) : List Int)).bind fun y141 => (if y141.length + y131.length < 140737488355328 then ((some (y141 ++ y131 : List Int)).bind fun y144 => (if 0 ≤ (wrap64 ((Int.tmod (Go.bits .and .i64 a1 65535) (wrap64 ((y131.length : Int) - 1))) + 1)) then (if (wrap64 ((Int.tmod (Go.bits .and .i64 a1 65535) (wrap64 ((y131.length : Int) - 1))) + 1)) < (y144.length : Int) then (if (Int.tmod (Go.bits .and .i64 a1 65535) (wrap64 ((y131.length : Int) - 1))) < (y144.length : Int) then (if t126 = true then ((crc_Sum.f (y137.set ((Int.tmod (Go.bits .and .i64 a1 65535) (wrap64 ((y131.length : Int) - 1))) : Int).toNat a2)).bind fun t151 => ((crc_Sum.f y131).bind fun t152 => (if (Int.tmod (Go.bits .and .i64 a1 65535) (wrap64 ((y131.length : Int) - 1))) < (y131.length : Int) then (if ((t151 == t152) == (a2 == (rd y131 (Int.tmod (Go.bits .and .i64 a1 65535) (wrap64 ((y131.length : Int) - 1)))))) = true then ((crc_Sum.f ((y144.set ((Int.tmod (Go.bits .and .i64 a1 65535) (wrap64 ((y131.length : Int) - 1))) : Int).toNat (rd y144 (wrap64 ((Int.tmod (Go.bits .and .i64 a1 65535) (wrap64 ((y131.length : Int) - 1))) + 1)))).set ((wrap64 ((Int.tmod (Go.bits .and .i64 a1 65535) (wrap64 ((y131.length : Int) - 1))) + 1)) : Int).toNat (rd y144 (Int.tmod (Go.bits .and .i64 a1 65535) (wrap64 ((y131.length : Int) - 1)))))).bind fun t154 => ((crc_Sum.f y131).bind fun t155 => (if (wrap64 ((Int.tmod (Go.bits .and .i64 a1 65535) (wrap64 ((y131.length : Int) - 1))) + 1)) < (y131.length : Int) then (some ((t154 == t155) == ((rd y131 (Int.tmod (Go.bits .and .i64 a1 65535) (wrap64 ((y131.length : Int) - 1)))) == (rd y131 (wrap64 ((Int.tmod (Go.bits .and .i64 a1 65535) (wrap64 ((y131.length : Int) - 1))) + 1)))))) else (none)))) else (some false)) else (none)))) else (some false)) else (none)) else (none)) else (none))) else (none))) else (none)) else (none))) else (none)))) = some r := by first | (rw [hy131]; with_reducible exact H) | (have H2_ := (Option.bind_some _ _).symm.trans H; rw [hy131]; with_reducible exact H2_) | (have H2_ := (Option.bind_some _ _).symm.trans H; with_reducible exact H2_) | with_reducible exact H | (rw [hy131]; exact H) | exact H
        have Ny131 := Aside0.mk hy131
        clear hy131
        by_cases c9 : (wrap64 ((y131.length : Int) - 1)) = 0
        · rw [if_pos c9] at H
          exact absurd H (by simp)
        · rw [if_neg c9] at H
          have c9b0 : ((wrap64 ((y131.length : Int) - 1)) == 0) = false := beq_eq_false_iff_ne.mpr c9
          have c9b1 : ((wrap64 ((y131.length : Int) - 1)) != 0) = true := bne_iff_ne.mpr c9
          obtain ⟨y134, hy134⟩ : ∃ y_ : List Int, y_ = (([] : List Int)) := ⟨_, rfl⟩
          replace H : (if y134.length + y131.length < 140737488355328 then ((some (y134 ++ y131 : List Int)).bind fun y137 => (if 0 ≤ (Int.tmod (Go.bits .and .i64 a1 65535) (wrap64 ((y131.length : Int) - 1))) then (if (Int.tmod (Go.bits .and .i64 a1 65535) (wrap64 ((y131.length : Int) - 1))) < (y137.length : Int) then ((some (([] : List Int) : List Int)).bind fun y141 => (if y141.length + y131.length < 140737488355328 then ((some (y141 ++ y131 : List Int)).bind fun y144 => (if 0 ≤ (wrap64 ((Int.tmod (Go.bits .and .i64 a1 65535) (wrap64 ((y131.length : Int) - 1))) + 1)) then (if (wrap64 ((Int.tmod (Go.bits .and .i64 a1 65535) (wrap64 ((y131.length : Int) - 1))) + 1)) < (y144.length : Int) then (if (Int.tmod (Go.bits .and .i64 a1 65535) (wrap64 ((y131.length : Int) - 1))) < (y144.length : Int) then (if t126 = true then ((crc_Sum.f (y137.set ((Int.tmod (Go.bits .and .i64 a1 65535) (wrap64 ((y131.length : Int) - 1))) : Int).toNat a2)).bind fun t151 => ((crc_Sum.f y131).bind fun t152 => (if (Int.tmod (Go.bits .and .i64 a1 65535) (wrap64 ((y131.length : Int) - 1))) < (y131.length : Int) then (if ((t151 == t152) == (a2 == (rd y131 (Int.tmod (Go.bits .and .i64 a1 65535) (wrap64 ((y131.length : Int) - 1)))))) = true then ((crc_Sum.f ((y144.set ((Int.tmod (Go.bits .and .i64 a1 65535) (wrap64 ((y131.length : Int) - 1))) : Int).toNat (rd y144 (wrap64 ((Int.tmod (Go.bits .and .i64 a1 65535) (wrap64 ((y131.length : Int) - 1))) + 1)))).set ((wrap64 ((Int.tmod (Go.bits .and .i64 a1 65535) (wrap64 ((y131.length : Int) - 1))) + 1)) : Int).toNat (rd y144 (Int.tmod (Go.bits .and .i64 a1 65535) (wrap64 ((y131.length : Int) - 1)))))).bind fun t154 => ((crc_Sum.f y131).bind fun t155 => (if (wrap64 ((Int.tmod (Go.bits .and .i64 a1 65535) (wrap64 ((y131.length : Int) - 1))) + 1)) < (y131.length : Int) then (some ((t154 == t155) == ((rd y131 (Int.tmod (Go.bits .and .i64 a1 65535) (wrap64 ((y131.length : Int) - 1)))) == (rd y131 (wrap64 ((Int.tmod (Go.bits .and .i64 a1 65535) (wrap64 ((y131.length : Int) - 1))) + 1)))))) else (none)))) else (some false)) else (none)))) else (some false)) else (none)) else (none)) else (none))) else (none))) else (none)) else (none))) else (none)) = some r := by first | (rw [hy134]; with_reducible exact H) | (have H2_ := (Option.bind_some _ _).symm.trans H; rw [hy134]; with_reducible exact H2_) | (have H2_ := (Option.bind_some _ _).symm.trans H; with_reducible exact H2_) | with_reducible exact H | (rw [hy134]; exact H) | exact H
          have Ny134 := Aside0.mk hy134
          clear hy134
          by_cases c10 : y134.length + y131.length < 140737488355328
          · rw [if_pos c10] at H
            have LMc10 := Aside0.mk c10
            clear c10
            obtain ⟨y137, hy137⟩ : ∃ y_ : List Int, y_ = (y134 ++ y131) := ⟨_, rfl⟩
            replace H : (if 0 ≤ (Int.tmod (Go.bits .and .i64 a1 65535) (wrap64 ((y131.length : Int) - 1))) then (if (Int.tmod (Go.bits .and .i64 a1 65535) (wrap64 ((y131.length : Int) - 1))) < (y137.length : Int) then ((some (([] : List Int) : List Int)).bind fun y141 => (if y141.length + y131.length < 140737488355328 then ((some (y141 ++ y131 : List Int)).bind fun y144 => (if 0 ≤ (wrap64 ((Int.tmod (Go.bits .and .i64 a1 65535) (wrap64 ((y131.length : Int) - 1))) + 1)) then (if (wrap64 ((Int.tmod (Go.bits .and .i64 a1 65535) (wrap64 ((y131.length : Int) - 1))) + 1)) < (y144.length : Int) then (if (Int.tmod (Go.bits .and .i64 a1 65535) (wrap64 ((y131.length : Int) - 1))) < (y144.length : Int) then (if t126 = true then ((crc_Sum.f (y137.set ((Int.tmod (Go.bits .and .i64 a1 65535) (wrap64 ((y131.length : Int) - 1))) : Int).toNat a2)).bind fun t151 => ((crc_Sum.f y131).bind fun t152 => (if (Int.tmod (Go.bits .and .i64 a1 65535) (wrap64 ((y131.length : Int) - 1))) < (y131.length : Int) then (if ((t151 == t152) == (a2 == (rd y131 (Int.tmod (Go.bits .and .i64 a1 65535) (wrap64 ((y131.length : Int) - 1)))))) = true then ((crc_Sum.f ((y144.set ((Int.tmod (Go.bits .and .i64 a1 65535) (wrap64 ((y131.length : Int) - 1))) : Int).toNat (rd y144 (wrap64 ((Int.tmod (Go.bits .and .i64 a1 65535) (wrap64 ((y131.length : Int) - 1))) + 1)))).set ((wrap64 ((Int.tmod (Go.bits .and .i64 a1 65535) (wrap64 ((y131.length : Int) - 1))) + 1)) : Int).toNat (rd y144 (Int.tmod (Go.bits .and .i64 a1 65535) (wrap64 ((y131.length : Int) - 1)))))).bind fun t154 => ((crc_Sum.f y131).bind fun t155 => (if (wrap64 ((Int.tmod (Go.bits .and .i64 a1 65535) (wrap64 ((y131.length : Int) - 1))) + 1)) < (y131.length : Int) then (some ((t154 == t155) == ((rd y131 (Int.tmod (Go.bits .and .i64 a1 65535) (wrap64 ((y131.length : Int) - 1)))) == (rd y131 (wrap64 ((Int.tmod (Go.bits .and .i64 a1 65535) (wrap64 ((y131.length : Int) - 1))) + 1)))))) else (none)))) else (some false)) else (none)))) else (some false)) else (none)) else (none)) else (none))) else (none))) else (none)) else (none)) = some r := by first | (rw [hy137]; with_reducible exact H) | (have H2_ := (Option.bind_some _ _).symm.trans H; rw [hy137]; with_reducible exact H2_) | (have H2_ := (Option.bind_some _ _).symm.trans H; with_reducible exact H2_) | with_reducible exact H | (rw [hy137]; exact H) | exact H
            have Ny137 := Aside0.mk hy137
            clear hy137
            obtain ⟨ji11, hji11⟩ : ∃ j_ : Int, (Int.tmod (Go.bits .and .i64 a1 65535) (wrap64 ((y131.length : Int) - 1))) = j_ := ⟨_, rfl⟩
            replace H : (if 0 ≤ (ji11) then (if (ji11) < (y137.length : Int) then ((some (([] : List Int) : List Int)).bind fun y141 => (if y141.length + y131.length < 140737488355328 then ((some (y141 ++ y131 : List Int)).bind fun y144 => (if 0 ≤ (wrap64 ((ji11) + 1)) then (if (wrap64 ((ji11) + 1)) < (y144.length : Int) then (if (ji11) < (y144.length : Int) then (if t126 = true then ((crc_Sum.f (y137.set ((ji11) : Int).toNat a2)).bind fun t151 => ((crc_Sum.f y131).bind fun t152 => (if (ji11) < (y131.length : Int) then (if ((t151 == t152) == (a2 == (rd y131 (ji11)))) = true then ((crc_Sum.f ((y144.set ((ji11) : Int).toNat (rd y144 (wrap64 ((ji11) + 1)))).set ((wrap64 ((ji11) + 1)) : Int).toNat (rd y144 (ji11)))).bind fun t154 => ((crc_Sum.f y131).bind fun t155 => (if (wrap64 ((ji11) + 1)) < (y131.length : Int) then (some ((t154 == t155) == ((rd y131 (ji11)) == (rd y131 (wrap64 ((ji11) + 1)))))) else (none)))) else (some false)) else (none)))) else (some false)) else (none)) else (none)) else (none))) else (none))) else (none)) else (none)) = some r := by first | (rw [hji11] at H; exact H) | (simp only [hji11] at H ⊢; exact H)
            (try rw [hji11] at A4)
            by_cases c12 : 0 ≤ (ji11)
            · rw [if_pos c12] at H
              have c12b0 : decide (0 ≤ (ji11)) = true := decide_eq_true c12
              clear c12
              by_cases c13 : (ji11) < (y137.length : Int)
              · rw [if_pos c13] at H
                have c13b0 : decide ((ji11) < (y137.length : Int)) = true := decide_eq_true c13
                clear c13
                obtain ⟨y140, hy140⟩ : ∃ y_ : List Int, y_ = (y137.set ((ji11) : Int).toNat a2) := ⟨_, rfl⟩
                replace H : ((some (([] : List Int) : List Int)).bind fun y141 => (if y141.length + y131.length < 140737488355328 then ((some (y141 ++ y131 : List Int)).bind fun y144 => (if 0 ≤ (wrap64 ((ji11) + 1)) then (if (wrap64 ((ji11) + 1)) < (y144.length : Int) then (if (ji11) < (y144.length : Int) then (if t126 = true then ((crc_Sum.f y140).bind fun t151 => ((crc_Sum.f y131).bind fun t152 => (if (ji11) < (y131.length : Int) then (if ((t151 == t152) == (a2 == (rd y131 (ji11)))) = true then ((crc_Sum.f ((y144.set ((ji11) : Int).toNat (rd y144 (wrap64 ((ji11) + 1)))).set ((wrap64 ((ji11) + 1)) : Int).toNat (rd y144 (ji11)))).bind fun t154 => ((crc_Sum.f y131).bind fun t155 => (if (wrap64 ((ji11) + 1)) < (y131.length : Int) then (some ((t154 == t155) == ((rd y131 (ji11)) == (rd y131 (wrap64 ((ji11) + 1)))))) else (none)))) else (some false)) else (none)))) else (some false)) else (none)) else (none)) else (none))) else (none))) = some r := by first | (rw [hy140]; with_reducible exact H) | (have H2_ := (Option.bind_some _ _).symm.trans H; rw [hy140]; with_reducible exact H2_) | (have H2_ := (Option.bind_some _ _).symm.trans H; with_reducible exact H2_) | with_reducible exact H | (rw [hy140]; exact H) | exact H
                have Ny140 := Aside0.mk hy140
                clear hy140
                obtain ⟨y141, hy141⟩ : ∃ y_ : List Int, y_ = (([] : List Int)) := ⟨_, rfl⟩
                replace H : (if y141.length + y131.length < 140737488355328 then ((some (y141 ++ y131 : List Int)).bind fun y144 => (if 0 ≤ (wrap64 ((ji11) + 1)) then (if (wrap64 ((ji11) + 1)) < (y144.length : Int) then (if (ji11) < (y144.length : Int) then (if t126 = true then ((crc_Sum.f y140).bind fun t151 => ((crc_Sum.f y131).bind fun t152 => (if (ji11) < (y131.length : Int) then (if ((t151 == t152) == (a2 == (rd y131 (ji11)))) = true then ((crc_Sum.f ((y144.set ((ji11) : Int).toNat (rd y144 (wrap64 ((ji11) + 1)))).set ((wrap64 ((ji11) + 1)) : Int).toNat (rd y144 (ji11)))).bind fun t154 => ((crc_Sum.f y131).bind fun t155 => (if (wrap64 ((ji11) + 1)) < (y131.length : Int) then (some ((t154 == t155) == ((rd y131 (ji11)) == (rd y131 (wrap64 ((ji11) + 1)))))) else (none)))) else (some false)) else (none)))) else (some false)) else (none)) else (none)) else (none))) else (none)) = some r := by first | (rw [hy141]; with_reducible exact H) | (have H2_ := (Option.bind_some _ _).symm.trans H; rw [hy141]; with_reducible exact H2_) | (have H2_ := (Option.bind_some _ _).symm.trans H; with_reducible exact H2_) | with_reducible exact H | (rw [hy141]; exact H) | exact H
                have Ny141 := Aside0.mk hy141
                clear hy141
                by_cases c15 : y141.length + y131.length < 140737488355328
                · rw [if_pos c15] at H
                  have LMc15 := Aside0.mk c15
                  clear c15
                  obtain ⟨y144, hy144⟩ : ∃ y_ : List Int, y_ = (y141 ++ y131) := ⟨_, rfl⟩
                  replace H : (if 0 ≤ (wrap64 ((ji11) + 1)) then (if (wrap64 ((ji11) + 1)) < (y144.length : Int) then (if (ji11) < (y144.length : Int) then (if t126 = true then ((crc_Sum.f y140).bind fun t151 => ((crc_Sum.f y131).bind fun t152 => (if (ji11) < (y131.length : Int) then (if ((t151 == t152) == (a2 == (rd y131 (ji11)))) = true then ((crc_Sum.f ((y144.set ((ji11) : Int).toNat (rd y144 (wrap64 ((ji11) + 1)))).set ((wrap64 ((ji11) + 1)) : Int).toNat (rd y144 (ji11)))).bind fun t154 => ((crc_Sum.f y131).bind fun t155 => (if (wrap64 ((ji11) + 1)) < (y131.length : Int) then (some ((t154 == t155) == ((rd y131 (ji11)) == (rd y131 (wrap64 ((ji11) + 1)))))) else (none)))) else (some false)) else (none)))) else (some false)) else (none)) else (none)) else (none)) = some r := by first | (rw [hy144]; with_reducible exact H) | (have H2_ := (Option.bind_some _ _).symm.trans H; rw [hy144]; with_reducible exact H2_) | (have H2_ := (Option.bind_some _ _).symm.trans H; with_reducible exact H2_) | with_reducible exact H | (rw [hy144]; exact H) | exact H
                  have Ny144 := Aside0.mk hy144
                  clear hy144
                  obtain ⟨ji16, hji16⟩ : ∃ j_ : Int, (wrap64 ((ji11) + 1)) = j_ := ⟨_, rfl⟩
                  replace H : (if 0 ≤ (ji16) then (if (ji16) < (y144.length : Int) then (if (ji11) < (y144.length : Int) then (if t126 = true then ((crc_Sum.f y140).bind fun t151 => ((crc_Sum.f y131).bind fun t152 => (if (ji11) < (y131.length : Int) then (if ((t151 == t152) == (a2 == (rd y131 (ji11)))) = true then ((crc_Sum.f ((y144.set ((ji11) : Int).toNat (rd y144 (ji16))).set ((ji16) : Int).toNat (rd y144 (ji11)))).bind fun t154 => ((crc_Sum.f y131).bind fun t155 => (if (ji16) < (y131.length : Int) then (some ((t154 == t155) == ((rd y131 (ji11)) == (rd y131 (ji16))))) else (none)))) else (some false)) else (none)))) else (some false)) else (none)) else (none)) else (none)) = some r := by first | (rw [hji16] at H; exact H) | (simp only [hji16] at H ⊢; exact H)
                  (try rw [hji16] at A4)
                  have hji16w : (IntKind.i64.wrap ((ji11) + 1)) = ji16 := (i64_w _).trans hji16
                  by_cases c17 : 0 ≤ (ji16)
                  · rw [if_pos c17] at H
                    have c17b0 : decide (0 ≤ (ji16)) = true := decide_eq_true c17
                    clear c17
                    by_cases c18 : (ji16) < (y144.length : Int)
                    · rw [if_pos c18] at H
                      have c18b0 : decide ((ji16) < (y144.length : Int)) = true := decide_eq_true c18
                      clear c18
                      by_cases c19 : (ji11) < (y144.length : Int)
                      · rw [if_pos c19] at H
                        have c19b0 : decide ((ji11) < (y144.length : Int)) = true := decide_eq_true c19
                        clear c19
                        obtain ⟨y149, hy149⟩ : ∃ y_ : List Int, y_ = (y144.set ((ji11) : Int).toNat (rd y144 (ji16))) := ⟨_, rfl⟩
                        replace H : (if t126 = true then ((crc_Sum.f y140).bind fun t151 => ((crc_Sum.f y131).bind fun t152 => (if (ji11) < (y131.length : Int) then (if ((t151 == t152) == (a2 == (rd y131 (ji11)))) = true then ((crc_Sum.f (y149.set ((ji16) : Int).toNat (rd y144 (ji11)))).bind fun t154 => ((crc_Sum.f y131).bind fun t155 => (if (ji16) < (y131.length : Int) then (some ((t154 == t155) == ((rd y131 (ji11)) == (rd y131 (ji16))))) else (none)))) else (some false)) else (none)))) else (some false)) = some r := by first | (rw [hy149]; with_reducible exact H) | (have H2_ := (Option.bind_some _ _).symm.trans H; rw [hy149]; with_reducible exact H2_) | (have H2_ := (Option.bind_some _ _).symm.trans H; with_reducible exact H2_) | with_reducible exact H | (rw [hy149]; exact H) | exact H
                        have Ny149 := Aside0.mk hy149
                        clear hy149
                        obtain ⟨y150, hy150⟩ : ∃ y_ : List Int, y_ = (y149.set ((ji16) : Int).toNat (rd y144 (ji11))) := ⟨_, rfl⟩
                        replace H : (if t126 = true then ((crc_Sum.f y140).bind fun t151 => ((crc_Sum.f y131).bind fun t152 => (if (ji11) < (y131.length : Int) then (if ((t151 == t152) == (a2 == (rd y131 (ji11)))) = true then ((crc_Sum.f y150).bind fun t154 => ((crc_Sum.f y131).bind fun t155 => (if (ji16) < (y131.length : Int) then (some ((t154 == t155) == ((rd y131 (ji11)) == (rd y131 (ji16))))) else (none)))) else (some false)) else (none)))) else (some false)) = some r := by first | (rw [hy150]; with_reducible exact H) | (have H2_ := (Option.bind_some _ _).symm.trans H; rw [hy150]; with_reducible exact H2_) | (have H2_ := (Option.bind_some _ _).symm.trans H; with_reducible exact H2_) | with_reducible exact H | (rw [hy150]; exact H) | exact H
                        have Ny150 := Aside0.mk hy150
                        clear hy150
                        by_cases c22 : t126 = true
                        · subst c22
                          have H1 : ((crc_Sum.f y140).bind fun t151 => ((crc_Sum.f y131).bind fun t152 => (if (ji11) < (y131.length : Int) then (if ((t151 == t152) == (a2 == (rd y131 (ji11)))) = true then ((crc_Sum.f y150).bind fun t154 => ((crc_Sum.f y131).bind fun t155 => (if (ji16) < (y131.length : Int) then (some ((t154 == t155) == ((rd y131 (ji11)) == (rd y131 (ji16))))) else (none)))) else (some false)) else (none)))) = some r := by rw [if_pos rfl] at H; exact H
                          clear H
                          have H := H1
                          clear H1
                          replace H := Option.bind_eq_some_iff.mp H
                          obtain ⟨t151, A230, H⟩ := H
                          replace H : ((crc_Sum.f y131).bind fun t152 => (if (ji11) < (y131.length : Int) then (if ((t151 == t152) == (a2 == (rd y131 (ji11)))) = true then ((crc_Sum.f y150).bind fun t154 => ((crc_Sum.f y131).bind fun t155 => (if (ji16) < (y131.length : Int) then (some ((t154 == t155) == ((rd y131 (ji11)) == (rd y131 (ji16))))) else (none)))) else (some false)) else (none))) = some r := H
                          have A23 := Aside0.mk A230
                          clear A230
                          replace H := Option.bind_eq_some_iff.mp H
                          obtain ⟨t152, A240, H⟩ := H
                          replace H : (if (ji11) < (y131.length : Int) then (if ((t151 == t152) == (a2 == (rd y131 (ji11)))) = true then ((crc_Sum.f y150).bind fun t154 => ((crc_Sum.f y131).bind fun t155 => (if (ji16) < (y131.length : Int) then (some ((t154 == t155) == ((rd y131 (ji11)) == (rd y131 (ji16))))) else (none)))) else (some false)) else (none)) = some r := H
                          have A24 := Aside0.mk A240
                          clear A240
                          by_cases c25 : (ji11) < (y131.length : Int)
                          · rw [if_pos c25] at H
                            have c25b0 : decide ((ji11) < (y131.length : Int)) = true := decide_eq_true c25
                            clear c25
                            by_cases c26 : ((t151 == t152) == (a2 == (rd y131 (ji11)))) = true
                            · rw [if_pos c26] at H
                              have c26b0 : ((t151 == t152) == (a2 == (rd y131 (ji11)))) = true := c26
                              (try (have c26b1 : decide ((t151 == t152) = (a2 == (rd y131 (ji11)))) = true := by simpa using c26))
                              (try (have c26b2 : ((t151 == t152) == (a2 == (rd y131 (ji11)))) = true := by simpa using c26))
                              clear c26
                              replace H := Option.bind_eq_some_iff.mp H
                              obtain ⟨t154, A270, H⟩ := H
                              replace H : ((crc_Sum.f y131).bind fun t155 => (if (ji16) < (y131.length : Int) then (some ((t154 == t155) == ((rd y131 (ji11)) == (rd y131 (ji16))))) else (none))) = some r := H
                              have A27 := Aside0.mk A270
                              clear A270
                              replace H := Option.bind_eq_some_iff.mp H
                              obtain ⟨t155, A280, H⟩ := H
                              replace H : (if (ji16) < (y131.length : Int) then (some ((t154 == t155) == ((rd y131 (ji11)) == (rd y131 (ji16))))) else (none)) = some r := H
                              have A28 := Aside0.mk A280
                              clear A280
                              by_cases c29 : (ji16) < (y131.length : Int)
                              · rw [if_pos c29] at H
                                have c29b0 : decide ((ji16) < (y131.length : Int)) = true := decide_eq_true c29
                                clear c29
                                obtain rfl := Option.some.inj H
                                go_enter Tryd.func5, Tryd.ntmps5
                                try go_wp2_with (first | ((with_reducible refine gate_callee (f := 9) rfl ?_); refine goesL_ (some 11) rfl rfl Tryd.func9 (by kernel_rfl) rfl #[] rfl (by (try simp only [List.map_toArray, List.map_cons, List.map_nil]); first | done | rfl | (simp only [List.length_drop, List.length_take]; rfl)) ?_; (with_reducible refine (transeptlaw02_shown.calls  true _ ?side1 A4.out).mono ?_); (case side1 => first | exact HG.out | exact Glob.below HG.out HB.out | exact Glob.drewN (Glob.below HG.out HB.out) _ | exact Glob.drewN HG.out _ | (refine Glob.below HG.out ?_; (repeat (first | (with_reducible first | exact HB.out | apply below_alloc | apply pw_below_drewN | apply below_drew1) | exact HB.out)); done) | (repeat (first | exact HG.out | (with_reducible refine Glob.drewN ?_ _) | (with_reducible refine Glob.drew ?_) | (with_reducible refine Glob.alloc ?_ _)); done)); rintro e w30 ⟨rfl, hb⟩; refine ⟨_, rfl, ?_⟩; have n0_ := Aside0.mk (below_step (by repeat (first | (with_reducible first | exact HB.out | apply below_alloc | apply pw_below_drewN | apply below_drew1) | exact HB.out)) hb); clear HB; have HB := n0_; clear n0_; (try clear hb); (try clear hb2); (try clear hk); (try clear hi)) | ((with_reducible refine gate_dst (N := 12) rfl ?_); refine Kd.R_lit (Kd.int .u8) _ 5 ?hg (N := 12) ?hd (xs := ([3, 5] : List Int)) (inner := [.int .u8 3, .int .u8 5]) (ok := fun _ => True) (okp := fun _ => True) ?hr ?hp (fun _ hk => hk) trivial (Below.refl _ _) (Nat.le_refl _) (by simp) ?_; (case hd => rfl); (case hg => rfl); (case hr => first | (go_simp; done) | (go_simp; rfl)); (case hp => exact (Reps.one (show Kd.M (Kd.int .u8) _ _ _ 3 [.int .u8 3] from rfl) (Reps.one (show Kd.M (Kd.int .u8) _ _ _ 5 [.int .u8 5] from rfl) (Reps.none _ _)))); intro v128 w31 ho32 hb hg_ hnew_; clear hg_ hnew_; (first | rw [← Ny127.out] at ho32 | (simp only [Int.reduceToNat] at ho32; rw [← Ny127.out] at ho32)); have n0_ := Aside0.mk (Kd.R_lower ho32 (below_size (by repeat (first | (with_reducible first | exact HB.out | apply below_alloc | apply pw_below_drewN | apply below_drew1) | exact HB.out)))); have n1_ := Aside0.mk (below_step (by repeat (first | (with_reducible first | exact HB.out | apply below_alloc | apply pw_below_drewN | apply below_drew1) | exact HB.out)) hb); clear HB; have HO129 := n0_; have HB := n1_; clear n0_ n1_; clear hb ho32; obtain ⟨i033, hi033, _, hsz33, _⟩ := info_parts info5; obtain ⟨hcut33, hA33, hC33⟩ := print_take_of (P := Tryd.prog) (Value.int .u8) 0 22 5 .i64 Tryd.underlying22 hi033 hsz33 A0 c0 l0 (ji5) (of_decide_eq_true (by first | (with_reducible assumption) | assumption)) (of_decide_eq_true (by first | (with_reducible assumption) | assumption)) HC0.out; have hl33 := Aside0.mk (show (l0.take ((ji5) : Int).toNat).length = ((ji5) : Int).toNat from by have q0_ : 0 ≤ (ji5) := (of_decide_eq_true (by first | (with_reducible assumption) | assumption)); have q1_ : (ji5) ≤ (l0.length : Int) := (of_decide_eq_true (by first | (with_reducible assumption) | assumption)); (try simp only [List.length_drop, List.length_take] at q0_ q1_); (try simp only [List.length_drop, List.length_take] at q2_); simp only [List.length_drop, List.length_take]; first | done | omega); (try rw [hl33.out] at hcut33); have HR130 := Aside0.mk (Kd.C_of_reads (h1 := fun _ => rfl) (hA33 _ (Kd.reads_of_C HR0.out))); have HC130 := Aside0.mk hC33; clear hA33 hC33 hi033 hsz33) | ((with_reducible refine gate_builtin (b := .append) (xs := #[.tmp 12, .tmp 17]) rfl ?_); at_builtin; refine Kd.R_append_rows (Kd.int .u8) (w0 := w) w.heap.size rfl (.tmp 12) (.tmp 17) 22 5 (.int .u8 0) 1 rfl Tryd.underlying22 info5 rfl (by decide) (by omega) v128 y127 (l0.take ((ji5) : Int).toNat) _ _ _ (fun _ => True) (fun _ => False) rfl rfl ?aO ?aR (fun _ _ h => h) (fun _ h => h.elim) ?aF ?aB ?aS ?aL ?_; (case aR => first | (refine Kd_C_len (show (l0.take ((ji5) : Int).toNat).length = (ji5).toNat from (by rw [List.length_take]; have h_ : ((ji5) : Int) ≤ (l0.length : Int) := of_decide_eq_true (by first | (with_reducible assumption) | assumption); omega)) ?_; repeat (first | exact (Kd.C_below HR130.out HB.out) | (with_reducible refine Kd.C_alloc ?_ _) | (with_reducible refine Kd.C_drewN ?_ _) | (with_reducible refine Kd.C_drew ?_))) | (repeat (first | exact (Kd.C_below HR130.out HB.out) | (with_reducible refine Kd.C_alloc ?_ _) | (with_reducible refine Kd.C_drewN ?_ _) | (with_reducible refine Kd.C_drew ?_)))); (case aB => exact (by repeat (first | (with_reducible first | exact HB.out | apply below_alloc | apply pw_below_drewN | apply below_drew1) | exact HB.out))); (case aF => exact (fun _ _ => trivial)); (case aO => exact (by (with_reducible repeat (first | apply Kd.R_alloc | apply Kd.R_drewN | apply Kd.R_drew)); exact HO129.out)); (case aS => exact (below_size (by repeat (first | (with_reducible first | exact HB.out | apply below_alloc | apply pw_below_drewN | apply below_drew1) | exact HB.out)))); (case aL => have := LMc8.out; have hlx_ := (show (l0.take ((ji5) : Int).toNat).length = (ji5).toNat from (by rw [List.length_take]; have h_ : ((ji5) : Int) ≤ (l0.length : Int) := of_decide_eq_true (by first | (with_reducible assumption) | assumption); omega)); omega); intro v132 w34 ho hb hg hat; rw [← Ny131.out] at ho; have n0_ := Aside0.mk (hb); have n1_ := Aside0.mk (ho); clear HB; clear HO129; have HB := n0_; have HO133 := n1_; clear n0_ n1_; clear ho hb hg hat; obtain ⟨Ao35, co35, eo35⟩ := Kd.R_slice HO133.out; subst eo35) | ((with_reducible refine gate_dst (N := 25) rfl ?_); refine Kd.R_lit (Kd.int .u8) _ 5 ?hg (N := 25) ?hd (xs := ([] : List Int)) (inner := []) (ok := fun _ => True) (okp := fun _ => True) ?hr ?hp (fun _ hk => hk) trivial (Below.refl _ _) (Nat.le_refl _) (by simp) ?_; (case hd => rfl); (case hg => rfl); (case hr => first | (go_simp; done) | (go_simp; rfl)); (case hp => exact (Reps.none _ _)); intro v135 w36 ho37 hb hg_ hnew_; clear hg_ hnew_; (first | rw [← Ny134.out] at ho37 | (simp only [Int.reduceToNat] at ho37; rw [← Ny134.out] at ho37)); have n0_ := Aside0.mk (Kd.R_elder' (by (with_reducible repeat (first | apply Kd.R_alloc | apply Kd.R_drewN | apply Kd.R_drew)); exact HO133.out) (Kd.R_base ho37) hb); have n1_ := Aside0.mk (Kd.R_lower (Kd.R_new' ho37 (Kd.R_lt (by (with_reducible repeat (first | apply Kd.R_alloc | apply Kd.R_drewN | apply Kd.R_drew)); exact HO133.out))) (below_size (by repeat (first | (with_reducible first | exact HB.out | apply below_alloc | apply pw_below_drewN | apply below_drew1) | exact HB.out)))); have n2_ := Aside0.mk (below_step (by repeat (first | (with_reducible first | exact HB.out | apply below_alloc | apply pw_below_drewN | apply below_drew1) | exact HB.out)) hb); clear HO133; clear HB; have HO133 := n0_; have HO136 := n1_; have HB := n2_; clear n0_ n1_ n2_; clear hb ho37) | ((with_reducible refine gate_builtin (b := .append) (xs := #[.tmp 25, .tmp 26]) rfl ?_); at_builtin; refine Kd.R_append_rows (Kd.int .u8) (w0 := w) w.heap.size rfl (.tmp 25) (.tmp 26) 22 5 (.int .u8 0) 1 rfl Tryd.underlying22 info5 rfl (by decide) (by omega) v135 y134 y131 _ _ _ (fun k_ => some k_ ≠ (.slice Ao35 y131.length co35 : Value).ownBlock) (fun _ => False) rfl rfl ?aO ?aR (fun _ _ h => h) (fun _ h => h.elim) ?aF ?aB ?aS ?aL ?_; (case aR => repeat (first | exact (Kd.R_reads' HO133.out).2.2 | (with_reducible refine Kd.C_alloc ?_ _) | (with_reducible refine Kd.C_drewN ?_ _) | (with_reducible refine Kd.C_drew ?_))); (case aB => exact (by repeat (first | (with_reducible first | exact HB.out | apply below_alloc | apply pw_below_drewN | apply below_drew1) | exact HB.out))); (case aF => exact (fun k_ hk => Kd.fresh' (Kd.R_lt (by (with_reducible repeat (first | apply Kd.R_alloc | apply Kd.R_drewN | apply Kd.R_drew)); exact HO133.out)) k_ hk)); (case aO => exact (by (with_reducible repeat (first | apply Kd.R_alloc | apply Kd.R_drewN | apply Kd.R_drew)); exact Kd.R_mono HO136.out (fun _ hk => hk.2))); (case aS => exact (below_size (by repeat (first | (with_reducible first | exact HB.out | apply below_alloc | apply pw_below_drewN | apply below_drew1) | exact HB.out)))); (case aL => have := LMc10.out; omega); intro v138 w38 ho hb hg hat; rw [← Ny137.out] at ho; have n0_ := Aside0.mk (Kd.R_after (ok := (fun _ => True)) (by (with_reducible repeat (first | apply Kd.R_alloc | apply Kd.R_drewN | apply Kd.R_drew)); exact HO133.out) hg hat); have n1_ := Aside0.mk (hb); have n2_ := Aside0.mk (ho); clear HO133; clear HB; clear HO136; have HO133 := n0_; have HB := n1_; have HO139 := n2_; clear n0_ n1_ n2_; clear ho hb hg hat; have p14 : 0 ≤ ((ji11) : Int) := of_decide_eq_true (by first | (with_reducible assumption) | assumption); have q14 : ((ji11) : Int) < ((y137.length : Int) : Int) := of_decide_eq_true (by first | (with_reducible assumption) | assumption); obtain ⟨go14, co14, eo14, gb14, gl14, cl14, HG14⟩ := Kd.R_form HO139.out (by omega); (first | cases eo14 | (injection eo14 with ea_ en_ ec_; (first | subst ea_ | (injection ea_ with ea_; subst ea_)); subst ec_; clear en_)); have GB14 := Aside0.mk gb14; have GG14 := Aside0.mk HG14; clear gb14 gl14 HG14; obtain ⟨hx14_0, hf14_0⟩ := Kd.R_celln 0 HO139.out ((ji11) : Int) p14 q14; replace p14 := eq_true p14; replace q14 := eq_true q14; obtain ⟨hy39_, hz39_⟩ := Kd.R_celln 0 HO139.out ((ji11) : Int) (of_decide_eq_true (by first | (with_reducible assumption) | assumption)) (of_decide_eq_true (by first | (with_reducible assumption) | assumption)); have HP39 := Kd.R_putg HO139.out ((ji11) : Int) a2) | ((with_reducible refine gate_store (t := 5) (p := 31) rfl ?_); refine store_event (t := 5) (p := 31) (v := ?vo_w40) (w1 := (w38.setCell ⟨go14, ((ji11) : Int).toNat, none⟩ (.int .u8 a2))) ?hg ?ho ?hn ?hr ?_; (case ho => rfl); (case hg => rfl); (case hn => rfl); (case hr => first | (go_simp; done) | (go_simp; rfl)); intro w40 hw; have hg : w38.grownBy w40 (some go14) := (by rw [hw]; exact HP39.2); have hp_ : Kd.R (Kd.int .u8) 5 w40 w.heap.size (fun k_ => some k_ ≠ (.slice Ao35 y131.length co35 : Value).ownBlock) (.slice (some ⟨go14, 0, none⟩) y137.length co14) y140 := (by rw [hw, Ny140.out]; exact HP39.1); clear HP39; have n0_ := Aside0.mk (Kd.R_after (v := (.slice (some ⟨go14, 0, none⟩) y137.length co14)) (v1 := (.slice (some ⟨go14, 0, none⟩) y137.length co14)) (ok := (fun _ => True)) (by (with_reducible repeat (first | apply Kd.R_alloc | apply Kd.R_drewN | apply Kd.R_drew)); exact HO133.out) hg (.inl rfl)); have n1_ := Aside0.mk (hp_); have n2_ := Aside0.mk ((by rw [hw]; exact below_set (HB.out) GB14.out : Below w.heap.size w w40)); clear HO133; clear HO139; clear HB; have HO133 := n0_; have HO139 := n1_; have HB := n2_; clear n0_ n1_ n2_; clear hg hw hp_) | ((with_reducible refine gate_dst (N := 32) rfl ?_); refine Kd.R_lit (Kd.int .u8) _ 5 ?hg (N := 32) ?hd (xs := ([] : List Int)) (inner := []) (ok := fun _ => True) (okp := fun _ => True) ?hr ?hp (fun _ hk => hk) trivial (Below.refl _ _) (Nat.le_refl _) (by simp) ?_; (case hd => rfl); (case hg => rfl); (case hr => first | (go_simp; done) | (go_simp; rfl)); (case hp => exact (Reps.none _ _)); intro v142 w41 ho42 hb hg_ hnew_; clear hg_ hnew_; (first | rw [← Ny141.out] at ho42 | (simp only [Int.reduceToNat] at ho42; rw [← Ny141.out] at ho42)); have n0_ := Aside0.mk (Kd.R_elder' (by (with_reducible repeat (first | apply Kd.R_alloc | apply Kd.R_drewN | apply Kd.R_drew)); exact HO133.out) (Kd.R_base ho42) hb); have n1_ := Aside0.mk (Kd.R_elder' (by (with_reducible repeat (first | apply Kd.R_alloc | apply Kd.R_drewN | apply Kd.R_drew)); exact HO139.out) (Kd.R_base ho42) hb); have n2_ := Aside0.mk (Kd.R_lower (Kd.R_new' (Kd.R_new' ho42 (Kd.R_lt (by (with_reducible repeat (first | apply Kd.R_alloc | apply Kd.R_drewN | apply Kd.R_drew)); exact HO133.out))) (Kd.R_lt (by (with_reducible repeat (first | apply Kd.R_alloc | apply Kd.R_drewN | apply Kd.R_drew)); exact HO139.out))) (below_size (by repeat (first | (with_reducible first | exact HB.out | apply below_alloc | apply pw_below_drewN | apply below_drew1) | exact HB.out)))); have n3_ := Aside0.mk (below_step (by repeat (first | (with_reducible first | exact HB.out | apply below_alloc | apply pw_below_drewN | apply below_drew1) | exact HB.out)) hb); clear HO133; clear HO139; clear HB; have HO133 := n0_; have HO139 := n1_; have HO143 := n2_; have HB := n3_; clear n0_ n1_ n2_ n3_; clear hb ho42) | ((with_reducible refine gate_builtin (b := .append) (xs := #[.tmp 32, .tmp 33]) rfl ?_); at_builtin; refine Kd.R_append_rows (Kd.int .u8) (w0 := w) w.heap.size rfl (.tmp 32) (.tmp 33) 22 5 (.int .u8 0) 1 rfl Tryd.underlying22 info5 rfl (by decide) (by omega) v142 y141 y131 _ _ _ (fun k_ => some k_ ≠ (.slice Ao35 y131.length co35 : Value).ownBlock ∧ some k_ ≠ (.slice (some ⟨go14, 0, none⟩) y137.length co14 : Value).ownBlock) (fun _ => False) rfl rfl ?aO ?aR (fun _ _ h => h) (fun _ h => h.elim) ?aF ?aB ?aS ?aL ?_; (case aR => repeat (first | exact (Kd.R_reads' HO133.out).2.2 | (with_reducible refine Kd.C_alloc ?_ _) | (with_reducible refine Kd.C_drewN ?_ _) | (with_reducible refine Kd.C_drew ?_))); (case aB => exact (by repeat (first | (with_reducible first | exact HB.out | apply below_alloc | apply pw_below_drewN | apply below_drew1) | exact HB.out))); (case aF => exact (fun k_ hk => ⟨Kd.fresh' (Kd.R_lt (by (with_reducible repeat (first | apply Kd.R_alloc | apply Kd.R_drewN | apply Kd.R_drew)); exact HO133.out)) k_ hk, Kd.fresh' (Kd.R_lt (by (with_reducible repeat (first | apply Kd.R_alloc | apply Kd.R_drewN | apply Kd.R_drew)); exact HO139.out)) k_ hk⟩)); (case aO => exact (by (with_reducible repeat (first | apply Kd.R_alloc | apply Kd.R_drewN | apply Kd.R_drew)); exact Kd.R_mono HO143.out (fun _ hk => ⟨hk.1.2, hk.2⟩))); (case aS => exact (below_size (by repeat (first | (with_reducible first | exact HB.out | apply below_alloc | apply pw_below_drewN | apply below_drew1) | exact HB.out)))); (case aL => have := LMc15.out; omega); intro v145 w43 ho hb hg hat; rw [← Ny144.out] at ho; have n0_ := Aside0.mk (Kd.R_after (ok := (fun k_ => some k_ ≠ (.slice (some ⟨go14, 0, none⟩) y137.length co14 : Value).ownBlock)) (by (with_reducible repeat (first | apply Kd.R_alloc | apply Kd.R_drewN | apply Kd.R_drew)); exact Kd.R_mono HO133.out (fun _ hk => ⟨hk.1.2, hk.2⟩)) hg hat); have n1_ := Aside0.mk (Kd.R_after (ok := (fun k_ => some k_ ≠ (.slice Ao35 y131.length co35 : Value).ownBlock)) (by (with_reducible repeat (first | apply Kd.R_alloc | apply Kd.R_drewN | apply Kd.R_drew)); exact HO139.out) hg hat); have n2_ := Aside0.mk (hb); have n3_ := Aside0.mk (ho); clear HO133; clear HO139; clear HB; clear HO143; have HO133 := n0_; have HO139 := n1_; have HB := n2_; have HO146 := n3_; clear n0_ n1_ n2_ n3_; clear ho hb hg hat))
                                have n0_ := Aside0.mk (Kd.R_drew HO133.out)
                                have n1_ := Aside0.mk (Kd.R_drew HO139.out)
                                have n2_ := Aside0.mk (Kd.R_drew HO146.out)
                                have n3_ := Aside0.mk (below_drew1 HB.out)
                                clear HO133
                                clear HO139
                                clear HO146
                                clear HB
                                have HO133 := n0_
                                have HO139 := n1_
                                have HO146 := n2_
                                have HB := n3_
                                clear n0_ n1_ n2_ n3_
                                obtain ⟨Ao45, co45, eo45⟩ := Kd.R_slice HO146.out
                                (first | subst eo45 | (injection eo45 with f1_ f2_ f3_; have f4_ := f1_.symm; have f5_ := f3_.symm; clear f1_ f2_ f3_; subst f4_; subst f5_))
                                have p147 : 0 ≤ ((ji16) : Int) := of_decide_eq_true (by first | (with_reducible assumption) | assumption)
                                have q147 : (ji16) < (y144.length : Int) := of_decide_eq_true (by first | (with_reducible assumption) | assumption)
                                obtain ⟨ad147, e147, hx147_0⟩ := Kd.at_int (Kd.R_reads' HO146.out).2.2 (ji16) p147 q147
                                cases e147
                                replace p147 := eq_true p147
                                replace q147 := eq_true q147
                                have p148 : 0 ≤ ((ji11) : Int) := of_decide_eq_true (by first | (with_reducible assumption) | assumption)
                                have q148 : (ji11) < (y144.length : Int) := of_decide_eq_true (by first | (with_reducible assumption) | assumption)
                                obtain ⟨ad148, e148, hx148_0⟩ := Kd.at_int (Kd.R_reads' HO146.out).2.2 (ji11) p148 q148
                                obtain rfl : ad147 = ad148 := (by injection e148)
                                replace p148 := eq_true p148
                                replace q148 := eq_true q148
                                have p20 : 0 ≤ ((ji11) : Int) := of_decide_eq_true (by first | (with_reducible assumption) | assumption)
                                have q20 : ((ji11) : Int) < ((y144.length : Int) : Int) := of_decide_eq_true (by first | (with_reducible assumption) | assumption)
                                obtain ⟨go20, co20, eo20, gb20, gl20, cl20, HG20⟩ := Kd.R_form HO146.out (by omega)
                                (first | cases eo20 | (injection eo20 with ea_ en_ ec_; (first | subst ea_ | (injection ea_ with ea_; subst ea_)); subst ec_; clear en_))
                                have GB20 := Aside0.mk gb20
                                have GG20 := Aside0.mk HG20
                                clear gb20 gl20 HG20
                                (first | simp only [add_plain] at hx147_0 | skip)
                                (first | simp only [add_plain] at hx148_0 | skip)
                                obtain ⟨hx20_0, hf20_0⟩ := Kd.R_celln 0 HO146.out ((ji11) : Int) p20 q20
                                replace p20 := eq_true p20
                                replace q20 := eq_true q20
                                have HP46 := Kd.R_putn HO146.out ((ji11) : Int) (rd y144 (ji16))
                                rw [← Ny149.out] at HP46
                                have HQ46 := Aside0.mk HP46
                                clear HP46
                                have p21 : 0 ≤ ((ji16) : Int) := of_decide_eq_true (by first | (with_reducible assumption) | assumption)
                                have q21 : ((ji16) : Int) < ((y144.length : Int) : Int) := of_decide_eq_true (by first | (with_reducible assumption) | assumption)
                                obtain ⟨hx21_0, hf21_0⟩ := Kd.R_celln 0 HQ46.out ((ji16) : Int) p21 q21
                                replace p21 := eq_true p21
                                replace q21 := eq_true q21
                                have HP47 := Kd.R_putn HQ46.out ((ji16) : Int) (rd y144 (ji11))
                                rw [← Ny150.out] at HP47
                                have HQ47 := Aside0.mk HP47
                                clear HP47
                                refine start_ (n := 18) (S := fun w' => w'.cell? ⟨go20, ((ji16)).toNat, none⟩ = some (.int .u8 (rd y144 (ji16))) ∧ w'.cell? ⟨go20, ((ji11)).toNat, none⟩ = some (.int .u8 (rd y144 (ji11)))) (ds := [15, 17]) #[false, false, false, false, false, false, false, false, false, false, false, false, false, false, false, false, false, false] (by kernel_rfl) rfl rfl ⟨hx147_0, hx148_0⟩ (fun hHeld => ?_); refine with_tabW transeptlaw02_CrcOne.tab7 transeptlaw02_CrcOne.bits7 (fun HT_ HW_ => ?_)
                                generalize w43.drew = w44 at HO133 HO139 HO146 HB GG20 HQ46 HQ47 hf20_0 hf21_0 hx147_0 hx148_0 hx20_0 hx21_0 hHeld ⊢
                                refine pure_ (i := 0) (N := some 35) (v := ?_) (a' := ?_) #[true, false, false, false, false, false, false, false, false, false, false, false, false, false, false, false, false, false] rfl rfl (any_of HT_.out (by kernel_rfl)) (fun _ _ _ h => h) (Or.inl ⟨by rfl, ?_⟩) ?_ ?_
                                rotate_left
                                · intro w'
                                  go_simp
                                  with_reducible rfl
                                rotate_left
                                · simp only [Act.put, List.setIfInBounds_toArray, List.set_cons_zero, List.set_cons_succ, i64_w, i32_w]
                                  rfl
                                refine pure_ (i := 1) (N := some 36) (v := ?_) (a' := ?_) #[true, true, false, false, false, false, false, false, false, false, false, false, false, false, false, false, false, false] rfl rfl (any_of HT_.out (by kernel_rfl)) (fun _ _ _ h => h) (Or.inl ⟨by rfl, ?_⟩) ?_ ?_
                                rotate_left
                                · intro w'
                                  go_simp
                                  with_reducible rfl
                                rotate_left
                                · simp only [Act.put, List.setIfInBounds_toArray, List.set_cons_zero, List.set_cons_succ, i64_w, i32_w]
                                  rfl
                                refine pure_ (i := 2) (N := some 37) (v := ?_) (a' := ?_) #[true, true, true, false, false, false, false, false, false, false, false, false, false, false, false, false, false, false] rfl rfl (any_of HT_.out (by kernel_rfl)) (fun _ _ _ h => h) (Or.inl ⟨by rfl, ?_⟩) ?_ ?_
                                rotate_left
                                · intro w'
                                  go_simp
                                  with_reducible rfl
                                rotate_left
                                · simp only [Act.put, List.setIfInBounds_toArray, List.set_cons_zero, List.set_cons_succ, i64_w, i32_w]
                                  rfl
                                refine pure_ (i := 3) (N := some 38) (v := ?_) (a' := ?_) #[true, true, true, true, false, false, false, false, false, false, false, false, false, false, false, false, false, false] rfl rfl (any_of HT_.out (by kernel_rfl)) (fun _ _ _ h => h) (Or.inl ⟨by rfl, ?_⟩) ?_ ?_
                                rotate_left
                                · intro w'
                                  go_simp
                                  with_reducible rfl
                                rotate_left
                                · simp only [Act.put, List.setIfInBounds_toArray, List.set_cons_zero, List.set_cons_succ, i64_w, i32_w]
                                  rfl
                                refine pure_ (i := 4) (N := some 39) (v := ?_) (a' := ?_) #[true, true, true, true, true, false, false, false, false, false, false, false, false, false, false, false, false, false] rfl rfl (any_of HT_.out (by kernel_rfl)) (fun _ _ _ h => h) (Or.inl ⟨by rfl, ?_⟩) ?_ ?_
                                rotate_left
                                · intro w'
                                  go_simp
                                  with_reducible rfl
                                rotate_left
                                · simp only [Act.put, List.setIfInBounds_toArray, List.set_cons_zero, List.set_cons_succ, i64_w, i32_w]
                                  rfl
                                refine pure_ (i := 5) (N := some 40) (v := ?_) (a' := ?_) #[true, true, true, true, true, true, false, false, false, false, false, false, false, false, false, false, false, false] rfl rfl (any_of HT_.out (by kernel_rfl)) (fun _ _ _ h => h) (Or.inl ⟨by rfl, ?_⟩) ?_ ?_
                                rotate_left
                                · intro w'
                                  go_simp
                                  with_reducible rfl
                                rotate_left
                                · simp only [Act.put, List.setIfInBounds_toArray, List.set_cons_zero, List.set_cons_succ, i64_w, i32_w]
                                  rfl
                                refine pure_ (i := 6) (N := some 41) (v := ?_) (a' := ?_) #[true, true, true, true, true, true, true, false, false, false, false, false, false, false, false, false, false, false] rfl rfl (any_of HT_.out (by kernel_rfl)) (fun _ _ _ h => h) (Or.inl ⟨by rfl, ?_⟩) ?_ ?_
                                rotate_left
                                · intro w'
                                  go_simp
                                  with_reducible rfl
                                rotate_left
                                · simp only [Act.put, List.setIfInBounds_toArray, List.set_cons_zero, List.set_cons_succ, i64_w, i32_w]
                                  rfl
                                refine pure_ (i := 7) (N := some 42) (v := ?_) (a' := ?_) #[true, true, true, true, true, true, true, true, false, false, false, false, false, false, false, false, false, false] rfl rfl (any_of HT_.out (by kernel_rfl)) (fun _ _ _ h => h) (Or.inl ⟨by rfl, ?_⟩) ?_ ?_
                                rotate_left
                                · intro w'
                                  go_simp
                                  with_reducible rfl
                                rotate_left
                                · simp only [Act.put, List.setIfInBounds_toArray, List.set_cons_zero, List.set_cons_succ, i64_w, i32_w]
                                  rfl
                                refine pure_ (i := 8) (N := some 43) (v := ?_) (a' := ?_) #[true, true, true, true, true, true, true, true, true, false, false, false, false, false, false, false, false, false] rfl rfl (any_of HT_.out (by kernel_rfl)) (fun _ _ _ h => h) (Or.inl ⟨by rfl, ?_⟩) ?_ ?_
                                rotate_left
                                · intro w'
                                  go_simp
                                  with_reducible rfl
                                rotate_left
                                · simp only [Act.put, List.setIfInBounds_toArray, List.set_cons_zero, List.set_cons_succ, i64_w, i32_w]
                                  rfl
                                refine pure_ (i := 10) (N := some 45) (v := ?_) (a' := ?_) #[true, true, true, true, true, true, true, true, true, false, true, false, false, false, false, false, false, false] rfl rfl (any_of HT_.out (by kernel_rfl)) (fun _ _ _ h => h) (Or.inl ⟨by rfl, ?_⟩) ?_ ?_
                                rotate_left
                                · intro w'
                                  go_simp
                                  with_reducible rfl
                                rotate_left
                                · simp only [Act.put, List.setIfInBounds_toArray, List.set_cons_zero, List.set_cons_succ, i64_w, i32_w]
                                  rfl
                                refine pure_ (i := 11) (N := some 46) (v := ?_) (a' := ?_) #[true, true, true, true, true, true, true, true, true, false, true, true, false, false, false, false, false, false] rfl rfl (any_of HT_.out (by kernel_rfl)) (fun _ _ _ h => h) (Or.inl ⟨by rfl, ?_⟩) ?_ ?_
                                rotate_left
                                · intro w'
                                  go_simp
                                  with_reducible rfl
                                rotate_left
                                · simp only [Act.put, List.setIfInBounds_toArray, List.set_cons_zero, List.set_cons_succ, i64_w, i32_w]
                                  rfl
                                refine pure_ (i := 12) (N := some 47) (v := ?_) (a' := ?_) #[true, true, true, true, true, true, true, true, true, false, true, true, true, false, false, false, false, false] rfl rfl (any_of HT_.out (by kernel_rfl)) (fun _ _ _ h => h) (Or.inl ⟨by rfl, ?_⟩) ?_ ?_
                                rotate_left
                                · intro w'
                                  go_simp
                                  with_reducible rfl
                                rotate_left
                                · simp only [Act.put, List.setIfInBounds_toArray, List.set_cons_zero, List.set_cons_succ, i64_w, i32_w]
                                  rfl
                                refine take_ (i := 9) (N := some 44) (v := ?_) (a' := ?_) #[true, true, true, true, true, true, true, true, true, true, true, true, true, false, false, false, false, false] rfl rfl (take_ofW HT_.out HW_.out (by kernel_rfl)) (fun _ _ _ h => h) (Or.inl ⟨by rfl, ?_⟩) hHeld ?_ ?_
                                rotate_left
                                · rintro w' ⟨s0, s1⟩
                                  go_simp
                                  with_reducible rfl
                                rotate_left
                                · simp only [Act.put, List.setIfInBounds_toArray, List.set_cons_zero, List.set_cons_succ, i64_w, i32_w]
                                  rfl
                                refine take_ (i := 13) (N := some 48) (v := ?_) (a' := ?_) #[true, true, true, true, true, true, true, true, true, true, true, true, true, true, false, false, false, false] rfl rfl (take_ofW HT_.out HW_.out (by kernel_rfl)) (fun _ _ _ h => h) (Or.inl ⟨by rfl, ?_⟩) hHeld ?_ ?_
                                rotate_left
                                · rintro w' ⟨s0, s1⟩
                                  go_simp
                                  with_reducible rfl
                                rotate_left
                                · simp only [Act.put, List.setIfInBounds_toArray, List.set_cons_zero, List.set_cons_succ, i64_w, i32_w]
                                  rfl
                                refine pure_ (i := 14) (N := some 49) (v := ?_) (a' := ?_) #[true, true, true, true, true, true, true, true, true, true, true, true, true, true, true, false, false, false] rfl rfl (any_of HT_.out (by kernel_rfl)) (fun _ _ _ h => h) (Or.inl ⟨by rfl, ?_⟩) ?_ ?_
                                rotate_left
                                · intro w'
                                  go_simp
                                  with_reducible rfl
                                rotate_left
                                · simp only [Act.put, List.setIfInBounds_toArray, List.set_cons_zero, List.set_cons_succ, i64_w, i32_w]
                                  rfl
                                refine last_ (i := 15) (N := none) #[true, true, true, true, true, true, true, true, true, true, true, true, true, true, true, true, false, false] rfl rfl (one_of HT_.out (by kernel_rfl)) (by decide) (fun K hK => ?_)
                                refine skip_ (w1 := ?_) (by rfl) rfl ?_ ?_
                                rotate_left
                                · go_simp
                                  rfl
                                refine hK.out _ _ ?_
                                clear hK K
                                refine pure_ (i := 16) (N := some 50) (v := ?_) (a' := ?_) #[true, true, true, true, true, true, true, true, true, true, true, true, true, true, true, true, true, false] rfl rfl (any_of HT_.out (by kernel_rfl)) (fun _ _ _ h => h) (Or.inl ⟨by rfl, ?_⟩) ?_ ?_
                                rotate_left
                                · intro w'
                                  go_simp
                                  with_reducible rfl
                                rotate_left
                                · simp only [Act.put, List.setIfInBounds_toArray, List.set_cons_zero, List.set_cons_succ, i64_w, i32_w]
                                  rfl
                                refine last_ (i := 17) (N := none) #[true, true, true, true, true, true, true, true, true, true, true, true, true, true, true, true, true, true] rfl rfl (one_of HT_.out (by kernel_rfl)) (by decide) (fun K hK => ?_)
                                refine skip_ (w1 := ?_) (by rfl) rfl ?_ ?_
                                rotate_left
                                · go_simp
                                  rfl
                                refine hK.out _ _ ?_
                                clear hK K
                                refine done_ (done_of HT_.out (by kernel_rfl)) ?_
                                try go_wp2
                                have n0_ : Aside0 (Kd.R (Kd.int .u8) 5 ((w44.setCell ⟨go20, ((ji11) : Int).toNat, none⟩ (.int .u8 (rd y144 (ji16)))).setCell ⟨go20, ((ji16) : Int).toNat, none⟩ (.int .u8 (rd y144 (ji11)))) w.heap.size (fun k_ => some k_ ≠ (.slice (some ⟨go14, 0, none⟩) y137.length co14 : Value).ownBlock ∧ some k_ ≠ (.slice (some ⟨go20, 0, none⟩) y144.length co45 : Value).ownBlock) (.slice Ao35 y131.length co35) y131) := ⟨by (with_reducible repeat (first | apply Kd.R_alloc | apply Kd.R_drewN | apply Kd.R_drew)); exact Kd.R_mono (Kd.R_far (p := ⟨go20, ((ji16) : Int).toNat, none⟩) (Kd.R_far (p := ⟨go20, ((ji11) : Int).toNat, none⟩) (Kd.R_mono HO133.out (fun k_ hk => (⟨hk, fun e_ => hk.2 (by rw [e_]; rfl)⟩ : _ ∧ k_ ≠ go20))) (fun _ hk => hk.2) (.int .u8 (rd y144 (ji16)))) (fun _ hk => hk.2) (.int .u8 (rd y144 (ji11)))) (fun _ hk => ⟨hk.1.1, hk.1.2⟩)⟩
                                have n1_ : Aside0 (Kd.R (Kd.int .u8) 5 ((w44.setCell ⟨go20, ((ji11) : Int).toNat, none⟩ (.int .u8 (rd y144 (ji16)))).setCell ⟨go20, ((ji16) : Int).toNat, none⟩ (.int .u8 (rd y144 (ji11)))) w.heap.size (fun k_ => some k_ ≠ (.slice Ao35 y131.length co35 : Value).ownBlock ∧ some k_ ≠ (.slice (some ⟨go20, 0, none⟩) y144.length co45 : Value).ownBlock) (.slice (some ⟨go14, 0, none⟩) y137.length co14) y140) := ⟨by (with_reducible repeat (first | apply Kd.R_alloc | apply Kd.R_drewN | apply Kd.R_drew)); exact Kd.R_mono (Kd.R_far (p := ⟨go20, ((ji16) : Int).toNat, none⟩) (Kd.R_far (p := ⟨go20, ((ji11) : Int).toNat, none⟩) (Kd.R_mono HO139.out (fun k_ hk => (⟨hk, fun e_ => hk.2 (by rw [e_]; rfl)⟩ : _ ∧ k_ ≠ go20))) (fun _ hk => hk.2) (.int .u8 (rd y144 (ji16)))) (fun _ hk => hk.2) (.int .u8 (rd y144 (ji11)))) (fun _ hk => ⟨hk.1.1, hk.1.2⟩)⟩
                                have n2_ : Aside0 (Kd.R (Kd.int .u8) 5 ((w44.setCell ⟨go20, ((ji11) : Int).toNat, none⟩ (.int .u8 (rd y144 (ji16)))).setCell ⟨go20, ((ji16) : Int).toNat, none⟩ (.int .u8 (rd y144 (ji11)))) w.heap.size (fun k_ => some k_ ≠ (.slice Ao35 y131.length co35 : Value).ownBlock ∧ some k_ ≠ (.slice (some ⟨go14, 0, none⟩) y137.length co14 : Value).ownBlock) (.slice (some ⟨go20, 0, none⟩) y144.length co45) y150) := ⟨by (with_reducible repeat (first | apply Kd.R_alloc | apply Kd.R_drewN | apply Kd.R_drew)); exact HQ47.out⟩
                                have n3_ : Aside0 (Below w.heap.size w ((w44.setCell ⟨go20, ((ji11) : Int).toNat, none⟩ (.int .u8 (rd y144 (ji16)))).setCell ⟨go20, ((ji16) : Int).toNat, none⟩ (.int .u8 (rd y144 (ji11))))) := ⟨by repeat (first | (with_reducible first | exact HB.out | apply below_alloc | apply pw_below_drewN | apply below_drew1 | refine below_set ?_ GB20.out | refine below_set ?_ GB20.out) | exact HB.out)⟩
                                (try clear HO133)
                                (try clear HO139)
                                (try clear HO146)
                                (try clear HB)
                                generalize ((w44.setCell ⟨go20, ((ji11) : Int).toNat, none⟩ (.int .u8 (rd y144 (ji16)))).setCell ⟨go20, ((ji16) : Int).toNat, none⟩ (.int .u8 (rd y144 (ji11)))) = w48 at n0_ n1_ n2_ n3_ ⊢
                                have HO133 := n0_
                                have HO139 := n1_
                                have HO146 := n2_
                                have HB := n3_
                                clear n0_ n1_ n2_ n3_
                                have n0_ := Aside0.mk (Kd.R_drew HO133.out)
                                have n1_ := Aside0.mk (Kd.R_drew HO139.out)
                                have n2_ := Aside0.mk (Kd.R_drew HO146.out)
                                have n3_ := Aside0.mk (below_drew1 HB.out)
                                clear HO133
                                clear HO139
                                clear HO146
                                clear HB
                                have HO133 := n0_
                                have HO139 := n1_
                                have HO146 := n2_
                                have HB := n3_
                                clear n0_ n1_ n2_ n3_
                                have p153 : 0 ≤ ((ji11) : Int) := of_decide_eq_true (by first | (with_reducible assumption) | assumption)
                                have q153 : (ji11) < (y131.length : Int) := of_decide_eq_true (by first | (with_reducible assumption) | assumption)
                                obtain ⟨ad153, e153, hx153_0⟩ := Kd.at_int (Kd.R_reads' HO133.out).2.2 (ji11) p153 q153
                                cases e153
                                replace p153 := eq_true p153
                                replace q153 := eq_true q153
                                have p156 : 0 ≤ ((ji11) : Int) := of_decide_eq_true (by first | (with_reducible assumption) | assumption)
                                have q156 : (ji11) < (y131.length : Int) := of_decide_eq_true (by first | (with_reducible assumption) | assumption)
                                obtain ⟨ad156, e156, hx156_0⟩ := Kd.at_int (Kd.R_reads' HO133.out).2.2 (ji11) p156 q156
                                obtain rfl : ad153 = ad156 := (by injection e156)
                                replace p156 := eq_true p156
                                replace q156 := eq_true q156
                                have p157 : 0 ≤ ((ji16) : Int) := of_decide_eq_true (by first | (with_reducible assumption) | assumption)
                                have q157 : (ji16) < (y131.length : Int) := of_decide_eq_true (by first | (with_reducible assumption) | assumption)
                                obtain ⟨ad157, e157, hx157_0⟩ := Kd.at_int (Kd.R_reads' HO133.out).2.2 (ji16) p157 q157
                                obtain rfl : ad153 = ad157 := (by injection e157)
                                replace p157 := eq_true p157
                                replace q157 := eq_true q157
                                refine start_ (n := 34) (S := fun w' => w'.cell? (ad153.add ((ji11)).toNat) = some (.int .u8 (rd y131 (ji11))) ∧ w'.cell? (ad153.add ((ji11)).toNat) = some (.int .u8 (rd y131 (ji11))) ∧ w'.cell? (ad153.add ((ji16)).toNat) = some (.int .u8 (rd y131 (ji16)))) (ds := []) #[false, false, false, false, false, false, false, false, false, false, false, false, false, false, false, false, false, false, false, false, false, false, false, false, false, false, false, false, false, false, false, false, false, false] (by kernel_rfl) rfl rfl ⟨hx153_0, hx156_0, hx157_0⟩ (fun hHeld => ?_); refine with_tabW transeptlaw02_CrcOne.tab8 transeptlaw02_CrcOne.bits8 (fun HT_ HW_ => ?_)
                                generalize w48.drew = w49 at HO133 HO139 HO146 HB HQ47 hx153_0 hx156_0 hx157_0 hHeld ⊢
                                refine pure_ (i := 0) (N := some 51) (v := ?_) (a' := ?_) #[true, false, false, false, false, false, false, false, false, false, false, false, false, false, false, false, false, false, false, false, false, false, false, false, false, false, false, false, false, false, false, false, false, false] rfl rfl (any_of HT_.out (by kernel_rfl)) (fun _ _ _ h => h) (Or.inl ⟨by rfl, ?_⟩) ?_ ?_
                                rotate_left
                                · intro w'
                                  go_simp
                                  with_reducible rfl
                                rotate_left
                                · simp only [Act.put, List.setIfInBounds_toArray, List.set_cons_zero, List.set_cons_succ, i64_w, i32_w]
                                  rfl
                                refine pure_ (i := 1) (N := some 52) (v := ?_) (a' := ?_) #[true, true, false, false, false, false, false, false, false, false, false, false, false, false, false, false, false, false, false, false, false, false, false, false, false, false, false, false, false, false, false, false, false, false] rfl rfl (any_of HT_.out (by kernel_rfl)) (fun _ _ _ h => h) (Or.inl ⟨by rfl, ?_⟩) ?_ ?_
                                rotate_left
                                · intro w'
                                  go_simp
                                  with_reducible rfl
                                rotate_left
                                · simp only [Act.put, List.setIfInBounds_toArray, List.set_cons_zero, List.set_cons_succ, i64_w, i32_w]
                                  rfl
                                refine pure_ (i := 2) (N := some 53) (v := ?_) (a' := ?_) #[true, true, true, false, false, false, false, false, false, false, false, false, false, false, false, false, false, false, false, false, false, false, false, false, false, false, false, false, false, false, false, false, false, false] rfl rfl (any_of HT_.out (by kernel_rfl)) (fun _ _ _ h => h) (Or.inl ⟨by rfl, ?_⟩) ?_ ?_
                                rotate_left
                                · intro w'
                                  go_simp
                                  with_reducible rfl
                                rotate_left
                                · simp only [Act.put, List.setIfInBounds_toArray, List.set_cons_zero, List.set_cons_succ, i64_w, i32_w]
                                  rfl
                                refine pure_ (i := 4) (N := some 55) (v := ?_) (a' := ?_) #[true, true, true, false, true, false, false, false, false, false, false, false, false, false, false, false, false, false, false, false, false, false, false, false, false, false, false, false, false, false, false, false, false, false] rfl rfl (any_of HT_.out (by kernel_rfl)) (fun _ _ _ h => h) (Or.inl ⟨by rfl, ?_⟩) ?_ ?_
                                rotate_left
                                · intro w'
                                  go_simp
                                  with_reducible rfl
                                rotate_left
                                · simp only [Act.put, List.setIfInBounds_toArray, List.set_cons_zero, List.set_cons_succ, i64_w, i32_w]
                                  rfl
                                refine pure_ (i := 7) (N := some 58) (v := ?_) (a' := ?_) #[true, true, true, false, true, false, false, true, false, false, false, false, false, false, false, false, false, false, false, false, false, false, false, false, false, false, false, false, false, false, false, false, false, false] rfl rfl (any_of HT_.out (by kernel_rfl)) (fun _ _ _ h => h) (Or.inl ⟨by rfl, ?_⟩) ?_ ?_
                                rotate_left
                                · intro w'
                                  go_simp
                                  with_reducible rfl
                                rotate_left
                                · simp only [Act.put, List.setIfInBounds_toArray, List.set_cons_zero, List.set_cons_succ, i64_w, i32_w]
                                  rfl
                                refine pure_ (i := 8) (N := some 59) (v := ?_) (a' := ?_) #[true, true, true, false, true, false, false, true, true, false, false, false, false, false, false, false, false, false, false, false, false, false, false, false, false, false, false, false, false, false, false, false, false, false] rfl rfl (any_of HT_.out (by kernel_rfl)) (fun _ _ _ h => h) (Or.inl ⟨by rfl, ?_⟩) ?_ ?_
                                rotate_left
                                · intro w'
                                  go_simp
                                  with_reducible rfl
                                rotate_left
                                · simp only [Act.put, List.setIfInBounds_toArray, List.set_cons_zero, List.set_cons_succ, i64_w, i32_w]
                                  rfl
                                refine pure_ (i := 9) (N := some 60) (v := ?_) (a' := ?_) #[true, true, true, false, true, false, false, true, true, true, false, false, false, false, false, false, false, false, false, false, false, false, false, false, false, false, false, false, false, false, false, false, false, false] rfl rfl (any_of HT_.out (by kernel_rfl)) (fun _ _ _ h => h) (Or.inl ⟨by rfl, ?_⟩) ?_ ?_
                                rotate_left
                                · intro w'
                                  go_simp
                                  with_reducible rfl
                                rotate_left
                                · simp only [Act.put, List.setIfInBounds_toArray, List.set_cons_zero, List.set_cons_succ, i64_w, i32_w]
                                  rfl
                                refine pure_ (i := 10) (N := some 61) (v := ?_) (a' := ?_) #[true, true, true, false, true, false, false, true, true, true, true, false, false, false, false, false, false, false, false, false, false, false, false, false, false, false, false, false, false, false, false, false, false, false] rfl rfl (any_of HT_.out (by kernel_rfl)) (fun _ _ _ h => h) (Or.inl ⟨by rfl, ?_⟩) ?_ ?_
                                rotate_left
                                · intro w'
                                  go_simp
                                  with_reducible rfl
                                rotate_left
                                · simp only [Act.put, List.setIfInBounds_toArray, List.set_cons_zero, List.set_cons_succ, i64_w, i32_w]
                                  rfl
                                refine take_ (i := 11) (N := some 62) (v := ?_) (a' := ?_) #[true, true, true, false, true, false, false, true, true, true, true, true, false, false, false, false, false, false, false, false, false, false, false, false, false, false, false, false, false, false, false, false, false, false] rfl rfl (take_ofW HT_.out HW_.out (by kernel_rfl)) (fun _ _ _ h => h) (Or.inl ⟨by rfl, ?_⟩) hHeld ?_ ?_
                                rotate_left
                                · rintro w' ⟨s0, s1, s2⟩
                                  go_simp
                                  with_reducible rfl
                                rotate_left
                                · simp only [Act.put, List.setIfInBounds_toArray, List.set_cons_zero, List.set_cons_succ, i64_w, i32_w]
                                  rfl
                                refine pure_ (i := 12) (N := some 63) (v := ?_) (a' := ?_) #[true, true, true, false, true, false, false, true, true, true, true, true, true, false, false, false, false, false, false, false, false, false, false, false, false, false, false, false, false, false, false, false, false, false] rfl rfl (any_of HT_.out (by kernel_rfl)) (fun _ _ _ h => h) (Or.inl ⟨by rfl, ?_⟩) ?_ ?_
                                rotate_left
                                · intro w'
                                  go_simp
                                  with_reducible rfl
                                rotate_left
                                · simp only [Act.put, List.setIfInBounds_toArray, List.set_cons_zero, List.set_cons_succ, i64_w, i32_w]
                                  rfl
                                refine one_ (i := 3) (N := some 54) #[true, true, true, true, true, false, false, true, true, true, true, true, true, false, false, false, false, false, false, false, false, false, false, false, false, false, false, false, false, false, false, false, false, false] rfl rfl (one_of HT_.out (by kernel_rfl)) (by decide) (fun K hK => ?_)
                                refine goes_ Tryd.func10 (by kernel_rfl) rfl #[.slice (some ⟨go14, 0, none⟩) y140.length co14] (by rfl) rfl rfl (by (try simp only [List.map_toArray, List.map_cons, List.map_nil]); first | done | (rw [show y140.length = y137.length from (Kd.R_reads' HO139.out).1.symm] <;> rfl) | rfl | (simp only [List.length_drop, List.length_take]; rfl)) ?_
                                with_reducible refine (crc_Sum.calls _ _ y140 t151 _ ?side3 ?side1 ?side2 A23.out).mono ?_
                                (case side1 => repeat (first | exact (Kd.R_reads' HO139.out).2.2 | (with_reducible refine Kd.C_alloc ?_ _) | (with_reducible refine Kd.C_drewN ?_ _) | (with_reducible refine Kd.C_drew ?_)))
                                (case side2 => rw [show y140.length = y137.length from (Kd.R_reads' HO139.out).1.symm]; exact (Kd.R_reads' HO139.out).2.1)
                                (case side3 => first | exact HG.out | exact Glob.below HG.out HB.out | exact Glob.drewN (Glob.below HG.out HB.out) _ | exact Glob.drewN HG.out _ | (refine Glob.below HG.out ?_; (repeat (first | (with_reducible first | exact HB.out | apply below_alloc | apply pw_below_drewN | apply below_drew1) | exact HB.out)); done) | (repeat (first | exact HG.out | (with_reducible refine Glob.drewN ?_ _) | (with_reducible refine Glob.drew ?_) | (with_reducible refine Glob.alloc ?_ _)); done))
                                rintro e w' ⟨rfl, ⟨nd, rfl⟩⟩
                                refine ⟨_, rfl, ?_⟩
                                refine hK.out _ _ ⟨hHeld.1, hHeld.2.1, hHeld.2.2⟩ (fun hHeld => ?_)
                                clear hK K
                                refine norm_ (a' := ?_) ?_ ?_
                                rotate_left
                                · show Act.put _ (some 54) _ = _
                                  simp only [Act.put, List.setIfInBounds_toArray, List.set_cons_zero, List.set_cons_succ, i64_w, i32_w]
                                  rfl
                                refine one_ (i := 5) (N := some 56) #[true, true, true, true, true, true, false, true, true, true, true, true, true, false, false, false, false, false, false, false, false, false, false, false, false, false, false, false, false, false, false, false, false, false] rfl rfl (one_of HT_.out (by kernel_rfl)) (by decide) (fun K hK => ?_)
                                refine goes_ Tryd.func10 (by kernel_rfl) rfl #[.slice (some ad153) y131.length co35] (by rfl) rfl rfl (by (try simp only [List.map_toArray, List.map_cons, List.map_nil]); first | done | rfl | (simp only [List.length_drop, List.length_take]; rfl)) ?_
                                with_reducible refine (crc_Sum.calls _ _ y131 t152 _ ?side3 ?side1 ?side2 A24.out).mono ?_
                                (case side1 => repeat (first | exact (Kd.R_reads' HO133.out).2.2 | (with_reducible refine Kd.C_alloc ?_ _) | (with_reducible refine Kd.C_drewN ?_ _) | (with_reducible refine Kd.C_drew ?_)))
                                (case side2 => exact (Kd.R_reads' HO133.out).2.1)
                                (case side3 => first | exact HG.out | exact Glob.below HG.out HB.out | exact Glob.drewN (Glob.below HG.out HB.out) _ | exact Glob.drewN HG.out _ | (refine Glob.below HG.out ?_; (repeat (first | (with_reducible first | exact HB.out | apply below_alloc | apply pw_below_drewN | apply below_drew1) | exact HB.out)); done) | (repeat (first | exact HG.out | (with_reducible refine Glob.drewN ?_ _) | (with_reducible refine Glob.drew ?_) | (with_reducible refine Glob.alloc ?_ _)); done))
                                rintro e w' ⟨rfl, ⟨nd, rfl⟩⟩
                                refine ⟨_, rfl, ?_⟩
                                refine hK.out _ _ ⟨hHeld.1, hHeld.2.1, hHeld.2.2⟩ (fun hHeld => ?_)
                                clear hK K
                                refine norm_ (a' := ?_) ?_ ?_
                                rotate_left
                                · show Act.put _ (some 56) _ = _
                                  simp only [Act.put, List.setIfInBounds_toArray, List.set_cons_zero, List.set_cons_succ, i64_w, i32_w]
                                  rfl
                                refine pure_ (i := 6) (N := some 57) (v := ?_) (a' := ?_) #[true, true, true, true, true, true, true, true, true, true, true, true, true, false, false, false, false, false, false, false, false, false, false, false, false, false, false, false, false, false, false, false, false, false] rfl rfl (any_of HT_.out (by kernel_rfl)) (fun _ _ _ h => h) (Or.inl ⟨by rfl, ?_⟩) ?_ ?_
                                rotate_left
                                · intro w'
                                  go_simp
                                  with_reducible rfl
                                rotate_left
                                · simp only [Act.put, List.setIfInBounds_toArray, List.set_cons_zero, List.set_cons_succ, i64_w, i32_w]
                                  rfl
                                refine pure_ (i := 13) (N := some 64) (v := ?_) (a' := ?_) #[true, true, true, true, true, true, true, true, true, true, true, true, true, true, false, false, false, false, false, false, false, false, false, false, false, false, false, false, false, false, false, false, false, false] rfl rfl (any_of HT_.out (by kernel_rfl)) (fun _ _ _ h => h) (Or.inl ⟨by rfl, ?_⟩) ?_ ?_
                                rotate_left
                                · intro w'
                                  go_simp
                                  with_reducible rfl
                                rotate_left
                                · simp only [Act.put, List.setIfInBounds_toArray, List.set_cons_zero, List.set_cons_succ, i64_w, i32_w]
                                  rfl
                                refine pure_ (i := 14) (N := some 65) (v := ?_) (a' := ?_) #[true, true, true, true, true, true, true, true, true, true, true, true, true, true, true, false, false, false, false, false, false, false, false, false, false, false, false, false, false, false, false, false, false, false] rfl rfl (any_of HT_.out (by kernel_rfl)) (fun _ _ _ h => h) (Or.inl ⟨by rfl, ?_⟩) ?_ ?_
                                rotate_left
                                · intro w'
                                  go_simp
                                  with_reducible rfl
                                rotate_left
                                · simp only [Act.put, List.setIfInBounds_toArray, List.set_cons_zero, List.set_cons_succ, i64_w, i32_w]
                                  rfl
                                refine pure_ (i := 15) (N := some 66) (v := ?_) (a' := ?_) #[true, true, true, true, true, true, true, true, true, true, true, true, true, true, true, true, false, false, false, false, false, false, false, false, false, false, false, false, false, false, false, false, false, false] rfl rfl (any_of HT_.out (by kernel_rfl)) (fun _ _ _ h => h) (Or.inl ⟨by rfl, ?_⟩) ?_ ?_
                                rotate_left
                                · intro w'
                                  go_simp
                                  with_reducible rfl
                                rotate_left
                                · simp only [Act.put, List.setIfInBounds_toArray, List.set_cons_zero, List.set_cons_succ, i64_w, i32_w]
                                  rfl
                                refine pure_ (i := 16) (N := some 67) (v := ?_) (a' := ?_) #[true, true, true, true, true, true, true, true, true, true, true, true, true, true, true, true, true, false, false, false, false, false, false, false, false, false, false, false, false, false, false, false, false, false] rfl rfl (any_of HT_.out (by kernel_rfl)) (fun _ _ _ h => h) (Or.inl ⟨by rfl, ?_⟩) ?_ ?_
                                rotate_left
                                · intro w'
                                  go_simp
                                  with_reducible rfl
                                rotate_left
                                · simp only [Act.put, List.setIfInBounds_toArray, List.set_cons_zero, List.set_cons_succ, i64_w, i32_w]
                                  rfl
                                refine pure_ (i := 18) (N := some 69) (v := ?_) (a' := ?_) #[true, true, true, true, true, true, true, true, true, true, true, true, true, true, true, true, true, false, true, false, false, false, false, false, false, false, false, false, false, false, false, false, false, false] rfl rfl (any_of HT_.out (by kernel_rfl)) (fun _ _ _ h => h) (Or.inl ⟨by rfl, ?_⟩) ?_ ?_
                                rotate_left
                                · intro w'
                                  go_simp
                                  with_reducible rfl
                                rotate_left
                                · simp only [Act.put, List.setIfInBounds_toArray, List.set_cons_zero, List.set_cons_succ, i64_w, i32_w]
                                  rfl
                                refine pure_ (i := 21) (N := some 72) (v := ?_) (a' := ?_) #[true, true, true, true, true, true, true, true, true, true, true, true, true, true, true, true, true, false, true, false, false, true, false, false, false, false, false, false, false, false, false, false, false, false] rfl rfl (any_of HT_.out (by kernel_rfl)) (fun _ _ _ h => h) (Or.inl ⟨by rfl, ?_⟩) ?_ ?_
                                rotate_left
                                · intro w'
                                  go_simp
                                  with_reducible rfl
                                rotate_left
                                · simp only [Act.put, List.setIfInBounds_toArray, List.set_cons_zero, List.set_cons_succ, i64_w, i32_w]
                                  rfl
                                refine pure_ (i := 22) (N := some 73) (v := ?_) (a' := ?_) #[true, true, true, true, true, true, true, true, true, true, true, true, true, true, true, true, true, false, true, false, false, true, true, false, false, false, false, false, false, false, false, false, false, false] rfl rfl (any_of HT_.out (by kernel_rfl)) (fun _ _ _ h => h) (Or.inl ⟨by rfl, ?_⟩) ?_ ?_
                                rotate_left
                                · intro w'
                                  go_simp
                                  with_reducible rfl
                                rotate_left
                                · simp only [Act.put, List.setIfInBounds_toArray, List.set_cons_zero, List.set_cons_succ, i64_w, i32_w]
                                  rfl
                                refine pure_ (i := 23) (N := some 74) (v := ?_) (a' := ?_) #[true, true, true, true, true, true, true, true, true, true, true, true, true, true, true, true, true, false, true, false, false, true, true, true, false, false, false, false, false, false, false, false, false, false] rfl rfl (any_of HT_.out (by kernel_rfl)) (fun _ _ _ h => h) (Or.inl ⟨by rfl, ?_⟩) ?_ ?_
                                rotate_left
                                · intro w'
                                  go_simp
                                  with_reducible rfl
                                rotate_left
                                · simp only [Act.put, List.setIfInBounds_toArray, List.set_cons_zero, List.set_cons_succ, i64_w, i32_w]
                                  rfl
                                refine pure_ (i := 25) (N := some 76) (v := ?_) (a' := ?_) #[true, true, true, true, true, true, true, true, true, true, true, true, true, true, true, true, true, false, true, false, false, true, true, true, false, true, false, false, false, false, false, false, false, false] rfl rfl (any_of HT_.out (by kernel_rfl)) (fun _ _ _ h => h) (Or.inl ⟨by rfl, ?_⟩) ?_ ?_
                                rotate_left
                                · intro w'
                                  go_simp
                                  with_reducible rfl
                                rotate_left
                                · simp only [Act.put, List.setIfInBounds_toArray, List.set_cons_zero, List.set_cons_succ, i64_w, i32_w]
                                  rfl
                                refine pure_ (i := 26) (N := some 77) (v := ?_) (a' := ?_) #[true, true, true, true, true, true, true, true, true, true, true, true, true, true, true, true, true, false, true, false, false, true, true, true, false, true, true, false, false, false, false, false, false, false] rfl rfl (any_of HT_.out (by kernel_rfl)) (fun _ _ _ h => h) (Or.inl ⟨by rfl, ?_⟩) ?_ ?_
                                rotate_left
                                · intro w'
                                  go_simp
                                  with_reducible rfl
                                rotate_left
                                · simp only [Act.put, List.setIfInBounds_toArray, List.set_cons_zero, List.set_cons_succ, i64_w, i32_w]
                                  rfl
                                refine pure_ (i := 27) (N := some 78) (v := ?_) (a' := ?_) #[true, true, true, true, true, true, true, true, true, true, true, true, true, true, true, true, true, false, true, false, false, true, true, true, false, true, true, true, false, false, false, false, false, false] rfl rfl (any_of HT_.out (by kernel_rfl)) (fun _ _ _ h => h) (Or.inl ⟨by rfl, ?_⟩) ?_ ?_
                                rotate_left
                                · intro w'
                                  go_simp
                                  with_reducible rfl
                                rotate_left
                                · simp only [Act.put, List.setIfInBounds_toArray, List.set_cons_zero, List.set_cons_succ, i64_w, i32_w]
                                  rfl
                                refine pure_ (i := 28) (N := some 79) (v := ?_) (a' := ?_) #[true, true, true, true, true, true, true, true, true, true, true, true, true, true, true, true, true, false, true, false, false, true, true, true, false, true, true, true, true, false, false, false, false, false] rfl rfl (any_of HT_.out (by kernel_rfl)) (fun _ _ _ h => h) (Or.inl ⟨by rfl, ?_⟩) ?_ ?_
                                rotate_left
                                · intro w'
                                  go_simp
                                  with_reducible rfl
                                rotate_left
                                · simp only [Act.put, List.setIfInBounds_toArray, List.set_cons_zero, List.set_cons_succ, i64_w, i32_w]
                                  rfl
                                refine take_ (i := 24) (N := some 75) (v := ?_) (a' := ?_) #[true, true, true, true, true, true, true, true, true, true, true, true, true, true, true, true, true, false, true, false, false, true, true, true, true, true, true, true, true, false, false, false, false, false] rfl rfl (take_ofW HT_.out HW_.out (by kernel_rfl)) (fun _ _ _ h => h) (Or.inl ⟨by rfl, ?_⟩) hHeld ?_ ?_
                                rotate_left
                                · rintro w' ⟨s0, s1, s2⟩
                                  go_simp
                                  with_reducible rfl
                                rotate_left
                                · simp only [Act.put, List.setIfInBounds_toArray, List.set_cons_zero, List.set_cons_succ, i64_w, i32_w]
                                  rfl
                                refine take_ (i := 29) (N := some 80) (v := ?_) (a' := ?_) #[true, true, true, true, true, true, true, true, true, true, true, true, true, true, true, true, true, false, true, false, false, true, true, true, true, true, true, true, true, true, false, false, false, false] rfl rfl (take_ofW HT_.out HW_.out (by kernel_rfl)) (fun _ _ _ h => h) (Or.inl ⟨by rfl, ?_⟩) hHeld ?_ ?_
                                rotate_left
                                · rintro w' ⟨s0, s1, s2⟩
                                  go_simp
                                  with_reducible rfl
                                rotate_left
                                · simp only [Act.put, List.setIfInBounds_toArray, List.set_cons_zero, List.set_cons_succ, i64_w, i32_w]
                                  rfl
                                refine pure_ (i := 30) (N := some 81) (v := ?_) (a' := ?_) #[true, true, true, true, true, true, true, true, true, true, true, true, true, true, true, true, true, false, true, false, false, true, true, true, true, true, true, true, true, true, true, false, false, false] rfl rfl (any_of HT_.out (by kernel_rfl)) (fun _ _ _ h => h) (Or.inl ⟨by rfl, ?_⟩) ?_ ?_
                                rotate_left
                                · intro w'
                                  go_simp
                                  with_reducible rfl
                                rotate_left
                                · simp only [Act.put, List.setIfInBounds_toArray, List.set_cons_zero, List.set_cons_succ, i64_w, i32_w]
                                  rfl
                                refine one_ (i := 17) (N := some 68) #[true, true, true, true, true, true, true, true, true, true, true, true, true, true, true, true, true, true, true, false, false, true, true, true, true, true, true, true, true, true, true, false, false, false] rfl rfl (one_of HT_.out (by kernel_rfl)) (by decide) (fun K hK => ?_)
                                refine goes_ Tryd.func10 (by kernel_rfl) rfl #[.slice (some ⟨go20, 0, none⟩) y150.length co45] (by rfl) rfl rfl (by (try simp only [List.map_toArray, List.map_cons, List.map_nil]); first | done | (rw [show y150.length = y144.length from (Kd.R_reads' HO146.out).1.symm] <;> rfl) | rfl | (simp only [List.length_drop, List.length_take]; rfl)) ?_
                                with_reducible refine (crc_Sum.calls _ _ y150 t154 _ ?side3 ?side1 ?side2 A27.out).mono ?_
                                (case side1 => repeat (first | exact (Kd.R_reads' HO146.out).2.2 | (with_reducible refine Kd.C_alloc ?_ _) | (with_reducible refine Kd.C_drewN ?_ _) | (with_reducible refine Kd.C_drew ?_)))
                                (case side2 => rw [show y150.length = y144.length from (Kd.R_reads' HO146.out).1.symm]; exact (Kd.R_reads' HO146.out).2.1)
                                (case side3 => first | exact HG.out | exact Glob.below HG.out HB.out | exact Glob.drewN (Glob.below HG.out HB.out) _ | exact Glob.drewN HG.out _ | (refine Glob.below HG.out ?_; (repeat (first | (with_reducible first | exact HB.out | apply below_alloc | apply pw_below_drewN | apply below_drew1) | exact HB.out)); done) | (repeat (first | exact HG.out | (with_reducible refine Glob.drewN ?_ _) | (with_reducible refine Glob.drew ?_) | (with_reducible refine Glob.alloc ?_ _)); done))
                                rintro e w' ⟨rfl, ⟨nd, rfl⟩⟩
                                refine ⟨_, rfl, ?_⟩
                                refine hK.out _ _ ⟨hHeld.1, hHeld.2.1, hHeld.2.2⟩ (fun hHeld => ?_)
                                clear hK K
                                refine norm_ (a' := ?_) ?_ ?_
                                rotate_left
                                · show Act.put _ (some 68) _ = _
                                  simp only [Act.put, List.setIfInBounds_toArray, List.set_cons_zero, List.set_cons_succ, i64_w, i32_w]
                                  rfl
                                refine one_ (i := 19) (N := some 70) #[true, true, true, true, true, true, true, true, true, true, true, true, true, true, true, true, true, true, true, true, false, true, true, true, true, true, true, true, true, true, true, false, false, false] rfl rfl (one_of HT_.out (by kernel_rfl)) (by decide) (fun K hK => ?_)
                                refine goes_ Tryd.func10 (by kernel_rfl) rfl #[.slice (some ad153) y131.length co35] (by rfl) rfl rfl (by (try simp only [List.map_toArray, List.map_cons, List.map_nil]); first | done | rfl | (simp only [List.length_drop, List.length_take]; rfl)) ?_
                                with_reducible refine (crc_Sum.calls _ _ y131 t155 _ ?side3 ?side1 ?side2 A28.out).mono ?_
                                (case side1 => repeat (first | exact (Kd.R_reads' HO133.out).2.2 | (with_reducible refine Kd.C_alloc ?_ _) | (with_reducible refine Kd.C_drewN ?_ _) | (with_reducible refine Kd.C_drew ?_)))
                                (case side2 => exact (Kd.R_reads' HO133.out).2.1)
                                (case side3 => first | exact HG.out | exact Glob.below HG.out HB.out | exact Glob.drewN (Glob.below HG.out HB.out) _ | exact Glob.drewN HG.out _ | (refine Glob.below HG.out ?_; (repeat (first | (with_reducible first | exact HB.out | apply below_alloc | apply pw_below_drewN | apply below_drew1) | exact HB.out)); done) | (repeat (first | exact HG.out | (with_reducible refine Glob.drewN ?_ _) | (with_reducible refine Glob.drew ?_) | (with_reducible refine Glob.alloc ?_ _)); done))
                                rintro e w' ⟨rfl, ⟨nd, rfl⟩⟩
                                refine ⟨_, rfl, ?_⟩
                                refine hK.out _ _ ⟨hHeld.1, hHeld.2.1, hHeld.2.2⟩ (fun hHeld => ?_)
                                clear hK K
                                refine norm_ (a' := ?_) ?_ ?_
                                rotate_left
                                · show Act.put _ (some 70) _ = _
                                  simp only [Act.put, List.setIfInBounds_toArray, List.set_cons_zero, List.set_cons_succ, i64_w, i32_w]
                                  rfl
                                refine pure_ (i := 20) (N := some 71) (v := ?_) (a' := ?_) #[true, true, true, true, true, true, true, true, true, true, true, true, true, true, true, true, true, true, true, true, true, true, true, true, true, true, true, true, true, true, true, false, false, false] rfl rfl (any_of HT_.out (by kernel_rfl)) (fun _ _ _ h => h) (Or.inl ⟨by rfl, ?_⟩) ?_ ?_
                                rotate_left
                                · intro w'
                                  go_simp
                                  with_reducible rfl
                                rotate_left
                                · simp only [Act.put, List.setIfInBounds_toArray, List.set_cons_zero, List.set_cons_succ, i64_w, i32_w]
                                  rfl
                                refine pure_ (i := 31) (N := some 82) (v := ?_) (a' := ?_) #[true, true, true, true, true, true, true, true, true, true, true, true, true, true, true, true, true, true, true, true, true, true, true, true, true, true, true, true, true, true, true, true, false, false] rfl rfl (any_of HT_.out (by kernel_rfl)) (fun _ _ _ h => h) (Or.inl ⟨by rfl, ?_⟩) ?_ ?_
                                rotate_left
                                · intro w'
                                  go_simp
                                  with_reducible rfl
                                rotate_left
                                · simp only [Act.put, List.setIfInBounds_toArray, List.set_cons_zero, List.set_cons_succ, i64_w, i32_w]
                                  rfl
                                refine pure_ (i := 32) (N := some 83) (v := ?_) (a' := ?_) #[true, true, true, true, true, true, true, true, true, true, true, true, true, true, true, true, true, true, true, true, true, true, true, true, true, true, true, true, true, true, true, true, true, false] rfl rfl (any_of HT_.out (by kernel_rfl)) (fun _ _ _ h => h) (Or.inl ⟨by rfl, ?_⟩) ?_ ?_
                                rotate_left
                                · intro w'
                                  go_simp
                                  with_reducible rfl
                                rotate_left
                                · simp only [Act.put, List.setIfInBounds_toArray, List.set_cons_zero, List.set_cons_succ, i64_w, i32_w]
                                  rfl
                                refine pure_ (i := 33) (N := some 6) (v := ?_) (a' := ?_) #[true, true, true, true, true, true, true, true, true, true, true, true, true, true, true, true, true, true, true, true, true, true, true, true, true, true, true, true, true, true, true, true, true, true] rfl rfl (any_of HT_.out (by kernel_rfl)) (fun _ _ _ h => h) (Or.inl ⟨by rfl, ?_⟩) ?_ ?_
                                rotate_left
                                · intro w'
                                  go_simp
                                  with_reducible rfl
                                rotate_left
                                · simp only [Act.put, List.setIfInBounds_toArray, List.set_cons_zero, List.set_cons_succ, i64_w, i32_w]
                                  rfl
                                refine done_ (done_of HT_.out (by kernel_rfl)) ?_
                                try go_wp2
                                go_ret
                                exact ⟨by first | rfl | (simp [errW_none, errW_some] <;> rfl) | (simp only [← hji5, ← hji11, ← hji16]; first | rfl | (simp [errW_none, errW_some] <;> rfl)) | (simp [*, errW_none, errW_some] <;> rfl), by repeat (first | (with_reducible first | exact HB.out | apply below_alloc | apply pw_below_drewN | apply below_drew1) | exact HB.out)⟩
                              · rw [if_neg c29] at H
                                exact absurd H (by simp)
                            · rw [if_neg c26] at H
                              have c26b0 : ((t151 == t152) == (a2 == (rd y131 (ji11)))) = false := by simpa using c26
                              (try (have c26b1 : decide ((t151 == t152) = (a2 == (rd y131 (ji11)))) = false := by simpa using c26))
                              (try (have c26b2 : ((t151 == t152) == (a2 == (rd y131 (ji11)))) = false := by simpa using c26))
                              (try (have c26b3 : ¬ ((t151 == t152) = (a2 == (rd y131 (ji11)))) := by simpa using c26))
                              clear c26
                              exact absurd HT.out (by rw [← Option.some.inj H]; decide)
                          · rw [if_neg c25] at H
                            exact absurd H (by simp)
                        · replace c22 := Bool.eq_false_iff.mpr c22
                          subst c22
                          have H1 : (some false) = some r := by rw [if_neg (show ¬ (false = true) by decide)] at H; exact H
                          clear H
                          have H := H1
                          clear H1
                          exact absurd HT.out (by rw [← Option.some.inj H]; decide)
                      · rw [if_neg c19] at H
                        exact absurd H (by simp)
                    · rw [if_neg c18] at H
                      exact absurd H (by simp)
                  · rw [if_neg c17] at H
                    exact absurd H (by simp)
                · rw [if_neg c15] at H
                  exact absurd H (by simp)
              · rw [if_neg c13] at H
                exact absurd H (by simp)
            · rw [if_neg c12] at H
              exact absurd H (by simp)
          · rw [if_neg c10] at H
            exact absurd H (by simp)
      · rw [if_neg c8] at H
        exact absurd H (by simp)
    · rw [if_neg c7] at H
      exact absurd H (by simp)
  · rw [if_neg c6] at H
    exact absurd H (by simp)

/-- THE ONE PURE STATEMENT of transeptlaw02_CrcOne: yours. -/
def transeptlaw02_CrcOne.Pure : Prop := ∀ (l0 : List Int) (a1 : Int) (a2 : Int), l0.length ≤ maxLen → l0.length * 1 ≤ 140737488351232 → (∀ x ∈ l0, (Lit.int .u8 x).wf = true) → (Lit.int .i64 a1).wf = true → (Lit.int .u8 a2).wf = true → transeptlaw02_CrcOne.f l0 a1 a2 = some true
theorem transeptlaw02_CrcOne.walk (P : transeptlaw02_CrcOne.Pure) (a0 : Option Addr) (len0 cap0 : Nat) (z0 : List Int) (a1 : Int) (a2 : Int) (w : World) (hG : Glob w) (w0 : (a0 = none ∧ len0 = 0 ∧ cap0 = 0 ∧ z0 = []) ∨ ∃ x, a0 = some x ∧ len0 ≤ cap0 ∧ cap0 ≤ maxLen ∧ z0.length = cap0 ∧ (∀ i, i < z0.length → w.cell? (x.add i) = some (.int .u8 (z0.getD i 0))) ∧ ∀ n ∈ z0, (Lit.int .u8 n).wf = true) (y0 : len0 * 1 ≤ 140737488351232) (w1 : (Lit.int .i64 a1).wf = true) (w2 : (Lit.int .u8 a2).wf = true) :
    Calls Tryd.prog 5 #[.slice a0 len0 cap0, .int .i64 a1, .int .u8 a2] w fun e w' => e = .returned (.bool true) ∧ Below w.heap.size w w' := by
  obtain ⟨l0, rfl, hr0, hm0, hw0, hc0⟩ := ReadsInt.ofRowC w0
  have h := P l0 a1 a2 hm0 y0 hw0 w1 w2
  refine (transeptlaw02_CrcOne.calls _ _ l0 a1 a2 true w hG (Kd.C_of_reads (d := (0 : Int)) (h1 := fun _ => rfl) hr0) hc0 rfl h).mono ?_
  rintro e w' ⟨rfl, hd⟩
  exact ⟨rfl, hd⟩

end Go.Proofs.YtdbmildhfnpokaaDoor.Xa
