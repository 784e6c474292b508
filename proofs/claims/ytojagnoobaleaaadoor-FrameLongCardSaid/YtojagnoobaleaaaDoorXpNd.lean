-- Written by a program of this session (wip/tools/xprint.py), in the manner of the print of the kit.
import Derived.Test.YtojagnoobaleaaaDoorXpx0
import Derived.Test.YtojagnoobaleaaaDoorXpm
import Derived.Test.YtojagnoobaleaaaDoorStr
import Derived.Test.YtojagnoobaleaaaDoorFrX
namespace Go.Proofs.YtojagnoobaleaaaDoor.Xp
open Go.RowKit Go.Proofs.YtojagnoobaleaaaDoor.Ext Go.Proofs.YtojagnoobaleaaaDoorW.PrintWords Go.Proofs.YtojagnoobaleaaaDoorW.PrintLast Go.Proofs.YtojagnoobaleaaaDoorW.PrintMore
attribute [local go_sem] max2_int min2_int max_two min_two max_three min_three max_four min_four   -- for this text's walks alone
set_option linter.unusedVariables false
set_option linter.unusedSimpArgs false

/-! ### transeptlaw04_FrameLong: function 9 -/
mutual
def transeptlaw04_FrameLong.l0 : Nat → Int → Int → Bool → List (List Int) → List Int → Int → Option (Bool)
  | 0, _, _, _, _, _, _ => none
  | k + 1, x0, x1, x5, x6, x7, x8 => if x8 < 52 then ((some (([x7] : List (List Int)) : List (List Int))).bind fun y122 => (if x6.length + y122.length < 5864062014805 then (transeptlaw04_FrameLong.l0 k x0 x1 x5 (x6 ++ y122) x7 (wrap64 (x8 + 1))) else (none))) else ((some (([] : List (List Int)) : List (List Int))).bind fun y128 => (if y128.length + x6.length < 5864062014805 then ((some (y128 ++ x6 : List (List Int))).bind fun y131 => (if 0 ≤ (wrap64 ((8202 - 4) + (Go.bits .and .i64 x0 7))) then (if (wrap64 ((8202 - 4) + (Go.bits .and .i64 x0 7)) : Int).toNat ≤ 281474976710656 then ((some (([(List.replicate (wrap64 ((8202 - 4) + (Go.bits .and .i64 x0 7)) : Int).toNat 0)] : List (List Int)) : List (List Int))).bind fun y137 => (if y131.length + y137.length < 5864062014805 then ((frame_Join.f (y131 ++ y137)).bind fun bt143 => ((frame_Join.f x6).bind fun bt147 => (if bt147.2 = 0 then ((some (([] : List Int) : List Int)).bind fun y151 => (if y151.length + bt147.1.length < 140737488355328 then ((some (y151 ++ bt147.1 : List Int)).bind fun y154 => ((transeptref04_Frame.f k (strOfNums (List.replicate (wrap64 ((8202 - 4) + (Go.bits .and .i64 x0 7)) : Int).toNat 0))).bind fun t160 => (if y154.length + t160.size < 140737488355328 then ((some (y154 ++ bytesOf t160 : List Int)).bind fun y161 => ((frame_Split.f y161).bind fun bt164 => (if ((bt143.2 == 0) != (decide ((wrap64 ((8202 - 4) + (Go.bits .and .i64 x0 7))) ≤ 8202))) = true then (transeptlaw04_FrameLong.j1 k (wrap64 ((8202 - 4) + (Go.bits .and .i64 x0 7))) x1 x5 8202 bt143.2 y161 bt164.1 bt164.2.1 bt164.2.2 true) else (transeptlaw04_FrameLong.j1 k (wrap64 ((8202 - 4) + (Go.bits .and .i64 x0 7))) x1 x5 8202 bt143.2 y161 bt164.1 bt164.2.1 bt164.2.2 ((y161.length : Int) != (wrap64 ((1048576 - 8202) + (wrap64 ((8202 - 4) + (Go.bits .and .i64 x0 7)))))))))) else (none)))) else (none))) else (some false)))) else (none))) else (none)) else (none))) else (none)))
def transeptlaw04_FrameLong.j1 : Nat → Int → Int → Bool → Int → Int → List Int → List (List Int) → Int → Int → Bool → Option (Bool)
  | 0, _, _, _, _, _, _, _, _, _, _ => none
  | k + 1, x0, x1, x5, x9, x11, x14, x15, x16, x17, x82 => if x82 = true then (some false) else (if x0 ≤ x9 then (if x17 = 0 then (if x16 = (x14.length : Int) then (if (x15.length : Int) = 53 then (if 0 ≤ (Go.bits .and .i64 x1 3) then (if (Go.bits .and .i64 x1 3) < (x14.length : Int) then ((frame_Split.f (x14.set ((Go.bits .and .i64 x1 3) : Int).toNat (((rd x14 (Go.bits .and .i64 x1 3)) + 1) % 256))).bind fun bt171 => (if x5 = true then (if bt171.2.1 = (Go.bits .and .i64 x1 3) then (some (bt171.2.2 == 3)) else (some false)) else (some false))) else (none)) else (none)) else (some false)) else (some false)) else (some false)) else (if x11 = 5 then (if x17 = 5 then (if x16 = 1048576 then (if (x15.length : Int) = 52 then (if 0 ≤ (Go.bits .and .i64 x1 3) then (if (Go.bits .and .i64 x1 3) < (x14.length : Int) then ((frame_Split.f (x14.set ((Go.bits .and .i64 x1 3) : Int).toNat (((rd x14 (Go.bits .and .i64 x1 3)) + 1) % 256))).bind fun bt178 => (if x5 = true then (if bt178.2.1 = (Go.bits .and .i64 x1 3) then (some (bt178.2.2 == 3)) else (some false)) else (some false))) else (none)) else (none)) else (some false)) else (some false)) else (some false)) else (some false)))
end
def transeptlaw04_FrameLong.f (k : Nat) (a0 : Int) (a1 : Int) : Option (Bool) := (transeptlaw04_shown.f).bind fun t118 => (if 20000 ≤ 281474976710656 then (transeptlaw04_FrameLong.l0 k a0 a1 t118 ([] : List (List Int)) (List.replicate 20000 0) 0) else (none))
theorem transeptlaw04_FrameLong.mono_l : ∀ k, (∀ y0 y1 y2 y3 y4 y5, LeO (transeptlaw04_FrameLong.l0 k y0 y1 y2 y3 y4 y5) (transeptlaw04_FrameLong.l0 (k + 1) y0 y1 y2 y3 y4 y5)) ∧ (∀ y0 y1 y2 y3 y4 y5 y6 y7 y8 y9, LeO (transeptlaw04_FrameLong.j1 k y0 y1 y2 y3 y4 y5 y6 y7 y8 y9) (transeptlaw04_FrameLong.j1 (k + 1) y0 y1 y2 y3 y4 y5 y6 y7 y8 y9))
  | 0 => ⟨fun _ _ _ _ _ _ r h => by simp [transeptlaw04_FrameLong.l0] at h, fun _ _ _ _ _ _ _ _ _ _ r h => by simp [transeptlaw04_FrameLong.j1] at h⟩
  | k + 1 => by
    obtain ⟨ih0, ih1⟩ := transeptlaw04_FrameLong.mono_l k
    refine ⟨?_, ?_⟩
    · intro y0 y1 y2 y3 y4 y5
      unfold transeptlaw04_FrameLong.l0
      repeat' first
      | (with_reducible exact ih0 _ _ _ _ _ _)
      | (with_reducible exact ih1 _ _ _ _ _ _ _ _ _ _)
      | (with_reducible exact transeptref04_Frame.mono _ _)
      | (with_reducible exact LeO.refl _)
      | (with_reducible exact LeO.none _)
      | (with_reducible refine LeO.ite ?_ ?_)
      | (with_reducible refine LeO.bind ?_ (fun _ => ?_))
      | exact ih0 _ _ _ _ _ _
      | exact ih1 _ _ _ _ _ _ _ _ _ _
      | exact transeptref04_Frame.mono _ _
      | exact LeO.none _
      | refine LeO.ite ?_ ?_
      | refine LeO.bind ?_ (fun _ => ?_)
    · intro y0 y1 y2 y3 y4 y5 y6 y7 y8 y9
      unfold transeptlaw04_FrameLong.j1
      repeat' first
      | (with_reducible exact ih0 _ _ _ _ _ _)
      | (with_reducible exact ih1 _ _ _ _ _ _ _ _ _ _)
      | (with_reducible exact transeptref04_Frame.mono _ _)
      | (with_reducible exact LeO.refl _)
      | (with_reducible exact LeO.none _)
      | (with_reducible refine LeO.ite ?_ ?_)
      | (with_reducible refine LeO.bind ?_ (fun _ => ?_))
      | exact ih0 _ _ _ _ _ _
      | exact ih1 _ _ _ _ _ _ _ _ _ _
      | exact transeptref04_Frame.mono _ _
      | exact LeO.none _
      | refine LeO.ite ?_ ?_
      | refine LeO.bind ?_ (fun _ => ?_)
theorem transeptlaw04_FrameLong.mono : ∀ a0 a1 k, LeO (transeptlaw04_FrameLong.f k a0 a1) (transeptlaw04_FrameLong.f (k + 1) a0 a1) := by
  intro a0 a1 k
  obtain ⟨ih0, ih1⟩ := transeptlaw04_FrameLong.mono_l k
  unfold transeptlaw04_FrameLong.f
  repeat' first
      | (with_reducible exact ih0 _ _ _ _ _ _)
      | (with_reducible exact ih1 _ _ _ _ _ _ _ _ _ _)
      | (with_reducible exact transeptref04_Frame.mono _ _)
      | (with_reducible exact LeO.refl _)
      | (with_reducible exact LeO.none _)
      | (with_reducible refine LeO.ite ?_ ?_)
      | (with_reducible refine LeO.bind ?_ (fun _ => ?_))
      | exact ih0 _ _ _ _ _ _
      | exact ih1 _ _ _ _ _ _ _ _ _ _
      | exact transeptref04_Frame.mono _ _
      | exact LeO.none _
      | refine LeO.ite ?_ ?_
      | refine LeO.bind ?_ (fun _ => ?_)
def transeptlaw04_FrameLong.T10 : Bool × List (List Nat × List Nat) := (true, [([], []), ([], []), ([0, 1], [0, 1]), ([], []), ([3, 3], [3]), ([4], [4]), ([2, 5, 2], [2, 5]), ([6, 6], [6]), ([7], [7]), ([8], [8]), ([8], [8]), ([9, 7, 0, 1, 2, 3, 4, 5, 6, 7, 8, 9], [9]), ([10, 11, 0, 1, 2, 3, 4, 5, 6, 7, 8, 9, 10, 11], [10])])
def transeptlaw04_FrameLong.B10 : List Nat := [0, 0, 3, 0, 8, 24, 63, 127, 255, 511, 511, 1023, 4095]
theorem transeptlaw04_FrameLong.tab10 : rtab .any (opsOf Tryd.f9 10) = transeptlaw04_FrameLong.T10 := by kernel_rfl
theorem transeptlaw04_FrameLong.bits10 : waitsOk transeptlaw04_FrameLong.T10.2 transeptlaw04_FrameLong.B10 = true := by kernel_rfl
def transeptlaw04_FrameLong.T14 : Bool × List (List Nat × List Nat) := (true, [([], []), ([], []), ([0, 1], [0, 1]), ([], []), ([3, 3], [3]), ([4], [4]), ([5, 2], [5]), ([2, 6, 6], [2, 6]), ([7, 7, 0, 1, 2, 3, 4, 5, 6, 7], [7])])
def transeptlaw04_FrameLong.B14 : List Nat := [0, 0, 3, 0, 8, 24, 63, 127, 255]
theorem transeptlaw04_FrameLong.tab14 : rtab .any (opsOf Tryd.f9 14) = transeptlaw04_FrameLong.T14 := by kernel_rfl
theorem transeptlaw04_FrameLong.bits14 : waitsOk transeptlaw04_FrameLong.T14.2 transeptlaw04_FrameLong.B14 = true := by kernel_rfl
end Go.Proofs.YtojagnoobaleaaaDoor.Xp
