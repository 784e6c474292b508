-- Written by a program of this session (wip/tools/xprint.py), in the manner of the print of the kit.
import Derived.Test.YtojagnoobaleaaaDoorXpx0
import Derived.Test.YtojagnoobaleaaaDoorXpm
import Derived.Test.YtojagnoobaleaaaDoorStr
import Derived.Test.YtojagnoobaleaaaDoorFrZ
namespace Go.Proofs.YtojagnoobaleaaaDoor.Xp
open Go.RowKit Go.Proofs.YtojagnoobaleaaaDoor.Ext Go.Proofs.YtojagnoobaleaaaDoorW.PrintWords Go.Proofs.YtojagnoobaleaaaDoorW.PrintLast Go.Proofs.YtojagnoobaleaaaDoorW.PrintMore
attribute [local go_sem] max2_int min2_int max_two min_two max_three min_three max_four min_four   -- for this text's walks alone
set_option linter.unusedVariables false
set_option linter.unusedSimpArgs false

/-! ### transeptlaw04_FrameWrites: function 4 -/
mutual
def transeptlaw04_FrameWrites.j0 : Nat → Int → Bool → List (List Int) → List ByteArray → ByteArray → Bool → Option (Bool)
  | 0, _, _, _, _, _, _ => none
  | k + 1, x1, x5, x6, x7, x10, x39 => if x39 = true then (some false) else (transeptlaw04_FrameWrites.l0 k x1 x5 x6 x7 x10 0)
def transeptlaw04_FrameWrites.l0 : Nat → Int → Bool → List (List Int) → List ByteArray → ByteArray → Int → Option (Bool)
  | 0, _, _, _, _, _, _ => none
  | k + 1, x1, x5, x6, x7, x10, x11 => if x11 < (x6.length : Int) then ((frame_At.f x6 x11).bind fun t198 => (if t198 < 4 then (transeptlaw04_FrameWrites.j2 k x1 x5 x6 x7 x10 x11 t198 true) else (if 0 ≤ x11 then (if x11 < (x7.length : Int) then (if (wrap64 ((wrap64 (t198 + ((rdOf ByteArray.empty x7 x11).size : Int))) + 4)) > (x10.size : Int) then (transeptlaw04_FrameWrites.j2 k x1 x5 x6 x7 x10 x11 t198 true) else (if 0 ≤ t198 then (if t198 ≤ (wrap64 (t198 + ((rdOf ByteArray.empty x7 x11).size : Int))) then (if (wrap64 (t198 + ((rdOf ByteArray.empty x7 x11).size : Int))) ≤ (x10.size : Int) then (if (x10.extract (t198 : Int).toNat ((wrap64 (t198 + ((rdOf ByteArray.empty x7 x11).size : Int))) : Int).toNat).toList = (rdOf ByteArray.empty x7 x11).toList then (if 0 ≤ (wrap64 (t198 + ((rdOf ByteArray.empty x7 x11).size : Int))) then (if (wrap64 (t198 + ((rdOf ByteArray.empty x7 x11).size : Int))) ≤ (wrap64 ((wrap64 (t198 + ((rdOf ByteArray.empty x7 x11).size : Int))) + 4)) then (if (wrap64 ((wrap64 (t198 + ((rdOf ByteArray.empty x7 x11).size : Int))) + 4)) ≤ (x10.size : Int) then ((transeptref04_Four.f k (rdOf ByteArray.empty x7 x11)).bind fun t205 => (transeptlaw04_FrameWrites.j2 k x1 x5 x6 x7 x10 x11 t198 ((x10.extract ((wrap64 (t198 + ((rdOf ByteArray.empty x7 x11).size : Int))) : Int).toNat ((wrap64 ((wrap64 (t198 + ((rdOf ByteArray.empty x7 x11).size : Int))) + 4)) : Int).toNat).toList != t205.toList))) else (none)) else (none)) else (none)) else (transeptlaw04_FrameWrites.j2 k x1 x5 x6 x7 x10 x11 t198 true)) else (none)) else (none)) else (none))) else (none)) else (none)))) else (if x5 = true then (if x1 ≥ 0 then (if x1 < (x6.length : Int) then (some true) else ((frame_At.f x6 x1).bind fun t196 => (some (t196 == (-1))))) else ((frame_At.f x6 x1).bind fun t197 => (some (t197 == (-1))))) else (some false))
def transeptlaw04_FrameWrites.j2 : Nat → Int → Bool → List (List Int) → List ByteArray → ByteArray → Int → Int → Bool → Option (Bool)
  | 0, _, _, _, _, _, _, _, _ => none
  | k + 1, x1, x5, x6, x7, x10, x11, x12, x105 => if x105 = true then (some false) else (if x11 = 0 then ((transeptref04_Join.f k ([] : List ByteArray)).bind fun t206 => (if 0 < (x7.length : Int) then ((transeptref04_Frame.f k (rdOf ByteArray.empty x7 0)).bind fun t208 => (if x12 = (wrap64 ((wrap64 ((wrap64 ((t206.size : Int) + (t208.size : Int))) - ((rdOf ByteArray.empty x7 0).size : Int))) - 4)) then (transeptlaw04_FrameWrites.l0 k x1 x5 x6 x7 x10 (wrap64 (x11 + 1))) else (some false))) else (none))) else (transeptlaw04_FrameWrites.l0 k x1 x5 x6 x7 x10 (wrap64 (x11 + 1))))
end
def transeptlaw04_FrameWrites.f (k : Nat) (l0 : List (List Int)) (a1 : Int) : Option (Bool) := (transeptlaw04_shown.f).bind fun t183 => ((transeptlaw04_few.f k l0).bind fun bt184 => ((frame_Join.f bt184.1).bind fun bt190 => ((transeptref04_Join.f k bt184.2).bind fun t194 => (if (strOfNums bt190.1).toList = t194.toList then (if bt190.2 = 0 then ((transeptlaw04_same.f k bt184.1 bt184.2).bind fun t195 => (transeptlaw04_FrameWrites.j0 k a1 t183 bt184.1 bt184.2 t194 (!t195))) else (transeptlaw04_FrameWrites.j0 k a1 t183 bt184.1 bt184.2 t194 true)) else (transeptlaw04_FrameWrites.j0 k a1 t183 bt184.1 bt184.2 t194 true)))))
theorem transeptlaw04_FrameWrites.mono_l : ∀ k, (∀ y0 y1 y2 y3 y4 y5, LeO (transeptlaw04_FrameWrites.j0 k y0 y1 y2 y3 y4 y5) (transeptlaw04_FrameWrites.j0 (k + 1) y0 y1 y2 y3 y4 y5)) ∧ (∀ y0 y1 y2 y3 y4 y5, LeO (transeptlaw04_FrameWrites.l0 k y0 y1 y2 y3 y4 y5) (transeptlaw04_FrameWrites.l0 (k + 1) y0 y1 y2 y3 y4 y5)) ∧ (∀ y0 y1 y2 y3 y4 y5 y6 y7, LeO (transeptlaw04_FrameWrites.j2 k y0 y1 y2 y3 y4 y5 y6 y7) (transeptlaw04_FrameWrites.j2 (k + 1) y0 y1 y2 y3 y4 y5 y6 y7))
  | 0 => ⟨fun _ _ _ _ _ _ r h => by simp [transeptlaw04_FrameWrites.j0] at h, fun _ _ _ _ _ _ r h => by simp [transeptlaw04_FrameWrites.l0] at h, fun _ _ _ _ _ _ _ _ r h => by simp [transeptlaw04_FrameWrites.j2] at h⟩
  | k + 1 => by
    obtain ⟨ih0, ih1, ih2⟩ := transeptlaw04_FrameWrites.mono_l k
    refine ⟨?_, ?_, ?_⟩
    · intro y0 y1 y2 y3 y4 y5
      unfold transeptlaw04_FrameWrites.j0
      repeat' first
      | (with_reducible exact ih0 _ _ _ _ _ _)
      | (with_reducible exact ih1 _ _ _ _ _ _)
      | (with_reducible exact ih2 _ _ _ _ _ _ _ _)
      | (with_reducible exact transeptlaw04_few.mono _ _)
      | (with_reducible exact transeptlaw04_same.mono _ _ _)
      | (with_reducible exact transeptref04_Four.mono _ _)
      | (with_reducible exact transeptref04_Frame.mono _ _)
      | (with_reducible exact transeptref04_Join.mono _ _)
      | (with_reducible exact LeO.refl _)
      | (with_reducible exact LeO.none _)
      | (with_reducible refine LeO.ite ?_ ?_)
      | (with_reducible refine LeO.bind ?_ (fun _ => ?_))
      | exact ih0 _ _ _ _ _ _
      | exact ih1 _ _ _ _ _ _
      | exact ih2 _ _ _ _ _ _ _ _
      | exact transeptlaw04_few.mono _ _
      | exact transeptlaw04_same.mono _ _ _
      | exact transeptref04_Four.mono _ _
      | exact transeptref04_Frame.mono _ _
      | exact transeptref04_Join.mono _ _
      | exact LeO.none _
      | refine LeO.ite ?_ ?_
      | refine LeO.bind ?_ (fun _ => ?_)
    · intro y0 y1 y2 y3 y4 y5
      unfold transeptlaw04_FrameWrites.l0
      repeat' first
      | (with_reducible exact ih0 _ _ _ _ _ _)
      | (with_reducible exact ih1 _ _ _ _ _ _)
      | (with_reducible exact ih2 _ _ _ _ _ _ _ _)
      | (with_reducible exact transeptlaw04_few.mono _ _)
      | (with_reducible exact transeptlaw04_same.mono _ _ _)
      | (with_reducible exact transeptref04_Four.mono _ _)
      | (with_reducible exact transeptref04_Frame.mono _ _)
      | (with_reducible exact transeptref04_Join.mono _ _)
      | (with_reducible exact LeO.refl _)
      | (with_reducible exact LeO.none _)
      | (with_reducible refine LeO.ite ?_ ?_)
      | (with_reducible refine LeO.bind ?_ (fun _ => ?_))
      | exact ih0 _ _ _ _ _ _
      | exact ih1 _ _ _ _ _ _
      | exact ih2 _ _ _ _ _ _ _ _
      | exact transeptlaw04_few.mono _ _
      | exact transeptlaw04_same.mono _ _ _
      | exact transeptref04_Four.mono _ _
      | exact transeptref04_Frame.mono _ _
      | exact transeptref04_Join.mono _ _
      | exact LeO.none _
      | refine LeO.ite ?_ ?_
      | refine LeO.bind ?_ (fun _ => ?_)
    · intro y0 y1 y2 y3 y4 y5 y6 y7
      unfold transeptlaw04_FrameWrites.j2
      repeat' first
      | (with_reducible exact ih0 _ _ _ _ _ _)
      | (with_reducible exact ih1 _ _ _ _ _ _)
      | (with_reducible exact ih2 _ _ _ _ _ _ _ _)
      | (with_reducible exact transeptlaw04_few.mono _ _)
      | (with_reducible exact transeptlaw04_same.mono _ _ _)
      | (with_reducible exact transeptref04_Four.mono _ _)
      | (with_reducible exact transeptref04_Frame.mono _ _)
      | (with_reducible exact transeptref04_Join.mono _ _)
      | (with_reducible exact LeO.refl _)
      | (with_reducible exact LeO.none _)
      | (with_reducible refine LeO.ite ?_ ?_)
      | (with_reducible refine LeO.bind ?_ (fun _ => ?_))
      | exact ih0 _ _ _ _ _ _
      | exact ih1 _ _ _ _ _ _
      | exact ih2 _ _ _ _ _ _ _ _
      | exact transeptlaw04_few.mono _ _
      | exact transeptlaw04_same.mono _ _ _
      | exact transeptref04_Four.mono _ _
      | exact transeptref04_Frame.mono _ _
      | exact transeptref04_Join.mono _ _
      | exact LeO.none _
      | refine LeO.ite ?_ ?_
      | refine LeO.bind ?_ (fun _ => ?_)
theorem transeptlaw04_FrameWrites.mono : ∀ a0 a1 k, LeO (transeptlaw04_FrameWrites.f k a0 a1) (transeptlaw04_FrameWrites.f (k + 1) a0 a1) := by
  intro a0 a1 k
  obtain ⟨ih0, ih1, ih2⟩ := transeptlaw04_FrameWrites.mono_l k
  unfold transeptlaw04_FrameWrites.f
  repeat' first
      | (with_reducible exact ih0 _ _ _ _ _ _)
      | (with_reducible exact ih1 _ _ _ _ _ _)
      | (with_reducible exact ih2 _ _ _ _ _ _ _ _)
      | (with_reducible exact transeptlaw04_few.mono _ _)
      | (with_reducible exact transeptlaw04_same.mono _ _ _)
      | (with_reducible exact transeptref04_Four.mono _ _)
      | (with_reducible exact transeptref04_Frame.mono _ _)
      | (with_reducible exact transeptref04_Join.mono _ _)
      | (with_reducible exact LeO.refl _)
      | (with_reducible exact LeO.none _)
      | (with_reducible refine LeO.ite ?_ ?_)
      | (with_reducible refine LeO.bind ?_ (fun _ => ?_))
      | exact ih0 _ _ _ _ _ _
      | exact ih1 _ _ _ _ _ _
      | exact ih2 _ _ _ _ _ _ _ _
      | exact transeptlaw04_few.mono _ _
      | exact transeptlaw04_same.mono _ _ _
      | exact transeptref04_Four.mono _ _
      | exact transeptref04_Frame.mono _ _
      | exact transeptref04_Join.mono _ _
      | exact LeO.none _
      | refine LeO.ite ?_ ?_
      | refine LeO.bind ?_ (fun _ => ?_)
def transeptlaw04_FrameWrites.T11 : Bool × List (List Nat × List Nat) := (true, [([], []), ([0], [0]), ([1], [1]), ([2], [2]), ([2], [2]), ([2], [2]), ([4, 5, 2], [2, 4, 5]), ([6, 2], [2, 6]), ([7, 2], [2, 7]), ([3, 8, 2], [2, 3, 8]), ([9, 2], [2, 9]), ([2], [2]), ([11, 2], [2, 11]), ([10, 12, 2], [2, 10, 12]), ([2, 13], [2, 13]), ([14, 2], [14]), ([15], [15]), ([15], [15]), ([15], [15]), ([15], [15]), ([15], [15]), ([19, 20, 15], [15, 19, 20]), ([21, 15], [15, 21]), ([22, 15], [15, 22]), ([18, 23, 15], [15, 18, 23]), ([16, 17, 24, 15], [15, 16, 17, 24]), ([15], [15]), ([15], [15]), ([26, 27, 15], [15, 26, 27]), ([28, 15], [15, 28]), ([25, 29, 15], [15, 25, 29]), ([15, 30], [15, 30]), ([31, 15], [31]), ([32], [32]), ([32], [32]), ([32], [32]), ([32], [32]), ([35, 36, 32], [32, 35, 36]), ([37, 32], [32, 37]), ([38, 32], [32, 38]), ([34, 39, 32], [32, 34, 39]), ([32], [32]), ([32], [32]), ([32], [32]), ([42, 43, 32], [32, 42, 43]), ([44, 32], [32, 44]), ([45, 32], [32, 45]), ([41, 46, 32], [32, 41, 46]), ([47, 32], [32, 47]), ([33, 40, 48, 32], [32, 33, 40, 48]), ([32], [32]), ([32], [32]), ([50, 51, 32], [32, 50, 51]), ([52, 32], [32, 52]), ([53, 32, 32], [32, 53]), ([49, 54, 32], [32, 49, 54]), ([32, 55], [32, 55])])
def transeptlaw04_FrameWrites.B11 : List Nat := [0, 1, 3, 7, 7, 7, 55, 119, 247, 511, 1023, 7, 2055, 8191, 16383, 32767, 65535, 65535, 65535, 65535, 65535, 1638399, 3735551, 7929855, 16580607, 33554431, 65535, 65535, 201392127, 469827583, 1073741823, 2147483647, 4294967295, 8589934591, 8589934591, 8589934591, 8589934591, 111669149695, 249108103167, 523986010111, 1090921693183, 8589934591, 8589934591, 8589934591, 13202729467903, 30794915512319, 65979287601151, 138547055034367, 279284543389695, 562949953421311, 8589934591, 8589934591, 3377708310462463, 7881307937832959, 16888507192573951, 36028797018963967, 72057594037927935]
theorem transeptlaw04_FrameWrites.tab11 : rtab .any (opsOf Tryd.f4 11) = transeptlaw04_FrameWrites.T11 := by kernel_rfl
theorem transeptlaw04_FrameWrites.bits11 : waitsOk transeptlaw04_FrameWrites.T11.2 transeptlaw04_FrameWrites.B11 = true := by kernel_rfl
def transeptlaw04_FrameWrites.T13 : Bool × List (List Nat × List Nat) := (true, [([], []), ([0], [0]), ([1], [1]), ([2], [2]), ([2, 2], [2]), ([4, 2], [2, 4]), ([2], [2]), ([6, 2], [2, 6]), ([7, 2], [2, 7]), ([8, 4, 2], [2, 8]), ([9, 2], [2, 9]), ([5, 10, 2], [2, 5, 10]), ([2], [2]), ([12, 2], [2, 12]), ([13, 2], [2, 13]), ([14, 2], [2, 14]), ([11, 15, 2], [2, 11, 15]), ([16, 2], [2, 16]), ([3, 17, 2], [2, 3, 17]), ([2, 18], [2, 18])])
def transeptlaw04_FrameWrites.B13 : List Nat := [0, 1, 3, 7, 7, 23, 7, 71, 199, 471, 983, 2039, 7, 4103, 12295, 28679, 65527, 131063, 262143, 524287]
theorem transeptlaw04_FrameWrites.tab13 : rtab .any (opsOf Tryd.f4 13) = transeptlaw04_FrameWrites.T13 := by kernel_rfl
theorem transeptlaw04_FrameWrites.bits13 : waitsOk transeptlaw04_FrameWrites.T13.2 transeptlaw04_FrameWrites.B13 = true := by kernel_rfl
end Go.Proofs.YtojagnoobaleaaaDoor.Xp
