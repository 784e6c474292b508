-- Written by a program of this session (wip/tools/xprint.py), in the manner of the print of the kit.
import Derived.Test.YthbhggpajgokcaaXax0
import Derived.Test.YthbhggpajgokcaaXax3
import Derived.Test.YthbhggpajgokcaaXax4
import Derived.Test.YthbhggpajgokcaaStr
import Derived.Test.YthbhggpajgokcaaGet
namespace Go.Proofs.Ythbhggpajgokcaa.Xa
open Go.RowKit Go.Proofs.Ythbhggpajgokcaa.Ext Go.Proofs.YthbhggpajgokcaaW.PrintWords Go.Proofs.YthbhggpajgokcaaW.PrintLast Go.Proofs.YthbhggpajgokcaaW.PrintMore
attribute [local go_sem] max2_int min2_int max_two min_two max_three min_three max_four min_four   -- for this text's walks alone
set_option linter.unusedVariables false
set_option linter.unusedSimpArgs false

/-! ### transeptlaw01_NumberOne: function 4 -/
def transeptlaw01_NumberOne.f (k : Nat) (l0 : List Int) (l1 : List Int) : Option (Bool) := (transeptlaw01_shown.f k).bind fun t162 => (if 0 ≤ (mn (l0.length : Int) 300) then (if (mn (l0.length : Int) 300) ≤ (l0.length : Int) then ((number_Get.f (l0.take ((mn (l0.length : Int) 300) : Int).toNat)).bind fun bt164 => (if bt164.2.2 = 0 then (if t162 = true then (if bt164.2.1 ≥ 1 then (if bt164.2.1 ≤ ((l0.take ((mn (l0.length : Int) 300) : Int).toNat).length : Int) then ((number_Put.f k ([] : List Int) bt164.1).bind fun t167 => (if 0 ≤ bt164.2.1 then (some ((strOfNums t167).toList == (strOfNums ((l0.take ((mn (l0.length : Int) 300) : Int).toNat).take (bt164.2.1 : Int).toNat)).toList)) else (none))) else (some false)) else (some false)) else (some false)) else (if bt164.2.2 = 2 then (if t162 = true then (if bt164.1 = 0 then (some (bt164.2.1 == ((l0.take ((mn (l0.length : Int) 300) : Int).toNat).length : Int))) else (some false)) else (some false)) else (if bt164.2.1 ≥ ((l0.take ((mn (l0.length : Int) 300) : Int).toNat).length : Int) then (some false) else ((some (([] : List Int) : List Int)).bind fun y171 => (if 0 ≤ (wrap64 (bt164.2.1 + 1)) then (if (wrap64 (bt164.2.1 + 1)) ≤ ((l0.take ((mn (l0.length : Int) 300) : Int).toNat).length : Int) then (if y171.length + ((l0.take ((mn (l0.length : Int) 300) : Int).toNat).take ((wrap64 (bt164.2.1 + 1)) : Int).toNat).length < 140737488355328 then ((some (y171 ++ ((l0.take ((mn (l0.length : Int) 300) : Int).toNat).take ((wrap64 (bt164.2.1 + 1)) : Int).toNat) : List Int)).bind fun y175 => (if 0 ≤ (mn (l1.length : Int) 50) then (if (mn (l1.length : Int) 50) ≤ (l1.length : Int) then (if y175.length + (l1.take ((mn (l1.length : Int) 50) : Int).toNat).length < 140737488355328 then ((number_Get.f (y175 ++ (l1.take ((mn (l1.length : Int) 50) : Int).toNat))).bind fun bt182 => (if 0 ≤ bt164.2.1 then (if bt164.2.1 ≤ ((l0.take ((mn (l0.length : Int) 300) : Int).toNat).length : Int) then ((number_Get.f ((l0.take ((mn (l0.length : Int) 300) : Int).toNat).take (bt164.2.1 : Int).toNat)).bind fun bt186 => (if t162 = true then (if bt164.2.2 = 3 then (if bt164.1 = 0 then (if bt182.2.1 = bt164.2.1 then (if bt182.2.2 = 3 then (some (bt186.2.2 == 2)) else (some false)) else (some false)) else (some false)) else (some false)) else (some false))) else (none)) else (none))) else (none)) else (none)) else (none))) else (none)) else (none)) else (none))))))) else (none)) else (none))
theorem transeptlaw01_NumberOne.mono : ∀ a0 a1 k, LeO (transeptlaw01_NumberOne.f k a0 a1) (transeptlaw01_NumberOne.f (k + 1) a0 a1) := by
  intro a0 a1 k
  unfold transeptlaw01_NumberOne.f
  repeat' first
      | (with_reducible exact number_Put.mono _ _ _)
      | (with_reducible exact transeptlaw01_shown.mono _)
      | (with_reducible exact LeO.refl _)
      | (with_reducible exact LeO.none _)
      | (with_reducible refine LeO.ite ?_ ?_)
      | (with_reducible refine LeO.bind ?_ (fun _ => ?_))
      | exact number_Put.mono _ _ _
      | exact transeptlaw01_shown.mono _
      | exact LeO.none _
      | refine LeO.ite ?_ ?_
      | refine LeO.bind ?_ (fun _ => ?_)
def transeptlaw01_NumberOne.T5 : Bool × List (List Nat × List Nat) := (true, [([], []), ([0], [0]), ([1], [1]), ([2, 1], [1, 2]), ([1, 3], [1, 3]), ([4, 1], [4]), ([5], [5]), ([5], [5]), ([7, 5], [5, 7]), ([6, 8, 5], [5, 6, 8]), ([5, 9], [5, 9]), ([10, 5], [10]), ([11], [11]), ([12, 11, 11], [11, 12]), ([13, 11], [11, 13]), ([11], [11]), ([11], [11]), ([15, 16, 11], [11, 15, 16]), ([17, 11], [11, 17]), ([14, 18, 11], [11, 14, 18]), ([11, 19], [11, 19]), ([20, 13, 0, 1, 2, 3, 4, 5, 6, 7, 8, 9, 10, 11, 12, 13, 14, 15, 16, 17, 18, 19, 20], [20])])
def transeptlaw01_NumberOne.B5 : List Nat := [0, 1, 3, 7, 15, 31, 63, 63, 191, 511, 1023, 2047, 4095, 8191, 16383, 4095, 4095, 102399, 233471, 524287, 1048575, 2097151]
theorem transeptlaw01_NumberOne.tab5 : rtab .any (opsOf Try.f4 5) = transeptlaw01_NumberOne.T5 := by kernel_rfl
theorem transeptlaw01_NumberOne.bits5 : waitsOk transeptlaw01_NumberOne.T5.2 transeptlaw01_NumberOne.B5 = true := by kernel_rfl
def transeptlaw01_NumberOne.T10 : Bool × List (List Nat × List Nat) := (true, [([], []), ([], []), ([], []), ([2], [2]), ([1, 3], [1, 3]), ([0, 4], [0, 4]), ([], []), ([], []), ([7], [7]), ([8], [8]), ([6, 9], [6, 9]), ([5, 10, 5], [5, 10]), ([11, 11], [11]), ([12], [12]), ([13], [13]), ([13], [13]), ([13], [13]), ([14, 12, 0, 1, 2, 3, 4, 5, 6, 7, 8, 9, 10, 11, 12, 13, 14], [14]), ([15, 17, 0, 1, 2, 3, 4, 5, 6, 7, 8, 9, 10, 11, 12, 13, 14, 15, 17], [15]), ([16, 18, 0, 1, 2, 3, 4, 5, 6, 7, 8, 9, 10, 11, 12, 13, 14, 15, 16, 17, 18], [16])])
def transeptlaw01_NumberOne.B10 : List Nat := [0, 0, 0, 4, 14, 31, 0, 0, 128, 384, 960, 2047, 4095, 8191, 16383, 16383, 16383, 32767, 196607, 524287]
theorem transeptlaw01_NumberOne.tab10 : rtab .any (opsOf Try.f4 10) = transeptlaw01_NumberOne.T10 := by kernel_rfl
theorem transeptlaw01_NumberOne.bits10 : waitsOk transeptlaw01_NumberOne.T10.2 transeptlaw01_NumberOne.B10 = true := by kernel_rfl
set_option maxHeartbeats 8000000 in
set_option maxRecDepth 100000 in
theorem transeptlaw01_NumberOne.calls (k : Nat) (A0 : Option Addr) (c0 : Nat) (l0 : List Int) (A1 : Option Addr) (c1 : Nat) (l1 : List Int) (r : Bool) (w : World) (hr0 : Kd.C (Kd.int .u8) w A0 l0.length l0) (hc0 : l0.length ≤ c0) (hr1 : Kd.C (Kd.int .u8) w A1 l1.length l1) (hc1 : l1.length ≤ c1) (hT_ : r = true) (h : transeptlaw01_NumberOne.f k l0 l1 = some r) :
    Calls Try.prog 4 #[.slice A0 l0.length c0, .slice A1 l1.length c1] w fun e w' => e = .returned (.bool r) ∧ Below w.heap.size w w' := by
  have HT := Aside0.mk hT_
  clear hT_
  have HR0 := Aside0.mk hr0
  have HC0 := Aside0.mk hc0
  clear hr0 hc0
  have HR1 := Aside0.mk hr1
  have HC1 := Aside0.mk hc1
  clear hr1 hc1
  have HB := Aside0.mk (Below.refl w.heap.size w)
  have H : ((transeptlaw01_shown.f k).bind fun t162 => (if 0 ≤ (mn (l0.length : Int) 300) then (if (mn (l0.length : Int) 300) ≤ (l0.length : Int) then ((number_Get.f (l0.take ((mn (l0.length : Int) 300) : Int).toNat)).bind fun bt164 => (if bt164.2.2 = 0 then (if t162 = true then (if bt164.2.1 ≥ 1 then (if bt164.2.1 ≤ ((l0.take ((mn (l0.length : Int) 300) : Int).toNat).length : Int) then ((number_Put.f k ([] : List Int) bt164.1).bind fun t167 => (if 0 ≤ bt164.2.1 then (some ((strOfNums t167).toList == (strOfNums ((l0.take ((mn (l0.length : Int) 300) : Int).toNat).take (bt164.2.1 : Int).toNat)).toList)) else (none))) else (some false)) else (some false)) else (some false)) else (if bt164.2.2 = 2 then (if t162 = true then (if bt164.1 = 0 then (some (bt164.2.1 == ((l0.take ((mn (l0.length : Int) 300) : Int).toNat).length : Int))) else (some false)) else (some false)) else (if bt164.2.1 ≥ ((l0.take ((mn (l0.length : Int) 300) : Int).toNat).length : Int) then (some false) else ((some (([] : List Int) : List Int)).bind fun y171 => (if 0 ≤ (wrap64 (bt164.2.1 + 1)) then (if (wrap64 (bt164.2.1 + 1)) ≤ ((l0.take ((mn (l0.length : Int) 300) : Int).toNat).length : Int) then (if y171.length + ((l0.take ((mn (l0.length : Int) 300) : Int).toNat).take ((wrap64 (bt164.2.1 + 1)) : Int).toNat).length < 140737488355328 then ((some (y171 ++ ((l0.take ((mn (l0.length : Int) 300) : Int).toNat).take ((wrap64 (bt164.2.1 + 1)) : Int).toNat) : List Int)).bind fun y175 => (if 0 ≤ (mn (l1.length : Int) 50) then (if (mn (l1.length : Int) 50) ≤ (l1.length : Int) then (if y175.length + (l1.take ((mn (l1.length : Int) 50) : Int).toNat).length < 140737488355328 then ((number_Get.f (y175 ++ (l1.take ((mn (l1.length : Int) 50) : Int).toNat))).bind fun bt182 => (if 0 ≤ bt164.2.1 then (if bt164.2.1 ≤ ((l0.take ((mn (l0.length : Int) 300) : Int).toNat).length : Int) then ((number_Get.f ((l0.take ((mn (l0.length : Int) 300) : Int).toNat).take (bt164.2.1 : Int).toNat)).bind fun bt186 => (if t162 = true then (if bt164.2.2 = 3 then (if bt164.1 = 0 then (if bt182.2.1 = bt164.2.1 then (if bt182.2.2 = 3 then (some (bt186.2.2 == 2)) else (some false)) else (some false)) else (some false)) else (some false)) else (some false))) else (none)) else (none))) else (none)) else (none)) else (none))) else (none)) else (none)) else (none))))))) else (none)) else (none))) = some r := h
  clear h
  replace H := Option.bind_eq_some_iff.mp H
  obtain ⟨t162, A30, H⟩ := H
  replace H : (if 0 ≤ (mn (l0.length : Int) 300) then (if (mn (l0.length : Int) 300) ≤ (l0.length : Int) then ((number_Get.f (l0.take ((mn (l0.length : Int) 300) : Int).toNat)).bind fun bt164 => (if bt164.2.2 = 0 then (if t162 = true then (if bt164.2.1 ≥ 1 then (if bt164.2.1 ≤ ((l0.take ((mn (l0.length : Int) 300) : Int).toNat).length : Int) then ((number_Put.f k ([] : List Int) bt164.1).bind fun t167 => (if 0 ≤ bt164.2.1 then (some ((strOfNums t167).toList == (strOfNums ((l0.take ((mn (l0.length : Int) 300) : Int).toNat).take (bt164.2.1 : Int).toNat)).toList)) else (none))) else (some false)) else (some false)) else (some false)) else (if bt164.2.2 = 2 then (if t162 = true then (if bt164.1 = 0 then (some (bt164.2.1 == ((l0.take ((mn (l0.length : Int) 300) : Int).toNat).length : Int))) else (some false)) else (some false)) else (if bt164.2.1 ≥ ((l0.take ((mn (l0.length : Int) 300) : Int).toNat).length : Int) then (some false) else ((some (([] : List Int) : List Int)).bind fun y171 => (if 0 ≤ (wrap64 (bt164.2.1 + 1)) then (if (wrap64 (bt164.2.1 + 1)) ≤ ((l0.take ((mn (l0.length : Int) 300) : Int).toNat).length : Int) then (if y171.length + ((l0.take ((mn (l0.length : Int) 300) : Int).toNat).take ((wrap64 (bt164.2.1 + 1)) : Int).toNat).length < 140737488355328 then ((some (y171 ++ ((l0.take ((mn (l0.length : Int) 300) : Int).toNat).take ((wrap64 (bt164.2.1 + 1)) : Int).toNat) : List Int)).bind fun y175 => (if 0 ≤ (mn (l1.length : Int) 50) then (if (mn (l1.length : Int) 50) ≤ (l1.length : Int) then (if y175.length + (l1.take ((mn (l1.length : Int) 50) : Int).toNat).length < 140737488355328 then ((number_Get.f (y175 ++ (l1.take ((mn (l1.length : Int) 50) : Int).toNat))).bind fun bt182 => (if 0 ≤ bt164.2.1 then (if bt164.2.1 ≤ ((l0.take ((mn (l0.length : Int) 300) : Int).toNat).length : Int) then ((number_Get.f ((l0.take ((mn (l0.length : Int) 300) : Int).toNat).take (bt164.2.1 : Int).toNat)).bind fun bt186 => (if t162 = true then (if bt164.2.2 = 3 then (if bt164.1 = 0 then (if bt182.2.1 = bt164.2.1 then (if bt182.2.2 = 3 then (some (bt186.2.2 == 2)) else (some false)) else (some false)) else (some false)) else (some false)) else (some false))) else (none)) else (none))) else (none)) else (none)) else (none))) else (none)) else (none)) else (none))))))) else (none)) else (none)) = some r := H
  have A3 := Aside0.mk A30
  clear A30
  obtain ⟨ji4, hji4⟩ : ∃ j_ : Int, (mn (l0.length : Int) 300) = j_ := ⟨_, rfl⟩
  replace H : (if 0 ≤ (ji4) then (if (ji4) ≤ (l0.length : Int) then ((number_Get.f (l0.take ((ji4) : Int).toNat)).bind fun bt164 => (if bt164.2.2 = 0 then (if t162 = true then (if bt164.2.1 ≥ 1 then (if bt164.2.1 ≤ ((l0.take ((ji4) : Int).toNat).length : Int) then ((number_Put.f k ([] : List Int) bt164.1).bind fun t167 => (if 0 ≤ bt164.2.1 then (some ((strOfNums t167).toList == (strOfNums ((l0.take ((ji4) : Int).toNat).take (bt164.2.1 : Int).toNat)).toList)) else (none))) else (some false)) else (some false)) else (some false)) else (if bt164.2.2 = 2 then (if t162 = true then (if bt164.1 = 0 then (some (bt164.2.1 == ((l0.take ((ji4) : Int).toNat).length : Int))) else (some false)) else (some false)) else (if bt164.2.1 ≥ ((l0.take ((ji4) : Int).toNat).length : Int) then (some false) else ((some (([] : List Int) : List Int)).bind fun y171 => (if 0 ≤ (wrap64 (bt164.2.1 + 1)) then (if (wrap64 (bt164.2.1 + 1)) ≤ ((l0.take ((ji4) : Int).toNat).length : Int) then (if y171.length + ((l0.take ((ji4) : Int).toNat).take ((wrap64 (bt164.2.1 + 1)) : Int).toNat).length < 140737488355328 then ((some (y171 ++ ((l0.take ((ji4) : Int).toNat).take ((wrap64 (bt164.2.1 + 1)) : Int).toNat) : List Int)).bind fun y175 => (if 0 ≤ (mn (l1.length : Int) 50) then (if (mn (l1.length : Int) 50) ≤ (l1.length : Int) then (if y175.length + (l1.take ((mn (l1.length : Int) 50) : Int).toNat).length < 140737488355328 then ((number_Get.f (y175 ++ (l1.take ((mn (l1.length : Int) 50) : Int).toNat))).bind fun bt182 => (if 0 ≤ bt164.2.1 then (if bt164.2.1 ≤ ((l0.take ((ji4) : Int).toNat).length : Int) then ((number_Get.f ((l0.take ((ji4) : Int).toNat).take (bt164.2.1 : Int).toNat)).bind fun bt186 => (if t162 = true then (if bt164.2.2 = 3 then (if bt164.1 = 0 then (if bt182.2.1 = bt164.2.1 then (if bt182.2.2 = 3 then (some (bt186.2.2 == 2)) else (some false)) else (some false)) else (some false)) else (some false)) else (some false))) else (none)) else (none))) else (none)) else (none)) else (none))) else (none)) else (none)) else (none))))))) else (none)) else (none)) = some r := by first | (rw [hji4] at H; exact H) | (simp only [hji4] at H ⊢; exact H)
  (try rw [hji4] at A3)
  (try (have hji4h : ji4 ≤ 300 := by (rw [← hji4]; unfold mn; (repeat' split) <;> omega)))
  (try (have hji4g : ji4 ≤ 64 := by omega))
  (try (have hji4l : 0 ≤ ji4 := by (rw [← hji4]; unfold mn; (repeat' split) <;> omega)))
  (try (have hji4m : 0 ≤ ji4 := by omega))
  have hji4_ : (if 300 < (l0.length : Int) then 300 else (l0.length : Int)) = ji4 := hji4
  by_cases c5 : 0 ≤ (ji4)
  · rw [if_pos c5] at H
    have c5b0 := eq_true c5
    have c5b1 : decide (0 ≤ (ji4)) = true := decide_eq_true c5
    clear c5
    by_cases c6 : (ji4) ≤ (l0.length : Int)
    · rw [if_pos c6] at H
      have c6b0 := eq_true c6
      have c6b1 : decide ((ji4) ≤ (l0.length : Int)) = true := decide_eq_true c6
      clear c6
      replace H := Option.bind_eq_some_iff.mp H
      obtain ⟨⟨t164, t165, t166⟩, A70, H⟩ := H
      replace H : (if t166 = 0 then (if t162 = true then (if t165 ≥ 1 then (if t165 ≤ ((l0.take ((ji4) : Int).toNat).length : Int) then ((number_Put.f k ([] : List Int) t164).bind fun t167 => (if 0 ≤ t165 then (some ((strOfNums t167).toList == (strOfNums ((l0.take ((ji4) : Int).toNat).take (t165 : Int).toNat)).toList)) else (none))) else (some false)) else (some false)) else (some false)) else (if t166 = 2 then (if t162 = true then (if t164 = 0 then (some (t165 == ((l0.take ((ji4) : Int).toNat).length : Int))) else (some false)) else (some false)) else (if t165 ≥ ((l0.take ((ji4) : Int).toNat).length : Int) then (some false) else ((some (([] : List Int) : List Int)).bind fun y171 => (if 0 ≤ (wrap64 (t165 + 1)) then (if (wrap64 (t165 + 1)) ≤ ((l0.take ((ji4) : Int).toNat).length : Int) then (if y171.length + ((l0.take ((ji4) : Int).toNat).take ((wrap64 (t165 + 1)) : Int).toNat).length < 140737488355328 then ((some (y171 ++ ((l0.take ((ji4) : Int).toNat).take ((wrap64 (t165 + 1)) : Int).toNat) : List Int)).bind fun y175 => (if 0 ≤ (mn (l1.length : Int) 50) then (if (mn (l1.length : Int) 50) ≤ (l1.length : Int) then (if y175.length + (l1.take ((mn (l1.length : Int) 50) : Int).toNat).length < 140737488355328 then ((number_Get.f (y175 ++ (l1.take ((mn (l1.length : Int) 50) : Int).toNat))).bind fun bt182 => (if 0 ≤ t165 then (if t165 ≤ ((l0.take ((ji4) : Int).toNat).length : Int) then ((number_Get.f ((l0.take ((ji4) : Int).toNat).take (t165 : Int).toNat)).bind fun bt186 => (if t162 = true then (if t166 = 3 then (if t164 = 0 then (if bt182.2.1 = t165 then (if bt182.2.2 = 3 then (some (bt186.2.2 == 2)) else (some false)) else (some false)) else (some false)) else (some false)) else (some false))) else (none)) else (none))) else (none)) else (none)) else (none))) else (none)) else (none)) else (none)))))) = some r := H
      have A7 := Aside0.mk A70
      clear A70
      by_cases c8 : t166 = 0
      · rw [if_pos c8] at H
        have c8b0 : (t166 == 0) = true := beq_iff_eq.mpr c8
        have c8b1 : (t166 != 0) = false := bne_eq_false_iff_eq.mpr c8
        clear c8
        by_cases c9 : t162 = true
        · subst c9
          have H1 : (if t165 ≥ 1 then (if t165 ≤ ((l0.take ((ji4) : Int).toNat).length : Int) then ((number_Put.f k ([] : List Int) t164).bind fun t167 => (if 0 ≤ t165 then (some ((strOfNums t167).toList == (strOfNums ((l0.take ((ji4) : Int).toNat).take (t165 : Int).toNat)).toList)) else (none))) else (some false)) else (some false)) = some r := by rw [if_pos rfl] at H; exact H
          clear H
          have H := H1
          clear H1
          by_cases c10 : t165 ≥ 1
          · rw [if_pos c10] at H
            have c10b0 : decide (1 ≤ t165) = true := decide_eq_true c10
            clear c10
            by_cases c11 : t165 ≤ ((l0.take ((ji4) : Int).toNat).length : Int)
            · rw [if_pos c11] at H
              have c11b0 : decide (t165 ≤ ((l0.take ((ji4) : Int).toNat).length : Int)) = true := decide_eq_true c11
              try have c11b0x : decide (t165 ≤ (max ji4 0)) = true := by have z_ := c11b0; rw [List.length_take, Nat.min_eq_left (by first | omega | (simp only [decide_eq_true_eq] at *; omega)), show ((ji4.toNat : Nat) : Int) = max ji4 0 by omega] at z_; exact z_
              clear c11
              replace H := Option.bind_eq_some_iff.mp H
              obtain ⟨t167, A120, H⟩ := H
              replace H : (if 0 ≤ t165 then (some ((strOfNums t167).toList == (strOfNums ((l0.take ((ji4) : Int).toNat).take (t165 : Int).toNat)).toList)) else (none)) = some r := H
              have A12 := Aside0.mk A120
              clear A120
              by_cases c13 : 0 ≤ t165
              · rw [if_pos c13] at H
                have c13b0 := eq_true c13
                have c13b1 : decide (0 ≤ t165) = true := decide_eq_true c13
                clear c13
                have c14b0 := eq_true (of_decide_eq_true (by first | (with_reducible assumption) | assumption) : t165 ≤ ((l0.take ((ji4) : Int).toNat).length : Int))
                obtain rfl := Option.some.inj H
                go_enter Try.func4, Try.ntmps4
                try go_wp2_with (first | ((with_reducible refine gate_callee (f := 10) rfl ?_); refine goesL_ (some 15) rfl rfl Try.func10 (by kernel_rfl) rfl #[] rfl (by (try simp only [List.map_toArray, List.map_cons, List.map_nil]); first | done | rfl | (simp only [List.length_drop, List.length_take]; rfl)) ?_; (with_reducible refine (transeptlaw01_shown.calls k  true _ A3.out).mono ?_); rintro e w15 ⟨rfl, hb⟩; refine ⟨_, rfl, ?_⟩; have n0_ := Aside0.mk (below_step (by repeat (first | (with_reducible first | exact HB.out | apply below_alloc | apply pw_below_drewN | apply below_drew1) | exact HB.out)) hb); clear HB; have HB := n0_; clear n0_; (try clear hb); (try clear hb2); (try clear hk); (try clear hi); obtain ⟨i016, hi016, _, hsz16, _⟩ := info_parts info5; obtain ⟨hcut16, hA16, hC16⟩ := print_take_of (P := Try.prog) (Value.int .u8) 0 22 5 .i64 Try.underlying22 hi016 hsz16 A0 c0 l0 (ji4) (of_decide_eq_true (by first | (with_reducible assumption) | assumption)) (of_decide_eq_true (by first | (with_reducible assumption) | assumption)) HC0.out; have hl16 := Aside0.mk (show (l0.take ((ji4) : Int).toNat).length = ((ji4) : Int).toNat from by have q0_ : 0 ≤ (ji4) := (of_decide_eq_true (by first | (with_reducible assumption) | assumption)); have q1_ : (ji4) ≤ (l0.length : Int) := (of_decide_eq_true (by first | (with_reducible assumption) | assumption)); (try simp only [List.length_drop, List.length_take] at q0_ q1_); (try simp only [List.length_drop, List.length_take] at q2_); simp only [List.length_drop, List.length_take]; first | done | omega); (try rw [hl16.out] at hcut16); have HR163 := Aside0.mk (Kd.C_of_reads (h1 := fun _ => rfl) (hA16 _ (Kd.reads_of_C HR0.out))); have HC163 := Aside0.mk hC16; clear hA16 hC16 hi016 hsz16) | ((with_reducible refine gate_callee (f := 11) rfl ?_); refine goesL_ (some 23) rfl rfl Try.func11 (by kernel_rfl) rfl #[.slice A0 (l0.take ((ji4) : Int).toNat).length c0] rfl (by (try simp only [List.map_toArray, List.map_cons, List.map_nil]); first | done | (rw [show (l0.take ((ji4) : Int).toNat).length = (ji4).toNat from (by rw [List.length_take]; have h_ : ((ji4) : Int) ≤ (l0.length : Int) := of_decide_eq_true (by first | (with_reducible assumption) | assumption); omega)] <;> rfl) | (simp only [hji4]; rfl) | rfl | (simp only [List.length_drop, List.length_take]; rfl)) ?_; (with_reducible refine (number_Get.calls _ _ (l0.take ((ji4) : Int).toNat) t164 t165 t166 _ ?side1 ?side2 A7.out).mono ?_); (case side1 => repeat (first | exact (Kd.C_below HR163.out HB.out) | (with_reducible refine Kd.C_alloc ?_ _) | (with_reducible refine Kd.C_drewN ?_ _) | (with_reducible refine Kd.C_drew ?_))); (case side2 => exact HC163.out); rintro e w17 ⟨rfl, hb⟩; refine ⟨_, rfl, ?_⟩; have n0_ := Aside0.mk (below_step (by repeat (first | (with_reducible first | exact HB.out | apply below_alloc | apply pw_below_drewN | apply below_drew1) | exact HB.out)) hb); clear HB; have HB := n0_; clear n0_; (try clear hb); (try clear hb2); (try clear hk); (try clear hi)))
                have n0_ := Aside0.mk (below_drew1 HB.out)
                clear HB
                have HB := n0_
                clear n0_
                obtain ⟨i019, hi019, _, hsz19, _⟩ := info_parts info5
                obtain ⟨hcut19, hA19, hC19⟩ := print_take_of (P := Try.prog) (Value.int .u8) 0 22 5 .i64 Try.underlying22 hi019 hsz19 A0 c0 (l0.take ((ji4) : Int).toNat) t165 (of_decide_eq_true (by first | (with_reducible assumption) | assumption)) (of_decide_eq_true (by first | (with_reducible assumption) | assumption)) HC163.out
                have hl19 := Aside0.mk (show ((l0.take ((ji4) : Int).toNat).take (t165 : Int).toNat).length = (t165 : Int).toNat from by have q0_ : 0 ≤ t165 := (of_decide_eq_true (by first | (with_reducible assumption) | assumption)); have q1_ : t165 ≤ ((l0.take ((ji4) : Int).toNat).length : Int) := (of_decide_eq_true (by first | (with_reducible assumption) | assumption)); have z_ := hl16.out; (try rw [List.length_drop] at z_); (try rw [List.length_take] at z_); (try simp only [List.length_drop, List.length_take] at q0_ q1_); (try simp only [List.length_drop, List.length_take] at q2_); simp only [List.length_drop, List.length_take]; first | done | omega)
                (try rw [hl16.out] at hcut19)
                (try rw [hl19.out] at hcut19)
                have HR170 := Aside0.mk (Kd.C_of_reads (h1 := fun _ => rfl) (hA19 _ (Kd.reads_of_C HR163.out)))
                have HC170 := Aside0.mk hC19
                clear hA19 hC19 hi019 hsz19
                refine start_ (n := 22) (S := fun w' => True) (ds := []) #[false, false, false, false, false, false, false, false, false, false, false, false, false, false, false, false, false, false, false, false, false, false] (by kernel_rfl) rfl rfl trivial (fun hHeld => ?_); refine with_tabW transeptlaw01_NumberOne.tab5 transeptlaw01_NumberOne.bits5 (fun HT_ HW_ => ?_)
                generalize w17.drew = w18 at HB HR170 hHeld ⊢
                refine pure_ (i := 0) (N := some 29) (v := ?_) (a' := ?_) #[true, false, false, false, false, false, false, false, false, false, false, false, false, false, false, false, false, false, false, false, false, false] rfl rfl (any_of HT_.out (by kernel_rfl)) (fun _ _ _ h => h) (Or.inl ⟨by rfl, ?_⟩) ?_ ?_
                rotate_left
                · intro w'
                  go_simp
                  with_reducible rfl
                rotate_left
                · simp only [Act.put, List.setIfInBounds_toArray, List.set_cons_zero, List.set_cons_succ, i64_w, i32_w]
                  rfl
                refine pure_ (i := 1) (N := some 30) (v := ?_) (a' := ?_) #[true, true, false, false, false, false, false, false, false, false, false, false, false, false, false, false, false, false, false, false, false, false] rfl rfl (any_of HT_.out (by kernel_rfl)) (fun _ _ _ h => h) (Or.inl ⟨by rfl, ?_⟩) ?_ ?_
                rotate_left
                · intro w'
                  go_simp
                  with_reducible rfl
                rotate_left
                · simp only [Act.put, List.setIfInBounds_toArray, List.set_cons_zero, List.set_cons_succ, i64_w, i32_w]
                  rfl
                refine pure_ (i := 2) (N := some 31) (v := ?_) (a' := ?_) #[true, true, true, false, false, false, false, false, false, false, false, false, false, false, false, false, false, false, false, false, false, false] rfl rfl (any_of HT_.out (by kernel_rfl)) (fun _ _ _ h => h) (Or.inl ⟨by rfl, ?_⟩) ?_ ?_
                rotate_left
                · intro w'
                  go_simp
                  with_reducible rfl
                rotate_left
                · simp only [Act.put, List.setIfInBounds_toArray, List.set_cons_zero, List.set_cons_succ, i64_w, i32_w]
                  rfl
                refine pure_ (i := 3) (N := some 32) (v := ?_) (a' := ?_) #[true, true, true, true, false, false, false, false, false, false, false, false, false, false, false, false, false, false, false, false, false, false] rfl rfl (any_of HT_.out (by kernel_rfl)) (fun _ _ _ h => h) (Or.inl ⟨by rfl, ?_⟩) ?_ ?_
                rotate_left
                · intro w'
                  go_simp
                  with_reducible rfl
                rotate_left
                · simp only [Act.put, List.setIfInBounds_toArray, List.set_cons_zero, List.set_cons_succ, i64_w, i32_w]
                  rfl
                refine pure_ (i := 4) (N := some 33) (v := ?_) (a' := ?_) #[true, true, true, true, true, false, false, false, false, false, false, false, false, false, false, false, false, false, false, false, false, false] rfl rfl (any_of HT_.out (by kernel_rfl)) (fun _ _ _ h => h) (Or.inl ⟨by rfl, ?_⟩) ?_ ?_
                rotate_left
                · intro w'
                  go_simp
                  with_reducible rfl
                rotate_left
                · simp only [Act.put, List.setIfInBounds_toArray, List.set_cons_zero, List.set_cons_succ, i64_w, i32_w]
                  rfl
                refine pure_ (i := 5) (N := some 34) (v := ?_) (a' := ?_) #[true, true, true, true, true, true, false, false, false, false, false, false, false, false, false, false, false, false, false, false, false, false] rfl rfl (any_of HT_.out (by kernel_rfl)) (fun _ _ _ h => h) (Or.inl ⟨by rfl, ?_⟩) ?_ ?_
                rotate_left
                · intro w'
                  go_simp
                  with_reducible rfl
                rotate_left
                · simp only [Act.put, List.setIfInBounds_toArray, List.set_cons_zero, List.set_cons_succ, i64_w, i32_w]
                  rfl
                refine pure_ (i := 6) (N := some 35) (v := ?_) (a' := ?_) #[true, true, true, true, true, true, true, false, false, false, false, false, false, false, false, false, false, false, false, false, false, false] rfl rfl (any_of HT_.out (by kernel_rfl)) (fun _ _ _ h => h) (Or.inl ⟨by rfl, ?_⟩) ?_ ?_
                rotate_left
                · intro w'
                  go_simp
                  with_reducible rfl
                rotate_left
                · simp only [Act.put, List.setIfInBounds_toArray, List.set_cons_zero, List.set_cons_succ, i64_w, i32_w]
                  rfl
                refine pure_ (i := 7) (N := some 36) (v := ?_) (a' := ?_) #[true, true, true, true, true, true, true, true, false, false, false, false, false, false, false, false, false, false, false, false, false, false] rfl rfl (any_of HT_.out (by kernel_rfl)) (fun _ _ _ h => h) (Or.inl ⟨by rfl, ?_⟩) ?_ ?_
                rotate_left
                · intro w'
                  go_simp
                  with_reducible rfl
                rotate_left
                · simp only [Act.put, List.setIfInBounds_toArray, List.set_cons_zero, List.set_cons_succ, i64_w, i32_w]
                  rfl
                refine pure_ (i := 8) (N := some 37) (v := ?_) (a' := ?_) #[true, true, true, true, true, true, true, true, true, false, false, false, false, false, false, false, false, false, false, false, false, false] rfl rfl (any_of HT_.out (by kernel_rfl)) (fun _ _ _ h => h) (Or.inl ⟨by rfl, ?_⟩) ?_ ?_
                rotate_left
                · intro w'
                  go_simp
                  with_reducible rfl
                rotate_left
                · simp only [Act.put, List.setIfInBounds_toArray, List.set_cons_zero, List.set_cons_succ, i64_w, i32_w]
                  rfl
                refine pure_ (i := 9) (N := some 38) (v := ?_) (a' := ?_) #[true, true, true, true, true, true, true, true, true, true, false, false, false, false, false, false, false, false, false, false, false, false] rfl rfl (any_of HT_.out (by kernel_rfl)) (fun _ _ _ h => h) (Or.inl ⟨by rfl, ?_⟩) ?_ ?_
                rotate_left
                · intro w'
                  go_simp
                  with_reducible rfl
                rotate_left
                · simp only [Act.put, List.setIfInBounds_toArray, List.set_cons_zero, List.set_cons_succ, i64_w, i32_w]
                  rfl
                refine pure_ (i := 10) (N := some 39) (v := ?_) (a' := ?_) #[true, true, true, true, true, true, true, true, true, true, true, false, false, false, false, false, false, false, false, false, false, false] rfl rfl (any_of HT_.out (by kernel_rfl)) (fun _ _ _ h => h) (Or.inl ⟨by rfl, ?_⟩) ?_ ?_
                rotate_left
                · intro w'
                  go_simp
                  with_reducible rfl
                rotate_left
                · simp only [Act.put, List.setIfInBounds_toArray, List.set_cons_zero, List.set_cons_succ, i64_w, i32_w]
                  rfl
                refine pure_ (i := 11) (N := some 40) (v := ?_) (a' := ?_) #[true, true, true, true, true, true, true, true, true, true, true, true, false, false, false, false, false, false, false, false, false, false] rfl rfl (any_of HT_.out (by kernel_rfl)) (fun _ _ _ h => h) (Or.inl ⟨by rfl, ?_⟩) ?_ ?_
                rotate_left
                · intro w'
                  go_simp
                  with_reducible rfl
                rotate_left
                · simp only [Act.put, List.setIfInBounds_toArray, List.set_cons_zero, List.set_cons_succ, i64_w, i32_w]
                  rfl
                refine pure_ (i := 12) (N := some 41) (v := ?_) (a' := ?_) #[true, true, true, true, true, true, true, true, true, true, true, true, true, false, false, false, false, false, false, false, false, false] rfl rfl (any_of HT_.out (by kernel_rfl)) (fun _ _ _ h => h) (Or.inl ⟨by rfl, ?_⟩) ?_ ?_
                rotate_left
                · intro w'
                  go_simp
                  with_reducible rfl
                rotate_left
                · simp only [Act.put, List.setIfInBounds_toArray, List.set_cons_zero, List.set_cons_succ, i64_w, i32_w]
                  rfl
                refine pure_ (i := 15) (N := some 44) (v := ?_) (a' := ?_) #[true, true, true, true, true, true, true, true, true, true, true, true, true, false, false, true, false, false, false, false, false, false] rfl rfl (any_of HT_.out (by kernel_rfl)) (fun _ _ _ h => h) (Or.inl ⟨by rfl, ?_⟩) ?_ ?_
                rotate_left
                · intro w'
                  go_simp
                  with_reducible rfl
                rotate_left
                · simp only [Act.put, List.setIfInBounds_toArray, List.set_cons_zero, List.set_cons_succ, i64_w, i32_w]
                  rfl
                refine pure_ (i := 16) (N := some 45) (v := ?_) (a' := ?_) #[true, true, true, true, true, true, true, true, true, true, true, true, true, false, false, true, true, false, false, false, false, false] rfl rfl (any_of HT_.out (by kernel_rfl)) (fun _ _ _ h => h) (Or.inl ⟨by rfl, ?_⟩) ?_ ?_
                rotate_left
                · intro w'
                  go_simp
                  with_reducible rfl
                rotate_left
                · simp only [Act.put, List.setIfInBounds_toArray, List.set_cons_zero, List.set_cons_succ, i64_w, i32_w]
                  rfl
                refine pure_ (i := 17) (N := some 46) (v := ?_) (a' := ?_) #[true, true, true, true, true, true, true, true, true, true, true, true, true, false, false, true, true, true, false, false, false, false] rfl rfl (any_of HT_.out (by kernel_rfl)) (fun _ _ _ h => h) (Or.inl ⟨by rfl, ?_⟩) ?_ ?_
                rotate_left
                · intro w'
                  go_simp
                  with_reducible rfl
                rotate_left
                · simp only [Act.put, List.setIfInBounds_toArray, List.set_cons_zero, List.set_cons_succ, i64_w, i32_w]
                  rfl
                refine join_ (σ := Value) 3 #[true, true, true, true, true, true, true, true, true, true, true, true, true, true, true, true, true, true, true, false, false, false] (fun s_ => [(42, s_), (43, .string (strOfNums t167)), (47, .string (strOfNums ((l0.take ((ji4) : Int).toNat).take (t165 : Int).toNat)))]) (fun s_ w' => (Kd.R (Kd.int .u8) 5 w' w.heap.size (fun _ => True) s_ t167) ∧ (Below w.heap.size w w')) ?_ ?_
                rotate_left
                · intro hCont
                  refine two_ (i := 13) (j := 18) (Ni := some 42) (Nj := some 47) #[true, true, true, true, true, true, true, true, true, true, true, true, true, true, false, true, true, true, false, false, false, false] #[true, true, true, true, true, true, true, true, true, true, true, true, true, false, false, true, true, true, true, false, false, false] rfl rfl rfl rfl (two_of HT_.out (by kernel_rfl)) (by decide) (by decide) (fun K hK => ?_) (fun K hK => ?_)
                  · skip
                    refine goes_ Try.func15 (by kernel_rfl) rfl #[.slice none 0 0, .int .u64 t164] (by rfl) rfl rfl (by (try simp only [List.map_toArray, List.map_cons, List.map_nil]); first | done | rfl | (simp only [List.length_drop, List.length_take]; rfl)) ?_
                    refine (number_Put.calls k (fun k_ => some k_ = (.slice none 0 0 : Value).ownBlock) (.slice none 0 0) ([] : List Int) t164 t167 w _ ?side1 ?side2 A12.out).mono ?_
                    (case side1 => repeat (first | (with_reducible first | exact HB.out | apply below_alloc | apply pw_below_drewN | apply below_drew1) | exact HB.out))
                    (case side2 => exact Kd.R_nil _ _ _ _ _)
                    rintro e w20 ⟨v168, rfl, ho0, hb, hkp⟩
                    refine ⟨_, rfl, ?_⟩
                    have n0_ := Aside0.mk (Kd.R_mono (ok' := fun k_ => True) ho0 (fun k_ hk_ => trivial))
                    have n1_ := Aside0.mk (hb)
                    clear HB
                    have HO169 := n0_
                    have HB := n1_
                    clear n0_ n1_
                    (try clear hb)
                    (try clear hkp)
                    (try clear ho0)
                    refine hK.out _ _ trivial (fun hHeld => ?_)
                    clear hK K
                    refine norm_ (a' := ?_) ?_ ?_
                    rotate_left
                    · show Act.put _ (some 42) _ = _
                      simp only [Act.put, List.setIfInBounds_toArray, List.set_cons_zero, List.set_cons_succ, i64_w, i32_w]
                      rfl
                    refine two_ (i := 14) (j := 18) (Ni := some 43) (Nj := some 47) #[true, true, true, true, true, true, true, true, true, true, true, true, true, true, true, true, true, true, false, false, false, false] #[true, true, true, true, true, true, true, true, true, true, true, true, true, true, false, true, true, true, true, false, false, false] rfl rfl rfl rfl (two_of HT_.out (by kernel_rfl)) (by decide) (by decide) (fun K hK => ?_) (fun K hK => ?_)
                    · skip
                      have hcv21 := own_string (P := Try.prog) Try.underlying22 Try.underlying5 Try.underlying9 (Kd.own_of_R HO169.out); (try have hcv21d := fun n_ : Nat => own_string (P := Try.prog) Try.underlying22 Try.underlying5 Try.underlying9 (Kd.own_of_R (Kd.R_drewN HO169.out n_)))
                      refine value_ (w1 := ?_) (v := ?_) (by rfl) rfl ?_ ?_
                      rotate_left 2
                      · go_simp
                        constructor
                        · rfl
                        · rfl
                      clear hcv21
                      refine hK.out _ _ trivial (fun hHeld => ?_)
                      clear hK K
                      refine norm_ (a' := ?_) ?_ ?_
                      rotate_left
                      · show Act.put _ (some 43) _ = _
                        simp only [Act.put, List.setIfInBounds_toArray, List.set_cons_zero, List.set_cons_succ, i64_w, i32_w]
                        rfl
                      refine one_ (i := 18) (N := some 47) #[true, true, true, true, true, true, true, true, true, true, true, true, true, true, true, true, true, true, true, false, false, false] rfl rfl (one_of HT_.out (by kernel_rfl)) (by decide) (fun K hK => ?_)
                      have hcv22 := Kd.C_string (P := Try.prog) (A := A0) (c := c0) Try.underlying22 Try.underlying5 Try.underlying9 (Kd.C_below HR170.out HB.out)
                      (try rw [hl19.out] at hcv22)
                      (try have hcv22d := fun n_ : Nat => Kd.C_string (P := Try.prog) (A := A0) (c := c0) Try.underlying22 Try.underlying5 Try.underlying9 (Kd_C_len (n := (t165 : Int).toNat) hl19.out (Kd.C_drewN (Kd.C_below HR170.out HB.out) n_)))
                      refine value_ (w1 := ?_) (v := ?_) (by rfl) rfl ?_ ?_
                      rotate_left 2
                      · go_simp
                        constructor
                        · rfl
                        · rfl
                      clear hcv22
                      refine hK.out _ _ trivial (fun hHeld => ?_)
                      clear hK K
                      refine norm_ (a' := ?_) ?_ ?_
                      rotate_left
                      · show Act.put _ (some 47) _ = _
                        simp only [Act.put, List.setIfInBounds_toArray, List.set_cons_zero, List.set_cons_succ, i64_w, i32_w]
                        rfl
                      exact norm_ (by first | (simp only [putAll, Act.put, List.setIfInBounds_toArray, List.set_cons_zero, List.set_cons_succ]; done) | (simp only [putAll, Act.put, List.setIfInBounds_toArray, List.set_cons_zero, List.set_cons_succ, *]; done)) (hCont (v168) _ ⟨(by (with_reducible repeat (first | apply Kd.R_alloc | apply Kd.R_drewN | apply Kd.R_drew)); exact HO169.out), (by repeat (first | (with_reducible first | exact HB.out | apply below_alloc | apply pw_below_drewN | apply below_drew1) | exact HB.out))⟩)
                    · skip
                      have hcv21 := Kd.C_string (P := Try.prog) (A := A0) (c := c0) Try.underlying22 Try.underlying5 Try.underlying9 (Kd.C_below HR170.out HB.out)
                      (try rw [hl19.out] at hcv21)
                      (try have hcv21d := fun n_ : Nat => Kd.C_string (P := Try.prog) (A := A0) (c := c0) Try.underlying22 Try.underlying5 Try.underlying9 (Kd_C_len (n := (t165 : Int).toNat) hl19.out (Kd.C_drewN (Kd.C_below HR170.out HB.out) n_)))
                      refine value_ (w1 := ?_) (v := ?_) (by rfl) rfl ?_ ?_
                      rotate_left 2
                      · go_simp
                        constructor
                        · rfl
                        · rfl
                      clear hcv21
                      refine hK.out _ _ trivial (fun hHeld => ?_)
                      clear hK K
                      refine norm_ (a' := ?_) ?_ ?_
                      rotate_left
                      · show Act.put _ (some 47) _ = _
                        simp only [Act.put, List.setIfInBounds_toArray, List.set_cons_zero, List.set_cons_succ, i64_w, i32_w]
                        rfl
                      refine one_ (i := 14) (N := some 43) #[true, true, true, true, true, true, true, true, true, true, true, true, true, true, true, true, true, true, true, false, false, false] rfl rfl (one_of HT_.out (by kernel_rfl)) (by decide) (fun K hK => ?_)
                      have hcv22 := own_string (P := Try.prog) Try.underlying22 Try.underlying5 Try.underlying9 (Kd.own_of_R HO169.out); (try have hcv22d := fun n_ : Nat => own_string (P := Try.prog) Try.underlying22 Try.underlying5 Try.underlying9 (Kd.own_of_R (Kd.R_drewN HO169.out n_)))
                      refine value_ (w1 := ?_) (v := ?_) (by rfl) rfl ?_ ?_
                      rotate_left 2
                      · go_simp
                        constructor
                        · rfl
                        · rfl
                      clear hcv22
                      refine hK.out _ _ trivial (fun hHeld => ?_)
                      clear hK K
                      refine norm_ (a' := ?_) ?_ ?_
                      rotate_left
                      · show Act.put _ (some 43) _ = _
                        simp only [Act.put, List.setIfInBounds_toArray, List.set_cons_zero, List.set_cons_succ, i64_w, i32_w]
                        rfl
                      exact norm_ (by first | (simp only [putAll, Act.put, List.setIfInBounds_toArray, List.set_cons_zero, List.set_cons_succ]; done) | (simp only [putAll, Act.put, List.setIfInBounds_toArray, List.set_cons_zero, List.set_cons_succ, *]; done)) (hCont (v168) _ ⟨(by (with_reducible repeat (first | apply Kd.R_alloc | apply Kd.R_drewN | apply Kd.R_drew)); exact HO169.out), (by repeat (first | (with_reducible first | exact HB.out | apply below_alloc | apply pw_below_drewN | apply below_drew1) | exact HB.out))⟩)
                  · skip
                    have hcv20 := Kd.C_string (P := Try.prog) (A := A0) (c := c0) Try.underlying22 Try.underlying5 Try.underlying9 (Kd.C_below HR170.out HB.out)
                    (try rw [hl19.out] at hcv20)
                    (try have hcv20d := fun n_ : Nat => Kd.C_string (P := Try.prog) (A := A0) (c := c0) Try.underlying22 Try.underlying5 Try.underlying9 (Kd_C_len (n := (t165 : Int).toNat) hl19.out (Kd.C_drewN (Kd.C_below HR170.out HB.out) n_)))
                    refine value_ (w1 := ?_) (v := ?_) (by rfl) rfl ?_ ?_
                    rotate_left 2
                    · go_simp
                      constructor
                      · rfl
                      · rfl
                    clear hcv20
                    refine hK.out _ _ trivial (fun hHeld => ?_)
                    clear hK K
                    refine norm_ (a' := ?_) ?_ ?_
                    rotate_left
                    · show Act.put _ (some 47) _ = _
                      simp only [Act.put, List.setIfInBounds_toArray, List.set_cons_zero, List.set_cons_succ, i64_w, i32_w]
                      rfl
                    refine one_ (i := 13) (N := some 42) #[true, true, true, true, true, true, true, true, true, true, true, true, true, true, false, true, true, true, true, false, false, false] rfl rfl (one_of HT_.out (by kernel_rfl)) (by decide) (fun K hK => ?_)
                    refine goes_ Try.func15 (by kernel_rfl) rfl #[.slice none 0 0, .int .u64 t164] (by rfl) rfl rfl (by (try simp only [List.map_toArray, List.map_cons, List.map_nil]); first | done | rfl | (simp only [List.length_drop, List.length_take]; rfl)) ?_
                    refine (number_Put.calls k (fun k_ => some k_ = (.slice none 0 0 : Value).ownBlock) (.slice none 0 0) ([] : List Int) t164 t167 w _ ?side1 ?side2 A12.out).mono ?_
                    (case side1 => repeat (first | (with_reducible first | exact HB.out | apply below_alloc | apply pw_below_drewN | apply below_drew1) | exact HB.out))
                    (case side2 => exact Kd.R_nil _ _ _ _ _)
                    rintro e w21 ⟨v168, rfl, ho0, hb, hkp⟩
                    refine ⟨_, rfl, ?_⟩
                    have n0_ := Aside0.mk (Kd.R_mono (ok' := fun k_ => True) ho0 (fun k_ hk_ => trivial))
                    have n1_ := Aside0.mk (hb)
                    clear HB
                    have HO169 := n0_
                    have HB := n1_
                    clear n0_ n1_
                    (try clear hb)
                    (try clear hkp)
                    (try clear ho0)
                    refine hK.out _ _ trivial (fun hHeld => ?_)
                    clear hK K
                    refine norm_ (a' := ?_) ?_ ?_
                    rotate_left
                    · show Act.put _ (some 42) _ = _
                      simp only [Act.put, List.setIfInBounds_toArray, List.set_cons_zero, List.set_cons_succ, i64_w, i32_w]
                      rfl
                    refine one_ (i := 14) (N := some 43) #[true, true, true, true, true, true, true, true, true, true, true, true, true, true, true, true, true, true, true, false, false, false] rfl rfl (one_of HT_.out (by kernel_rfl)) (by decide) (fun K hK => ?_)
                    have hcv22 := own_string (P := Try.prog) Try.underlying22 Try.underlying5 Try.underlying9 (Kd.own_of_R HO169.out); (try have hcv22d := fun n_ : Nat => own_string (P := Try.prog) Try.underlying22 Try.underlying5 Try.underlying9 (Kd.own_of_R (Kd.R_drewN HO169.out n_)))
                    refine value_ (w1 := ?_) (v := ?_) (by rfl) rfl ?_ ?_
                    rotate_left 2
                    · go_simp
                      constructor
                      · rfl
                      · rfl
                    clear hcv22
                    refine hK.out _ _ trivial (fun hHeld => ?_)
                    clear hK K
                    refine norm_ (a' := ?_) ?_ ?_
                    rotate_left
                    · show Act.put _ (some 43) _ = _
                      simp only [Act.put, List.setIfInBounds_toArray, List.set_cons_zero, List.set_cons_succ, i64_w, i32_w]
                      rfl
                    exact norm_ (by first | (simp only [putAll, Act.put, List.setIfInBounds_toArray, List.set_cons_zero, List.set_cons_succ]; done) | (simp only [putAll, Act.put, List.setIfInBounds_toArray, List.set_cons_zero, List.set_cons_succ, *]; done)) (hCont (v168) _ ⟨(by (with_reducible repeat (first | apply Kd.R_alloc | apply Kd.R_drewN | apply Kd.R_drew)); exact HO169.out), (by repeat (first | (with_reducible first | exact HB.out | apply below_alloc | apply pw_below_drewN | apply below_drew1) | exact HB.out))⟩)
                rintro v168 w23 ⟨h0_, h1_⟩
                have n0_ : Aside0 (Kd.R (Kd.int .u8) 5 w23 w.heap.size (fun _ => True) v168 t167) := ⟨h0_⟩
                have n1_ : Aside0 (Below w.heap.size w w23) := ⟨h1_⟩
                clear HB
                clear h0_ h1_
                have HO169 := n0_
                have HB := n1_
                clear n0_ n1_
                have hHeld := trivial
                refine norm_ (a' := ?_) ?_ ?_
                rotate_left
                · simp only [putAll, Act.put, List.setIfInBounds_toArray, List.set_cons_zero, List.set_cons_succ, *]
                  rfl
                refine pure_ (i := 19) (N := some 48) (v := ?_) (a' := ?_) #[true, true, true, true, true, true, true, true, true, true, true, true, true, true, true, true, true, true, true, true, false, false] rfl rfl (any_of HT_.out (by kernel_rfl)) (fun _ _ _ h => h) (Or.inl ⟨by rfl, ?_⟩) ?_ ?_
                rotate_left
                · intro w'
                  go_simp
                  with_reducible rfl
                rotate_left
                · simp only [Act.put, List.setIfInBounds_toArray, List.set_cons_zero, List.set_cons_succ, i64_w, i32_w]
                  rfl
                refine pure_ (i := 20) (N := some 49) (v := ?_) (a' := ?_) #[true, true, true, true, true, true, true, true, true, true, true, true, true, true, true, true, true, true, true, true, true, false] rfl rfl (any_of HT_.out (by kernel_rfl)) (fun _ _ _ h => h) (Or.inl ⟨by rfl, ?_⟩) ?_ ?_
                rotate_left
                · intro w'
                  go_simp
                  with_reducible rfl
                rotate_left
                · simp only [Act.put, List.setIfInBounds_toArray, List.set_cons_zero, List.set_cons_succ, i64_w, i32_w]
                  rfl
                refine pure_ (i := 21) (N := some 4) (v := ?_) (a' := ?_) #[true, true, true, true, true, true, true, true, true, true, true, true, true, true, true, true, true, true, true, true, true, true] rfl rfl (any_of HT_.out (by kernel_rfl)) (fun _ _ _ h => h) (Or.inl ⟨by rfl, ?_⟩) ?_ ?_
                rotate_left
                · intro w'
                  go_simp
                  with_reducible rfl
                rotate_left
                · simp only [Act.put, List.setIfInBounds_toArray, List.set_cons_zero, List.set_cons_succ, i64_w, i32_w]
                  rfl
                refine done_ (done_of HT_.out (by kernel_rfl)) ?_
                try go_wp2
                go_ret
                exact ⟨by first | rfl | (simp [errW_none, errW_some] <;> rfl) | (simp only [← hji4]; first | rfl | (simp [errW_none, errW_some] <;> rfl)) | (simp [*, errW_none, errW_some] <;> rfl), by repeat (first | (with_reducible first | exact HB.out | apply below_alloc | apply pw_below_drewN | apply below_drew1) | exact HB.out)⟩
              · rw [if_neg c13] at H
                exact absurd H (by simp)
            · rw [if_neg c11] at H
              have c11b0 : decide (t165 ≤ ((l0.take ((ji4) : Int).toNat).length : Int)) = false := decide_eq_false c11
              try have c11b0x : decide (t165 ≤ (max ji4 0)) = false := by have z_ := c11b0; rw [List.length_take, Nat.min_eq_left (by first | omega | (simp only [decide_eq_true_eq] at *; omega)), show ((ji4.toNat : Nat) : Int) = max ji4 0 by omega] at z_; exact z_
              clear c11
              exact absurd HT.out (by rw [← Option.some.inj H]; decide)
          · rw [if_neg c10] at H
            have c10b0 : decide (1 ≤ t165) = false := decide_eq_false c10
            clear c10
            exact absurd HT.out (by rw [← Option.some.inj H]; decide)
        · replace c9 := Bool.eq_false_iff.mpr c9
          subst c9
          have H1 : (some false) = some r := by rw [if_neg (show ¬ (false = true) by decide)] at H; exact H
          clear H
          have H := H1
          clear H1
          exact absurd HT.out (by rw [← Option.some.inj H]; decide)
      · rw [if_neg c8] at H
        have c8b0 : (t166 == 0) = false := beq_eq_false_iff_ne.mpr c8
        have c8b1 : (t166 != 0) = true := bne_iff_ne.mpr c8
        by_cases c24 : t166 = 2
        · rw [if_pos c24] at H
          have c24b0 : (t166 == 2) = true := beq_iff_eq.mpr c24
          have c24b1 : (t166 != 2) = false := bne_eq_false_iff_eq.mpr c24
          clear c24
          by_cases c25 : t162 = true
          · subst c25
            have H1 : (if t164 = 0 then (some (t165 == ((l0.take ((ji4) : Int).toNat).length : Int))) else (some false)) = some r := by rw [if_pos rfl] at H; exact H
            clear H
            have H := H1
            clear H1
            by_cases c26 : t164 = 0
            · rw [if_pos c26] at H
              have c26b0 : (t164 == 0) = true := beq_iff_eq.mpr c26
              have c26b1 : (t164 != 0) = false := bne_eq_false_iff_eq.mpr c26
              clear c26
              obtain rfl := Option.some.inj H
              go_enter Try.func4, Try.ntmps4
              go_wp2_with (first | ((with_reducible refine gate_callee (f := 10) rfl ?_); refine goesL_ (some 15) rfl rfl Try.func10 (by kernel_rfl) rfl #[] rfl (by (try simp only [List.map_toArray, List.map_cons, List.map_nil]); first | done | rfl | (simp only [List.length_drop, List.length_take]; rfl)) ?_; (with_reducible refine (transeptlaw01_shown.calls k  true _ A3.out).mono ?_); rintro e w27 ⟨rfl, hb⟩; refine ⟨_, rfl, ?_⟩; have n0_ := Aside0.mk (below_step (by repeat (first | (with_reducible first | exact HB.out | apply below_alloc | apply pw_below_drewN | apply below_drew1) | exact HB.out)) hb); clear HB; have HB := n0_; clear n0_; (try clear hb); (try clear hb2); (try clear hk); (try clear hi); obtain ⟨i028, hi028, _, hsz28, _⟩ := info_parts info5; obtain ⟨hcut28, hA28, hC28⟩ := print_take_of (P := Try.prog) (Value.int .u8) 0 22 5 .i64 Try.underlying22 hi028 hsz28 A0 c0 l0 (ji4) (of_decide_eq_true (by first | (with_reducible assumption) | assumption)) (of_decide_eq_true (by first | (with_reducible assumption) | assumption)) HC0.out; have hl28 := Aside0.mk (show (l0.take ((ji4) : Int).toNat).length = ((ji4) : Int).toNat from by have q0_ : 0 ≤ (ji4) := (of_decide_eq_true (by first | (with_reducible assumption) | assumption)); have q1_ : (ji4) ≤ (l0.length : Int) := (of_decide_eq_true (by first | (with_reducible assumption) | assumption)); (try simp only [List.length_drop, List.length_take] at q0_ q1_); (try simp only [List.length_drop, List.length_take] at q2_); simp only [List.length_drop, List.length_take]; first | done | omega); (try rw [hl28.out] at hcut28); have HR163 := Aside0.mk (Kd.C_of_reads (h1 := fun _ => rfl) (hA28 _ (Kd.reads_of_C HR0.out))); have HC163 := Aside0.mk hC28; clear hA28 hC28 hi028 hsz28) | ((with_reducible refine gate_callee (f := 11) rfl ?_); refine goesL_ (some 23) rfl rfl Try.func11 (by kernel_rfl) rfl #[.slice A0 (l0.take ((ji4) : Int).toNat).length c0] rfl (by (try simp only [List.map_toArray, List.map_cons, List.map_nil]); first | done | (rw [show (l0.take ((ji4) : Int).toNat).length = (ji4).toNat from (by rw [List.length_take]; have h_ : ((ji4) : Int) ≤ (l0.length : Int) := of_decide_eq_true (by first | (with_reducible assumption) | assumption); omega)] <;> rfl) | (simp only [hji4]; rfl) | rfl | (simp only [List.length_drop, List.length_take]; rfl)) ?_; (with_reducible refine (number_Get.calls _ _ (l0.take ((ji4) : Int).toNat) t164 t165 t166 _ ?side1 ?side2 A7.out).mono ?_); (case side1 => repeat (first | exact (Kd.C_below HR163.out HB.out) | (with_reducible refine Kd.C_alloc ?_ _) | (with_reducible refine Kd.C_drewN ?_ _) | (with_reducible refine Kd.C_drew ?_))); (case side2 => exact HC163.out); rintro e w29 ⟨rfl, hb⟩; refine ⟨_, rfl, ?_⟩; have n0_ := Aside0.mk (below_step (by repeat (first | (with_reducible first | exact HB.out | apply below_alloc | apply pw_below_drewN | apply below_drew1) | exact HB.out)) hb); clear HB; have HB := n0_; clear n0_; (try clear hb); (try clear hb2); (try clear hk); (try clear hi)))
              go_ret
              exact ⟨by first | rfl | (simp [errW_none, errW_some] <;> rfl) | (simp only [← hji4]; first | rfl | (simp [errW_none, errW_some] <;> rfl)) | (simp [*, errW_none, errW_some] <;> rfl), by repeat (first | (with_reducible first | exact HB.out | apply below_alloc | apply pw_below_drewN | apply below_drew1) | exact HB.out)⟩
            · rw [if_neg c26] at H
              have c26b0 : (t164 == 0) = false := beq_eq_false_iff_ne.mpr c26
              have c26b1 : (t164 != 0) = true := bne_iff_ne.mpr c26
              exact absurd HT.out (by rw [← Option.some.inj H]; decide)
          · replace c25 := Bool.eq_false_iff.mpr c25
            subst c25
            have H1 : (some false) = some r := by rw [if_neg (show ¬ (false = true) by decide)] at H; exact H
            clear H
            have H := H1
            clear H1
            exact absurd HT.out (by rw [← Option.some.inj H]; decide)
        · rw [if_neg c24] at H
          have c24b0 : (t166 == 2) = false := beq_eq_false_iff_ne.mpr c24
          have c24b1 : (t166 != 2) = true := bne_iff_ne.mpr c24
          by_cases c30 : t165 ≥ ((l0.take ((ji4) : Int).toNat).length : Int)
          · rw [if_pos c30] at H
            have c30b0 : decide (((l0.take ((ji4) : Int).toNat).length : Int) ≤ t165) = true := decide_eq_true c30
            try have c30b0x : decide ((max ji4 0) ≤ t165) = true := by have z_ := c30b0; rw [List.length_take, Nat.min_eq_left (by first | omega | (simp only [decide_eq_true_eq] at *; omega)), show ((ji4.toNat : Nat) : Int) = max ji4 0 by omega] at z_; exact z_
            clear c30
            exact absurd HT.out (by rw [← Option.some.inj H]; decide)
          · rw [if_neg c30] at H
            have c30b0 : decide (((l0.take ((ji4) : Int).toNat).length : Int) ≤ t165) = false := decide_eq_false c30
            try have c30b0x : decide ((max ji4 0) ≤ t165) = false := by have z_ := c30b0; rw [List.length_take, Nat.min_eq_left (by first | omega | (simp only [decide_eq_true_eq] at *; omega)), show ((ji4.toNat : Nat) : Int) = max ji4 0 by omega] at z_; exact z_
            clear c30
            obtain ⟨y171, hy171⟩ : ∃ y_ : List Int, y_ = (([] : List Int)) := ⟨_, rfl⟩
            replace H : (if 0 ≤ (wrap64 (t165 + 1)) then (if (wrap64 (t165 + 1)) ≤ ((l0.take ((ji4) : Int).toNat).length : Int) then (if y171.length + ((l0.take ((ji4) : Int).toNat).take ((wrap64 (t165 + 1)) : Int).toNat).length < 140737488355328 then ((some (y171 ++ ((l0.take ((ji4) : Int).toNat).take ((wrap64 (t165 + 1)) : Int).toNat) : List Int)).bind fun y175 => (if 0 ≤ (mn (l1.length : Int) 50) then (if (mn (l1.length : Int) 50) ≤ (l1.length : Int) then (if y175.length + (l1.take ((mn (l1.length : Int) 50) : Int).toNat).length < 140737488355328 then ((number_Get.f (y175 ++ (l1.take ((mn (l1.length : Int) 50) : Int).toNat))).bind fun bt182 => (if 0 ≤ t165 then (if t165 ≤ ((l0.take ((ji4) : Int).toNat).length : Int) then ((number_Get.f ((l0.take ((ji4) : Int).toNat).take (t165 : Int).toNat)).bind fun bt186 => (if t162 = true then (if t166 = 3 then (if t164 = 0 then (if bt182.2.1 = t165 then (if bt182.2.2 = 3 then (some (bt186.2.2 == 2)) else (some false)) else (some false)) else (some false)) else (some false)) else (some false))) else (none)) else (none))) else (none)) else (none)) else (none))) else (none)) else (none)) else (none)) = some r := by first | (rw [hy171]; with_reducible exact H) | (have H2_ := (Option.bind_some _ _).symm.trans H; rw [hy171]; with_reducible exact H2_) | (have H2_ := (Option.bind_some _ _).symm.trans H; with_reducible exact H2_) | with_reducible exact H | (rw [hy171]; exact H) | exact H
            have Ny171 := Aside0.mk hy171
            clear hy171
            obtain ⟨ji31, hji31⟩ : ∃ j_ : Int, (wrap64 (t165 + 1)) = j_ := ⟨_, rfl⟩
            replace H : (if 0 ≤ (ji31) then (if (ji31) ≤ ((l0.take ((ji4) : Int).toNat).length : Int) then (if y171.length + ((l0.take ((ji4) : Int).toNat).take ((ji31) : Int).toNat).length < 140737488355328 then ((some (y171 ++ ((l0.take ((ji4) : Int).toNat).take ((ji31) : Int).toNat) : List Int)).bind fun y175 => (if 0 ≤ (mn (l1.length : Int) 50) then (if (mn (l1.length : Int) 50) ≤ (l1.length : Int) then (if y175.length + (l1.take ((mn (l1.length : Int) 50) : Int).toNat).length < 140737488355328 then ((number_Get.f (y175 ++ (l1.take ((mn (l1.length : Int) 50) : Int).toNat))).bind fun bt182 => (if 0 ≤ t165 then (if t165 ≤ ((l0.take ((ji4) : Int).toNat).length : Int) then ((number_Get.f ((l0.take ((ji4) : Int).toNat).take (t165 : Int).toNat)).bind fun bt186 => (if t162 = true then (if t166 = 3 then (if t164 = 0 then (if bt182.2.1 = t165 then (if bt182.2.2 = 3 then (some (bt186.2.2 == 2)) else (some false)) else (some false)) else (some false)) else (some false)) else (some false))) else (none)) else (none))) else (none)) else (none)) else (none))) else (none)) else (none)) else (none)) = some r := by first | (rw [hji31] at H; exact H) | (simp only [hji31] at H ⊢; exact H)
            (try rw [hji31] at A3)
            (try rw [hji31] at A7)
            have hji31w : (IntKind.i64.wrap (t165 + 1)) = ji31 := (i64_w _).trans hji31
            by_cases c32 : 0 ≤ (ji31)
            · rw [if_pos c32] at H
              have c32b0 := eq_true c32
              have c32b1 : decide (0 ≤ (ji31)) = true := decide_eq_true c32
              clear c32
              by_cases c33 : (ji31) ≤ ((l0.take ((ji4) : Int).toNat).length : Int)
              · rw [if_pos c33] at H
                have c33b0 := eq_true c33
                have c33b1 : decide ((ji31) ≤ ((l0.take ((ji4) : Int).toNat).length : Int)) = true := decide_eq_true c33
                try have c33b1x : decide ((ji31) ≤ (max ji4 0)) = true := by have z_ := c33b1; rw [List.length_take, Nat.min_eq_left (by first | omega | (simp only [decide_eq_true_eq] at *; omega)), show ((ji4.toNat : Nat) : Int) = max ji4 0 by omega] at z_; exact z_
                clear c33
                by_cases c34 : y171.length + ((l0.take ((ji4) : Int).toNat).take ((ji31) : Int).toNat).length < 140737488355328
                · rw [if_pos c34] at H
                  have LMc34 := Aside0.mk c34
                  clear c34
                  obtain ⟨y175, hy175⟩ : ∃ y_ : List Int, y_ = (y171 ++ ((l0.take ((ji4) : Int).toNat).take ((ji31) : Int).toNat)) := ⟨_, rfl⟩
                  replace H : (if 0 ≤ (mn (l1.length : Int) 50) then (if (mn (l1.length : Int) 50) ≤ (l1.length : Int) then (if y175.length + (l1.take ((mn (l1.length : Int) 50) : Int).toNat).length < 140737488355328 then ((number_Get.f (y175 ++ (l1.take ((mn (l1.length : Int) 50) : Int).toNat))).bind fun bt182 => (if 0 ≤ t165 then (if t165 ≤ ((l0.take ((ji4) : Int).toNat).length : Int) then ((number_Get.f ((l0.take ((ji4) : Int).toNat).take (t165 : Int).toNat)).bind fun bt186 => (if t162 = true then (if t166 = 3 then (if t164 = 0 then (if bt182.2.1 = t165 then (if bt182.2.2 = 3 then (some (bt186.2.2 == 2)) else (some false)) else (some false)) else (some false)) else (some false)) else (some false))) else (none)) else (none))) else (none)) else (none)) else (none)) = some r := by first | (rw [hy175]; with_reducible exact H) | (have H2_ := (Option.bind_some _ _).symm.trans H; rw [hy175]; with_reducible exact H2_) | (have H2_ := (Option.bind_some _ _).symm.trans H; with_reducible exact H2_) | with_reducible exact H | (rw [hy175]; exact H) | exact H
                  have Ny175 := Aside0.mk hy175
                  clear hy175
                  obtain ⟨ji35, hji35⟩ : ∃ j_ : Int, (mn (l1.length : Int) 50) = j_ := ⟨_, rfl⟩
                  replace H : (if 0 ≤ (ji35) then (if (ji35) ≤ (l1.length : Int) then (if y175.length + (l1.take ((ji35) : Int).toNat).length < 140737488355328 then ((number_Get.f (y175 ++ (l1.take ((ji35) : Int).toNat))).bind fun bt182 => (if 0 ≤ t165 then (if t165 ≤ ((l0.take ((ji4) : Int).toNat).length : Int) then ((number_Get.f ((l0.take ((ji4) : Int).toNat).take (t165 : Int).toNat)).bind fun bt186 => (if t162 = true then (if t166 = 3 then (if t164 = 0 then (if bt182.2.1 = t165 then (if bt182.2.2 = 3 then (some (bt186.2.2 == 2)) else (some false)) else (some false)) else (some false)) else (some false)) else (some false))) else (none)) else (none))) else (none)) else (none)) else (none)) = some r := by first | (rw [hji35] at H; exact H) | (simp only [hji35] at H ⊢; exact H)
                  (try rw [hji35] at A3)
                  (try rw [hji35] at A7)
                  (try (have hji35h : ji35 ≤ 50 := by (rw [← hji35]; unfold mn; (repeat' split) <;> omega)))
                  (try (have hji35g : ji35 ≤ 64 := by omega))
                  (try (have hji35l : 0 ≤ ji35 := by (rw [← hji35]; unfold mn; (repeat' split) <;> omega)))
                  (try (have hji35m : 0 ≤ ji35 := by omega))
                  have hji35_ : (if 50 < (l1.length : Int) then 50 else (l1.length : Int)) = ji35 := hji35
                  by_cases c36 : 0 ≤ (ji35)
                  · rw [if_pos c36] at H
                    have c36b0 := eq_true c36
                    have c36b1 : decide (0 ≤ (ji35)) = true := decide_eq_true c36
                    clear c36
                    by_cases c37 : (ji35) ≤ (l1.length : Int)
                    · rw [if_pos c37] at H
                      have c37b0 := eq_true c37
                      have c37b1 : decide ((ji35) ≤ (l1.length : Int)) = true := decide_eq_true c37
                      clear c37
                      by_cases c38 : y175.length + (l1.take ((ji35) : Int).toNat).length < 140737488355328
                      · rw [if_pos c38] at H
                        have LMc38 := Aside0.mk c38
                        clear c38
                        obtain ⟨y179, hy179⟩ : ∃ y_ : List Int, y_ = (y175 ++ (l1.take ((ji35) : Int).toNat)) := ⟨_, rfl⟩
                        replace H : ((number_Get.f y179).bind fun bt182 => (if 0 ≤ t165 then (if t165 ≤ ((l0.take ((ji4) : Int).toNat).length : Int) then ((number_Get.f ((l0.take ((ji4) : Int).toNat).take (t165 : Int).toNat)).bind fun bt186 => (if t162 = true then (if t166 = 3 then (if t164 = 0 then (if bt182.2.1 = t165 then (if bt182.2.2 = 3 then (some (bt186.2.2 == 2)) else (some false)) else (some false)) else (some false)) else (some false)) else (some false))) else (none)) else (none))) = some r := by first | (rw [hy179]; with_reducible exact H) | (have H2_ := (Option.bind_some _ _).symm.trans H; rw [hy179]; with_reducible exact H2_) | (have H2_ := (Option.bind_some _ _).symm.trans H; with_reducible exact H2_) | with_reducible exact H | (rw [hy179]; exact H) | exact H
                        have Ny179 := Aside0.mk hy179
                        clear hy179
                        replace H := Option.bind_eq_some_iff.mp H
                        obtain ⟨⟨t182, t183, t184⟩, A390, H⟩ := H
                        replace H : (if 0 ≤ t165 then (if t165 ≤ ((l0.take ((ji4) : Int).toNat).length : Int) then ((number_Get.f ((l0.take ((ji4) : Int).toNat).take (t165 : Int).toNat)).bind fun bt186 => (if t162 = true then (if t166 = 3 then (if t164 = 0 then (if t183 = t165 then (if t184 = 3 then (some (bt186.2.2 == 2)) else (some false)) else (some false)) else (some false)) else (some false)) else (some false))) else (none)) else (none)) = some r := H
                        have A39 := Aside0.mk A390
                        clear A390
                        by_cases c40 : 0 ≤ t165
                        · rw [if_pos c40] at H
                          have c40b0 := eq_true c40
                          have c40b1 : decide (0 ≤ t165) = true := decide_eq_true c40
                          clear c40
                          by_cases c41 : t165 ≤ ((l0.take ((ji4) : Int).toNat).length : Int)
                          · rw [if_pos c41] at H
                            have c41b0 := eq_true c41
                            have c41b1 : decide (t165 ≤ ((l0.take ((ji4) : Int).toNat).length : Int)) = true := decide_eq_true c41
                            try have c41b1x : decide (t165 ≤ (max ji4 0)) = true := by have z_ := c41b1; rw [List.length_take, Nat.min_eq_left (by first | omega | (simp only [decide_eq_true_eq] at *; omega)), show ((ji4.toNat : Nat) : Int) = max ji4 0 by omega] at z_; exact z_
                            clear c41
                            replace H := Option.bind_eq_some_iff.mp H
                            obtain ⟨⟨t186, t187, t188⟩, A420, H⟩ := H
                            replace H : (if t162 = true then (if t166 = 3 then (if t164 = 0 then (if t183 = t165 then (if t184 = 3 then (some (t188 == 2)) else (some false)) else (some false)) else (some false)) else (some false)) else (some false)) = some r := H
                            have A42 := Aside0.mk A420
                            clear A420
                            by_cases c43 : t162 = true
                            · subst c43
                              have H1 : (if t166 = 3 then (if t164 = 0 then (if t183 = t165 then (if t184 = 3 then (some (t188 == 2)) else (some false)) else (some false)) else (some false)) else (some false)) = some r := by rw [if_pos rfl] at H; exact H
                              clear H
                              have H := H1
                              clear H1
                              by_cases c44 : t166 = 3
                              · rw [if_pos c44] at H
                                have c44b0 : (t166 == 3) = true := beq_iff_eq.mpr c44
                                have c44b1 : (t166 != 3) = false := bne_eq_false_iff_eq.mpr c44
                                clear c44
                                by_cases c45 : t164 = 0
                                · rw [if_pos c45] at H
                                  have c45b0 : (t164 == 0) = true := beq_iff_eq.mpr c45
                                  have c45b1 : (t164 != 0) = false := bne_eq_false_iff_eq.mpr c45
                                  clear c45
                                  by_cases c46 : t183 = t165
                                  · rw [if_pos c46] at H
                                    have c46b0 : (t183 == t165) = true := beq_iff_eq.mpr c46
                                    have c46b1 : (t183 != t165) = false := bne_eq_false_iff_eq.mpr c46
                                    clear c46
                                    by_cases c47 : t184 = 3
                                    · rw [if_pos c47] at H
                                      have c47b0 : (t184 == 3) = true := beq_iff_eq.mpr c47
                                      have c47b1 : (t184 != 3) = false := bne_eq_false_iff_eq.mpr c47
                                      clear c47
                                      obtain rfl := Option.some.inj H
                                      go_enter Try.func4, Try.ntmps4
                                      try go_wp2_with (first | ((with_reducible refine gate_callee (f := 10) rfl ?_); refine goesL_ (some 15) rfl rfl Try.func10 (by kernel_rfl) rfl #[] rfl (by (try simp only [List.map_toArray, List.map_cons, List.map_nil]); first | done | rfl | (simp only [List.length_drop, List.length_take]; rfl)) ?_; (with_reducible refine (transeptlaw01_shown.calls k  true _ A3.out).mono ?_); rintro e w48 ⟨rfl, hb⟩; refine ⟨_, rfl, ?_⟩; have n0_ := Aside0.mk (below_step (by repeat (first | (with_reducible first | exact HB.out | apply below_alloc | apply pw_below_drewN | apply below_drew1) | exact HB.out)) hb); clear HB; have HB := n0_; clear n0_; (try clear hb); (try clear hb2); (try clear hk); (try clear hi); obtain ⟨i049, hi049, _, hsz49, _⟩ := info_parts info5; obtain ⟨hcut49, hA49, hC49⟩ := print_take_of (P := Try.prog) (Value.int .u8) 0 22 5 .i64 Try.underlying22 hi049 hsz49 A0 c0 l0 (ji4) (of_decide_eq_true (by first | (with_reducible assumption) | assumption)) (of_decide_eq_true (by first | (with_reducible assumption) | assumption)) HC0.out; have hl49 := Aside0.mk (show (l0.take ((ji4) : Int).toNat).length = ((ji4) : Int).toNat from by have q0_ : 0 ≤ (ji4) := (of_decide_eq_true (by first | (with_reducible assumption) | assumption)); have q1_ : (ji4) ≤ (l0.length : Int) := (of_decide_eq_true (by first | (with_reducible assumption) | assumption)); (try simp only [List.length_drop, List.length_take] at q0_ q1_); (try simp only [List.length_drop, List.length_take] at q2_); simp only [List.length_drop, List.length_take]; first | done | omega); (try rw [hl49.out] at hcut49); have HR163 := Aside0.mk (Kd.C_of_reads (h1 := fun _ => rfl) (hA49 _ (Kd.reads_of_C HR0.out))); have HC163 := Aside0.mk hC49; clear hA49 hC49 hi049 hsz49) | ((with_reducible refine gate_callee (f := 11) rfl ?_); refine goesL_ (some 23) rfl rfl Try.func11 (by kernel_rfl) rfl #[.slice A0 (l0.take ((ji4) : Int).toNat).length c0] rfl (by (try simp only [List.map_toArray, List.map_cons, List.map_nil]); first | done | (rw [show (l0.take ((ji4) : Int).toNat).length = (ji4).toNat from (by rw [List.length_take]; have h_ : ((ji4) : Int) ≤ (l0.length : Int) := of_decide_eq_true (by first | (with_reducible assumption) | assumption); omega)] <;> rfl) | (simp only [hji4]; rfl) | rfl | (simp only [List.length_drop, List.length_take]; rfl)) ?_; (with_reducible refine (number_Get.calls _ _ (l0.take ((ji4) : Int).toNat) t164 t165 t166 _ ?side1 ?side2 A7.out).mono ?_); (case side1 => repeat (first | exact (Kd.C_below HR163.out HB.out) | (with_reducible refine Kd.C_alloc ?_ _) | (with_reducible refine Kd.C_drewN ?_ _) | (with_reducible refine Kd.C_drew ?_))); (case side2 => exact HC163.out); rintro e w50 ⟨rfl, hb⟩; refine ⟨_, rfl, ?_⟩; have n0_ := Aside0.mk (below_step (by repeat (first | (with_reducible first | exact HB.out | apply below_alloc | apply pw_below_drewN | apply below_drew1) | exact HB.out)) hb); clear HB; have HB := n0_; clear n0_; (try clear hb); (try clear hb2); (try clear hk); (try clear hi)))
                                      have n0_ := Aside0.mk (below_drew1 HB.out)
                                      clear HB
                                      have HB := n0_
                                      clear n0_
                                      obtain ⟨i052, hi052, _, hsz52, _⟩ := info_parts info5
                                      obtain ⟨hcut52, hA52, hC52⟩ := print_take_of (P := Try.prog) (Value.int .u8) 0 22 5 .i64 Try.underlying22 hi052 hsz52 A0 c0 (l0.take ((ji4) : Int).toNat) (ji31) (of_decide_eq_true (by first | (with_reducible assumption) | assumption)) (of_decide_eq_true (by first | (with_reducible assumption) | assumption)) HC163.out
                                      have hl52 := Aside0.mk (show ((l0.take ((ji4) : Int).toNat).take ((ji31) : Int).toNat).length = ((ji31) : Int).toNat from by have q0_ : 0 ≤ (ji31) := (of_decide_eq_true (by first | (with_reducible assumption) | assumption)); have q1_ : (ji31) ≤ ((l0.take ((ji4) : Int).toNat).length : Int) := (of_decide_eq_true (by first | (with_reducible assumption) | assumption)); have z_ := hl49.out; (try rw [List.length_drop] at z_); (try rw [List.length_take] at z_); (try simp only [List.length_drop, List.length_take] at q0_ q1_); (try simp only [List.length_drop, List.length_take] at q2_); simp only [List.length_drop, List.length_take]; first | done | omega)
                                      (try rw [hl49.out] at hcut52)
                                      (try rw [hl52.out] at hcut52)
                                      have HR174 := Aside0.mk (Kd.C_of_reads (h1 := fun _ => rfl) (hA52 _ (Kd.reads_of_C HR163.out)))
                                      have HC174 := Aside0.mk hC52
                                      clear hA52 hC52 hi052 hsz52
                                      obtain ⟨i053, hi053, _, hsz53, _⟩ := info_parts info5
                                      obtain ⟨hcut53, hA53, hC53⟩ := print_take_of (P := Try.prog) (Value.int .u8) 0 22 5 .i64 Try.underlying22 hi053 hsz53 A1 c1 l1 (ji35) (of_decide_eq_true (by first | (with_reducible assumption) | assumption)) (of_decide_eq_true (by first | (with_reducible assumption) | assumption)) HC1.out
                                      have hl53 := Aside0.mk (show (l1.take ((ji35) : Int).toNat).length = ((ji35) : Int).toNat from by have q0_ : 0 ≤ (ji35) := (of_decide_eq_true (by first | (with_reducible assumption) | assumption)); have q1_ : (ji35) ≤ (l1.length : Int) := (of_decide_eq_true (by first | (with_reducible assumption) | assumption)); (try simp only [List.length_drop, List.length_take] at q0_ q1_); (try simp only [List.length_drop, List.length_take] at q2_); simp only [List.length_drop, List.length_take]; first | done | omega)
                                      (try rw [hl53.out] at hcut53)
                                      have HR178 := Aside0.mk (Kd.C_of_reads (h1 := fun _ => rfl) (hA53 _ (Kd.reads_of_C HR1.out)))
                                      have HC178 := Aside0.mk hC53
                                      clear hA53 hC53 hi053 hsz53
                                      refine start_ (n := 20) (S := fun w' => True) (ds := []) #[false, false, false, false, false, false, false, false, false, false, false, false, false, false, false, false, false, false, false, false] (by kernel_rfl) rfl rfl trivial (fun hHeld => ?_); refine with_tabW transeptlaw01_NumberOne.tab10 transeptlaw01_NumberOne.bits10 (fun HT_ HW_ => ?_)
                                      generalize w50.drew = w51 at HB HR174 HR178 hHeld ⊢
                                      refine pure_ (i := 1) (N := some 69) (v := ?_) (a' := ?_) #[false, true, false, false, false, false, false, false, false, false, false, false, false, false, false, false, false, false, false, false] rfl rfl (any_of HT_.out (by kernel_rfl)) (fun _ _ _ h => h) (Or.inl ⟨by rfl, ?_⟩) ?_ ?_
                                      rotate_left
                                      · intro w'
                                        go_simp
                                        with_reducible rfl
                                      rotate_left
                                      · simp only [Act.put, List.setIfInBounds_toArray, List.set_cons_zero, List.set_cons_succ, i64_w, i32_w]
                                        rfl
                                      refine pure_ (i := 2) (N := some 70) (v := ?_) (a' := ?_) #[false, true, true, false, false, false, false, false, false, false, false, false, false, false, false, false, false, false, false, false] rfl rfl (any_of HT_.out (by kernel_rfl)) (fun _ _ _ h => h) (Or.inl ⟨by rfl, ?_⟩) ?_ ?_
                                      rotate_left
                                      · intro w'
                                        go_simp
                                        with_reducible rfl
                                      rotate_left
                                      · simp only [Act.put, List.setIfInBounds_toArray, List.set_cons_zero, List.set_cons_succ, i64_w, i32_w]
                                        rfl
                                      refine pure_ (i := 3) (N := some 71) (v := ?_) (a' := ?_) #[false, true, true, true, false, false, false, false, false, false, false, false, false, false, false, false, false, false, false, false] rfl rfl (any_of HT_.out (by kernel_rfl)) (fun _ _ _ h => h) (Or.inl ⟨by rfl, ?_⟩) ?_ ?_
                                      rotate_left
                                      · intro w'
                                        go_simp
                                        with_reducible rfl
                                      rotate_left
                                      · simp only [Act.put, List.setIfInBounds_toArray, List.set_cons_zero, List.set_cons_succ, i64_w, i32_w]
                                        rfl
                                      refine pure_ (i := 4) (N := some 72) (v := ?_) (a' := ?_) #[false, true, true, true, true, false, false, false, false, false, false, false, false, false, false, false, false, false, false, false] rfl rfl (any_of HT_.out (by kernel_rfl)) (fun _ _ _ h => h) (Or.inl ⟨by rfl, ?_⟩) ?_ ?_
                                      rotate_left
                                      · intro w'
                                        go_simp
                                        with_reducible rfl
                                      rotate_left
                                      · simp only [Act.put, List.setIfInBounds_toArray, List.set_cons_zero, List.set_cons_succ, i64_w, i32_w]
                                        rfl
                                      refine pure_ (i := 6) (N := some 74) (v := ?_) (a' := ?_) #[false, true, true, true, true, false, true, false, false, false, false, false, false, false, false, false, false, false, false, false] rfl rfl (any_of HT_.out (by kernel_rfl)) (fun _ _ _ h => h) (Or.inl ⟨by rfl, ?_⟩) ?_ ?_
                                      rotate_left
                                      · intro w'
                                        go_simp
                                        with_reducible rfl
                                      rotate_left
                                      · simp only [Act.put, List.setIfInBounds_toArray, List.set_cons_zero, List.set_cons_succ, i64_w, i32_w]
                                        rfl
                                      refine pure_ (i := 7) (N := some 75) (v := ?_) (a' := ?_) #[false, true, true, true, true, false, true, true, false, false, false, false, false, false, false, false, false, false, false, false] rfl rfl (any_of HT_.out (by kernel_rfl)) (fun _ _ _ h => h) (Or.inl ⟨by rfl, ?_⟩) ?_ ?_
                                      rotate_left
                                      · intro w'
                                        go_simp
                                        with_reducible rfl
                                      rotate_left
                                      · simp only [Act.put, List.setIfInBounds_toArray, List.set_cons_zero, List.set_cons_succ, i64_w, i32_w]
                                        rfl
                                      refine pure_ (i := 8) (N := some 76) (v := ?_) (a' := ?_) #[false, true, true, true, true, false, true, true, true, false, false, false, false, false, false, false, false, false, false, false] rfl rfl (any_of HT_.out (by kernel_rfl)) (fun _ _ _ h => h) (Or.inl ⟨by rfl, ?_⟩) ?_ ?_
                                      rotate_left
                                      · intro w'
                                        go_simp
                                        with_reducible rfl
                                      rotate_left
                                      · simp only [Act.put, List.setIfInBounds_toArray, List.set_cons_zero, List.set_cons_succ, i64_w, i32_w]
                                        rfl
                                      refine pure_ (i := 9) (N := some 77) (v := ?_) (a' := ?_) #[false, true, true, true, true, false, true, true, true, true, false, false, false, false, false, false, false, false, false, false] rfl rfl (any_of HT_.out (by kernel_rfl)) (fun _ _ _ h => h) (Or.inl ⟨by rfl, ?_⟩) ?_ ?_
                                      rotate_left
                                      · intro w'
                                        go_simp
                                        with_reducible rfl
                                      rotate_left
                                      · simp only [Act.put, List.setIfInBounds_toArray, List.set_cons_zero, List.set_cons_succ, i64_w, i32_w]
                                        rfl
                                      refine pure_ (i := 10) (N := some 78) (v := ?_) (a' := ?_) #[false, true, true, true, true, false, true, true, true, true, true, false, false, false, false, false, false, false, false, false] rfl rfl (any_of HT_.out (by kernel_rfl)) (fun _ _ _ h => h) (Or.inl ⟨by rfl, ?_⟩) ?_ ?_
                                      rotate_left
                                      · intro w'
                                        go_simp
                                        with_reducible rfl
                                      rotate_left
                                      · simp only [Act.put, List.setIfInBounds_toArray, List.set_cons_zero, List.set_cons_succ, i64_w, i32_w]
                                        rfl
                                      refine one_ (i := 0) (N := some 68) #[true, true, true, true, true, false, true, true, true, true, true, false, false, false, false, false, false, false, false, false] rfl rfl (one_of HT_.out (by kernel_rfl)) (by decide) (fun K hK => ?_)
                                      refine Kd.R_lit_step (Kd.int .u8) _ 5 ?hg (N := 68) ?hd (xs := ([] : List Int)) (inner := []) (ok := fun _ => True) (okp := fun _ => True) ?hr ?hp (fun _ hk => hk) trivial (Below.refl _ _) (Nat.le_refl _) (by simp) ?_; (case hd => rfl); (case hg => rfl); (case hr => first | (go_simp; done) | (go_simp; rfl)); (case hp => exact (Reps.none _ _))
                                      intro v172 w54 ho55 hb hg_ hnew_
                                      clear hg_ hnew_
                                      (first | rw [← Ny171.out] at ho55 | (simp only [Int.reduceToNat] at ho55; rw [← Ny171.out] at ho55))
                                      have n0_ := Aside0.mk (Kd.R_lower ho55 (below_size (by repeat (first | (with_reducible first | exact HB.out | apply below_alloc | apply pw_below_drewN | apply below_drew1) | exact HB.out))))
                                      have n1_ := Aside0.mk (below_step (by repeat (first | (with_reducible first | exact HB.out | apply below_alloc | apply pw_below_drewN | apply below_drew1) | exact HB.out)) hb)
                                      clear HB
                                      have HO173 := n0_
                                      have HB := n1_
                                      clear n0_ n1_
                                      clear hb ho55
                                      refine hK.out _ _ trivial (fun hHeld => ?_)
                                      clear hK K
                                      refine norm_ (a' := ?_) ?_ ?_
                                      rotate_left
                                      · show Act.put _ (some 68) _ = _
                                        simp only [Act.put, List.setIfInBounds_toArray, List.set_cons_zero, List.set_cons_succ, i64_w, i32_w]
                                        rfl
                                      refine one_ (i := 5) (N := some 73) #[true, true, true, true, true, true, true, true, true, true, true, false, false, false, false, false, false, false, false, false] rfl rfl (one_of HT_.out (by kernel_rfl)) (by decide) (fun K hK => ?_)
                                      refine Kd.R_append_rows_step (Kd.int .u8) (w0 := w) w.heap.size (by rfl) (.tmp 68) (.tmp 72) 22 5 (.int .u8 0) 1 rfl Try.underlying22 info5 rfl (by decide) (by omega) v172 y171 ((l0.take ((ji4) : Int).toNat).take ((ji31) : Int).toNat) _ _ _ (fun _ => True) (fun _ => False) rfl rfl ?aO ?aR (fun _ _ h => h) (fun _ h => h.elim) ?aF ?aB ?aS ?aL ?_
                                      (case aR => first | (refine Kd_C_len (show ((l0.take ((ji4) : Int).toNat).take ((ji31) : Int).toNat).length = (ji31).toNat from (by rw [List.length_take]; have h_ : ((ji31) : Int) ≤ ((l0.take ((ji4) : Int).toNat).length : Int) := of_decide_eq_true (by first | (with_reducible assumption) | assumption); omega)) ?_; repeat (first | exact (Kd.C_below HR174.out HB.out) | (with_reducible refine Kd.C_alloc ?_ _) | (with_reducible refine Kd.C_drewN ?_ _) | (with_reducible refine Kd.C_drew ?_))) | (repeat (first | exact (Kd.C_below HR174.out HB.out) | (with_reducible refine Kd.C_alloc ?_ _) | (with_reducible refine Kd.C_drewN ?_ _) | (with_reducible refine Kd.C_drew ?_))))
                                      (case aB => exact (by repeat (first | (with_reducible first | exact HB.out | apply below_alloc | apply pw_below_drewN | apply below_drew1) | exact HB.out)))
                                      (case aF => exact (fun _ _ => trivial))
                                      (case aO => exact (by (with_reducible repeat (first | apply Kd.R_alloc | apply Kd.R_drewN | apply Kd.R_drew)); exact HO173.out))
                                      (case aS => exact (below_size (by repeat (first | (with_reducible first | exact HB.out | apply below_alloc | apply pw_below_drewN | apply below_drew1) | exact HB.out))))
                                      (case aL => have := LMc34.out; have hlx_ := (show ((l0.take ((ji4) : Int).toNat).take ((ji31) : Int).toNat).length = (ji31).toNat from (by rw [List.length_take]; have h_ : ((ji31) : Int) ≤ ((l0.take ((ji4) : Int).toNat).length : Int) := of_decide_eq_true (by first | (with_reducible assumption) | assumption); omega)); omega)
                                      intro v176 w56 ho hb hg hat
                                      rw [← Ny175.out] at ho
                                      have n0_ := Aside0.mk (hb)
                                      have n1_ := Aside0.mk (ho)
                                      clear HB
                                      clear HO173
                                      have HB := n0_
                                      have HO177 := n1_
                                      clear n0_ n1_
                                      clear ho hb hg hat
                                      refine hK.out _ _ trivial (fun hHeld => ?_)
                                      clear hK K
                                      refine norm_ (a' := ?_) ?_ ?_
                                      rotate_left
                                      · show Act.put _ (some 73) _ = _
                                        simp only [Act.put, List.setIfInBounds_toArray, List.set_cons_zero, List.set_cons_succ, i64_w, i32_w]
                                        rfl
                                      refine one_ (i := 11) (N := some 79) #[true, true, true, true, true, true, true, true, true, true, true, true, false, false, false, false, false, false, false, false] rfl rfl (one_of HT_.out (by kernel_rfl)) (by decide) (fun K hK => ?_)
                                      refine Kd.R_append_rows_step (Kd.int .u8) (w0 := w) w.heap.size (by rfl) (.tmp 73) (.tmp 78) 22 5 (.int .u8 0) 1 rfl Try.underlying22 info5 rfl (by decide) (by omega) v176 y175 (l1.take ((ji35) : Int).toNat) _ _ _ (fun _ => True) (fun _ => False) rfl rfl ?aO ?aR (fun _ _ h => h) (fun _ h => h.elim) ?aF ?aB ?aS ?aL ?_
                                      (case aR => first | (refine Kd_C_len (show (l1.take ((ji35) : Int).toNat).length = (ji35).toNat from (by rw [List.length_take]; have h_ : ((ji35) : Int) ≤ (l1.length : Int) := of_decide_eq_true (by first | (with_reducible assumption) | assumption); omega)) ?_; repeat (first | exact (Kd.C_below HR178.out HB.out) | (with_reducible refine Kd.C_alloc ?_ _) | (with_reducible refine Kd.C_drewN ?_ _) | (with_reducible refine Kd.C_drew ?_))) | (repeat (first | exact (Kd.C_below HR178.out HB.out) | (with_reducible refine Kd.C_alloc ?_ _) | (with_reducible refine Kd.C_drewN ?_ _) | (with_reducible refine Kd.C_drew ?_))))
                                      (case aB => exact (by repeat (first | (with_reducible first | exact HB.out | apply below_alloc | apply pw_below_drewN | apply below_drew1) | exact HB.out)))
                                      (case aF => exact (fun _ _ => trivial))
                                      (case aO => exact (by (with_reducible repeat (first | apply Kd.R_alloc | apply Kd.R_drewN | apply Kd.R_drew)); exact HO177.out))
                                      (case aS => exact (below_size (by repeat (first | (with_reducible first | exact HB.out | apply below_alloc | apply pw_below_drewN | apply below_drew1) | exact HB.out))))
                                      (case aL => have := LMc38.out; have hlx_ := (show (l1.take ((ji35) : Int).toNat).length = (ji35).toNat from (by rw [List.length_take]; have h_ : ((ji35) : Int) ≤ (l1.length : Int) := of_decide_eq_true (by first | (with_reducible assumption) | assumption); omega)); omega)
                                      intro v180 w57 ho hb hg hat
                                      rw [← Ny179.out] at ho
                                      have n0_ := Aside0.mk (hb)
                                      have n1_ := Aside0.mk (ho)
                                      clear HB
                                      clear HO177
                                      have HB := n0_
                                      have HO181 := n1_
                                      clear n0_ n1_
                                      clear ho hb hg hat
                                      obtain ⟨Ao58, co58, eo58⟩ := Kd.R_slice HO181.out
                                      (first | subst eo58 | (injection eo58 with f1_ f2_ f3_; have f4_ := f1_.symm; have f5_ := f3_.symm; clear f1_ f2_ f3_; subst f4_; subst f5_))
                                      refine hK.out _ _ trivial (fun hHeld => ?_)
                                      clear hK K
                                      refine norm_ (a' := ?_) ?_ ?_
                                      rotate_left
                                      · show Act.put _ (some 79) _ = _
                                        simp only [Act.put, List.setIfInBounds_toArray, List.set_cons_zero, List.set_cons_succ, i64_w, i32_w]
                                        rfl
                                      refine one_ (i := 12) (N := some 80) #[true, true, true, true, true, true, true, true, true, true, true, true, true, false, false, false, false, false, false, false] rfl rfl (one_of HT_.out (by kernel_rfl)) (by decide) (fun K hK => ?_)
                                      refine goes_ Try.func11 (by kernel_rfl) rfl #[.slice Ao58 y179.length co58] (by rfl) rfl rfl (by (try simp only [List.map_toArray, List.map_cons, List.map_nil]); first | done | rfl | (simp only [List.length_drop, List.length_take]; rfl)) ?_
                                      with_reducible refine (number_Get.calls _ _ y179 t182 t183 t184 _ ?side1 ?side2 A39.out).mono ?_
                                      (case side1 => repeat (first | exact (Kd.R_reads' HO181.out).2.2 | (with_reducible refine Kd.C_alloc ?_ _) | (with_reducible refine Kd.C_drewN ?_ _) | (with_reducible refine Kd.C_drew ?_)))
                                      (case side2 => exact (Kd.R_reads' HO181.out).2.1)
                                      rintro e w59 ⟨rfl, hb⟩
                                      refine ⟨_, rfl, ?_⟩
                                      have n0_ := Aside0.mk (Kd.R_below (by (with_reducible repeat (first | apply Kd.R_alloc | apply Kd.R_drewN | apply Kd.R_drew)); exact HO181.out) hb)
                                      have n1_ := Aside0.mk (below_step (by repeat (first | (with_reducible first | exact HB.out | apply below_alloc | apply pw_below_drewN | apply below_drew1) | exact HB.out)) hb)
                                      clear HO181
                                      clear HB
                                      have HO181 := n0_
                                      have HB := n1_
                                      clear n0_ n1_
                                      (try clear hb)
                                      (try clear hb2)
                                      (try clear hk)
                                      (try clear hi)
                                      refine hK.out _ _ trivial (fun hHeld => ?_)
                                      clear hK K
                                      refine norm_ (a' := ?_) ?_ ?_
                                      rotate_left
                                      · show Act.put _ (some 80) _ = _
                                        simp only [Act.put, List.setIfInBounds_toArray, List.set_cons_zero, List.set_cons_succ, i64_w, i32_w]
                                        rfl
                                      refine pure_ (i := 13) (N := some 67) (v := ?_) (a' := ?_) #[true, true, true, true, true, true, true, true, true, true, true, true, true, true, false, false, false, false, false, false] rfl rfl (any_of HT_.out (by kernel_rfl)) (fun _ _ _ h => h) (Or.inl ⟨by rfl, ?_⟩) ?_ ?_
                                      rotate_left
                                      · intro w'
                                        go_simp
                                        with_reducible rfl
                                      rotate_left
                                      · simp only [Act.put, List.setIfInBounds_toArray, List.set_cons_zero, List.set_cons_succ, i64_w, i32_w]
                                        rfl
                                      refine pure_ (i := 14) (N := some 81) (v := ?_) (a' := ?_) #[true, true, true, true, true, true, true, true, true, true, true, true, true, true, true, false, false, false, false, false] rfl rfl (any_of HT_.out (by kernel_rfl)) (fun _ _ _ h => h) (Or.inl ⟨by rfl, ?_⟩) ?_ ?_
                                      rotate_left
                                      · intro w'
                                        go_simp
                                        with_reducible rfl
                                      rotate_left
                                      · simp only [Act.put, List.setIfInBounds_toArray, List.set_cons_zero, List.set_cons_succ, i64_w, i32_w]
                                        rfl
                                      refine pure_ (i := 15) (N := some 82) (v := ?_) (a' := ?_) #[true, true, true, true, true, true, true, true, true, true, true, true, true, true, true, true, false, false, false, false] rfl rfl (any_of HT_.out (by kernel_rfl)) (fun _ _ _ h => h) (Or.inl ⟨by rfl, ?_⟩) ?_ ?_
                                      rotate_left
                                      · intro w'
                                        go_simp
                                        with_reducible rfl
                                      rotate_left
                                      · simp only [Act.put, List.setIfInBounds_toArray, List.set_cons_zero, List.set_cons_succ, i64_w, i32_w]
                                        rfl
                                      refine pure_ (i := 16) (N := some 83) (v := ?_) (a' := ?_) #[true, true, true, true, true, true, true, true, true, true, true, true, true, true, true, true, true, false, false, false] rfl rfl (any_of HT_.out (by kernel_rfl)) (fun _ _ _ h => h) (Or.inl ⟨by rfl, ?_⟩) ?_ ?_
                                      rotate_left
                                      · intro w'
                                        go_simp
                                        with_reducible rfl
                                      rotate_left
                                      · simp only [Act.put, List.setIfInBounds_toArray, List.set_cons_zero, List.set_cons_succ, i64_w, i32_w]
                                        rfl
                                      refine pure_ (i := 17) (N := some 9) (v := ?_) (a' := ?_) #[true, true, true, true, true, true, true, true, true, true, true, true, true, true, true, true, true, true, false, false] rfl rfl (any_of HT_.out (by kernel_rfl)) (fun _ _ _ h => h) (Or.inl ⟨by rfl, ?_⟩) ?_ ?_
                                      rotate_left
                                      · intro w'
                                        go_simp
                                        with_reducible rfl
                                      rotate_left
                                      · simp only [Act.put, List.setIfInBounds_toArray, List.set_cons_zero, List.set_cons_succ, i64_w, i32_w]
                                        rfl
                                      refine pure_ (i := 18) (N := some 10) (v := ?_) (a' := ?_) #[true, true, true, true, true, true, true, true, true, true, true, true, true, true, true, true, true, true, true, false] rfl rfl (any_of HT_.out (by kernel_rfl)) (fun _ _ _ h => h) (Or.inl ⟨by rfl, ?_⟩) ?_ ?_
                                      rotate_left
                                      · intro w'
                                        go_simp
                                        with_reducible rfl
                                      rotate_left
                                      · simp only [Act.put, List.setIfInBounds_toArray, List.set_cons_zero, List.set_cons_succ, i64_w, i32_w]
                                        rfl
                                      refine pure_ (i := 19) (N := some 11) (v := ?_) (a' := ?_) #[true, true, true, true, true, true, true, true, true, true, true, true, true, true, true, true, true, true, true, true] rfl rfl (any_of HT_.out (by kernel_rfl)) (fun _ _ _ h => h) (Or.inl ⟨by rfl, ?_⟩) ?_ ?_
                                      rotate_left
                                      · intro w'
                                        go_simp
                                        with_reducible rfl
                                      rotate_left
                                      · simp only [Act.put, List.setIfInBounds_toArray, List.set_cons_zero, List.set_cons_succ, i64_w, i32_w]
                                        rfl
                                      refine done_ (done_of HT_.out (by kernel_rfl)) ?_
                                      obtain ⟨i060, hi060, _, hsz60, _⟩ := info_parts info5
                                      obtain ⟨hcut60, hA60, hC60⟩ := print_take_of (P := Try.prog) (Value.int .u8) 0 22 5 .i64 Try.underlying22 hi060 hsz60 A0 c0 (l0.take ((ji4) : Int).toNat) t165 (of_decide_eq_true (by first | (with_reducible assumption) | assumption)) (of_decide_eq_true (by first | (with_reducible assumption) | assumption)) HC163.out
                                      have hl60 := Aside0.mk (show ((l0.take ((ji4) : Int).toNat).take (t165 : Int).toNat).length = (t165 : Int).toNat from by have q0_ : 0 ≤ t165 := (of_decide_eq_true (by first | (with_reducible assumption) | assumption)); have q1_ : t165 ≤ ((l0.take ((ji4) : Int).toNat).length : Int) := (of_decide_eq_true (by first | (with_reducible assumption) | assumption)); have z_ := hl49.out; (try rw [List.length_drop] at z_); (try rw [List.length_take] at z_); (try simp only [List.length_drop, List.length_take] at q0_ q1_); (try simp only [List.length_drop, List.length_take] at q2_); simp only [List.length_drop, List.length_take]; first | done | omega)
                                      (try rw [hl49.out] at hcut60)
                                      (try rw [hl60.out] at hcut60)
                                      have HR185 := Aside0.mk (Kd.C_of_reads (h1 := fun _ => rfl) (hA60 _ (Kd.reads_of_C HR163.out)))
                                      have HC185 := Aside0.mk hC60
                                      clear hA60 hC60 hi060 hsz60
                                      try go_wp2_with (first | ((with_reducible refine gate_callee (f := 11) rfl ?_); refine goesL_ (some 88) rfl rfl Try.func11 (by kernel_rfl) rfl #[.slice A0 ((l0.take ((ji4) : Int).toNat).take (t165 : Int).toNat).length c0] rfl (by (try simp only [List.map_toArray, List.map_cons, List.map_nil]); first | done | (rw [show ((l0.take ((ji4) : Int).toNat).take (t165 : Int).toNat).length = t165.toNat from (by rw [List.length_take]; have h_ : (t165 : Int) ≤ ((l0.take ((ji4) : Int).toNat).length : Int) := of_decide_eq_true (by first | (with_reducible assumption) | assumption); omega)] <;> rfl) | (simp only [hji4]; rfl) | rfl | (simp only [List.length_drop, List.length_take]; rfl)) ?_; (with_reducible refine (number_Get.calls _ _ ((l0.take ((ji4) : Int).toNat).take (t165 : Int).toNat) t186 t187 t188 _ ?side1 ?side2 A42.out).mono ?_); (case side1 => repeat (first | exact (Kd.C_below HR185.out HB.out) | (with_reducible refine Kd.C_alloc ?_ _) | (with_reducible refine Kd.C_drewN ?_ _) | (with_reducible refine Kd.C_drew ?_))); (case side2 => exact HC185.out); rintro e w61 ⟨rfl, hb⟩; refine ⟨_, rfl, ?_⟩; have n0_ := Aside0.mk (Kd.R_below (by (with_reducible repeat (first | apply Kd.R_alloc | apply Kd.R_drewN | apply Kd.R_drew)); exact HO181.out) hb); have n1_ := Aside0.mk (below_step (by repeat (first | (with_reducible first | exact HB.out | apply below_alloc | apply pw_below_drewN | apply below_drew1) | exact HB.out)) hb); clear HO181; clear HB; have HO181 := n0_; have HB := n1_; clear n0_ n1_; (try clear hb); (try clear hb2); (try clear hk); (try clear hi)))
                                      go_ret
                                      exact ⟨by first | rfl | (simp [errW_none, errW_some] <;> rfl) | (simp only [← hji4, ← hji31, ← hji35]; first | rfl | (simp [errW_none, errW_some] <;> rfl)) | (simp [*, errW_none, errW_some] <;> rfl), by repeat (first | (with_reducible first | exact HB.out | apply below_alloc | apply pw_below_drewN | apply below_drew1) | exact HB.out)⟩
                                    · rw [if_neg c47] at H
                                      have c47b0 : (t184 == 3) = false := beq_eq_false_iff_ne.mpr c47
                                      have c47b1 : (t184 != 3) = true := bne_iff_ne.mpr c47
                                      exact absurd HT.out (by rw [← Option.some.inj H]; decide)
                                  · rw [if_neg c46] at H
                                    have c46b0 : (t183 == t165) = false := beq_eq_false_iff_ne.mpr c46
                                    have c46b1 : (t183 != t165) = true := bne_iff_ne.mpr c46
                                    exact absurd HT.out (by rw [← Option.some.inj H]; decide)
                                · rw [if_neg c45] at H
                                  have c45b0 : (t164 == 0) = false := beq_eq_false_iff_ne.mpr c45
                                  have c45b1 : (t164 != 0) = true := bne_iff_ne.mpr c45
                                  exact absurd HT.out (by rw [← Option.some.inj H]; decide)
                              · rw [if_neg c44] at H
                                have c44b0 : (t166 == 3) = false := beq_eq_false_iff_ne.mpr c44
                                have c44b1 : (t166 != 3) = true := bne_iff_ne.mpr c44
                                exact absurd HT.out (by rw [← Option.some.inj H]; decide)
                            · replace c43 := Bool.eq_false_iff.mpr c43
                              subst c43
                              have H1 : (some false) = some r := by rw [if_neg (show ¬ (false = true) by decide)] at H; exact H
                              clear H
                              have H := H1
                              clear H1
                              exact absurd HT.out (by rw [← Option.some.inj H]; decide)
                          · rw [if_neg c41] at H
                            exact absurd H (by simp)
                        · rw [if_neg c40] at H
                          exact absurd H (by simp)
                      · rw [if_neg c38] at H
                        exact absurd H (by simp)
                    · rw [if_neg c37] at H
                      exact absurd H (by simp)
                  · rw [if_neg c36] at H
                    exact absurd H (by simp)
                · rw [if_neg c34] at H
                  exact absurd H (by simp)
              · rw [if_neg c33] at H
                exact absurd H (by simp)
            · rw [if_neg c32] at H
              exact absurd H (by simp)
    · rw [if_neg c6] at H
      exact absurd H (by simp)
  · rw [if_neg c5] at H
    exact absurd H (by simp)

/-- THE ONE PURE STATEMENT of transeptlaw01_NumberOne: yours. -/
def transeptlaw01_NumberOne.Pure : Prop := ∀ (l0 : List Int) (l1 : List Int), l0.length ≤ maxLen → l0.length * 1 ≤ 140737488351232 → (∀ x ∈ l0, (Lit.int .u8 x).wf = true) → l1.length ≤ maxLen → l1.length * 1 ≤ 140737488351232 → (∀ x ∈ l1, (Lit.int .u8 x).wf = true) → ∃ k, transeptlaw01_NumberOne.f k l0 l1 = some true
theorem transeptlaw01_NumberOne.walk (P : transeptlaw01_NumberOne.Pure) (a0 : Option Addr) (len0 cap0 : Nat) (z0 : List Int) (a1 : Option Addr) (len1 cap1 : Nat) (z1 : List Int) (w : World) (w0 : (a0 = none ∧ len0 = 0 ∧ cap0 = 0 ∧ z0 = []) ∨ ∃ x, a0 = some x ∧ len0 ≤ cap0 ∧ cap0 ≤ maxLen ∧ z0.length = cap0 ∧ (∀ i, i < z0.length → w.cell? (x.add i) = some (.int .u8 (z0.getD i 0))) ∧ ∀ n ∈ z0, (Lit.int .u8 n).wf = true) (y0 : len0 * 1 ≤ 140737488351232) (w1 : (a1 = none ∧ len1 = 0 ∧ cap1 = 0 ∧ z1 = []) ∨ ∃ x, a1 = some x ∧ len1 ≤ cap1 ∧ cap1 ≤ maxLen ∧ z1.length = cap1 ∧ (∀ i, i < z1.length → w.cell? (x.add i) = some (.int .u8 (z1.getD i 0))) ∧ ∀ n ∈ z1, (Lit.int .u8 n).wf = true) (y1 : len1 * 1 ≤ 140737488351232) :
    Calls Try.prog 4 #[.slice a0 len0 cap0, .slice a1 len1 cap1] w fun e w' => e = .returned (.bool true) ∧ Below w.heap.size w w' := by
  obtain ⟨l0, rfl, hr0, hm0, hw0, hc0⟩ := ReadsInt.ofRowC w0
  obtain ⟨l1, rfl, hr1, hm1, hw1, hc1⟩ := ReadsInt.ofRowC w1
  obtain ⟨k, h⟩ := P l0 l1 hm0 y0 hw0 hm1 y1 hw1
  refine (transeptlaw01_NumberOne.calls k _ _ l0 _ _ l1 true w (Kd.C_of_reads (d := (0 : Int)) (h1 := fun _ => rfl) hr0) hc0 (Kd.C_of_reads (d := (0 : Int)) (h1 := fun _ => rfl) hr1) hc1 rfl h).mono ?_
  rintro e w' ⟨rfl, hd⟩
  exact ⟨rfl, hd⟩

end Go.Proofs.Ythbhggpajgokcaa.Xa
