-- Written by a program of this session (wip/tools/xprint.py), in the manner of the print of the kit.
import Derived.Test.YthbhggpajgokcaaXax0
import Derived.Test.YthbhggpajgokcaaXax2
import Derived.Test.YthbhggpajgokcaaXax4
import Derived.Test.YthbhggpajgokcaaXax6
import Derived.Test.YthbhggpajgokcaaXax7
import Derived.Test.YthbhggpajgokcaaStr
import Derived.Test.YthbhggpajgokcaaGet
namespace Go.Proofs.Ythbhggpajgokcaa.Xa
open Go.RowKit Go.Proofs.Ythbhggpajgokcaa.Ext Go.Proofs.YthbhggpajgokcaaW.PrintWords Go.Proofs.YthbhggpajgokcaaW.PrintLast Go.Proofs.YthbhggpajgokcaaW.PrintMore
attribute [local go_sem] max2_int min2_int max_two min_two max_three min_three max_four min_four   -- for this text's walks alone
set_option linter.unusedVariables false
set_option linter.unusedSimpArgs false

/-! ### transeptlaw01_NumberReads: function 3 -/
def transeptlaw01_NumberReads.f (k : Nat) (l0 : List Int) (a1 : Int) : Option (Bool) := (transeptlaw01_shown.f k).bind fun t142 => (if 0 ≤ (mn (l0.length : Int) 500) then (if (mn (l0.length : Int) 500) ≤ (l0.length : Int) then ((some (([] : List Int) : List Int)).bind fun y144 => (if y144.length + (l0.take ((mn (l0.length : Int) 500) : Int).toNat).length < 140737488355328 then ((some (y144 ++ (l0.take ((mn (l0.length : Int) 500) : Int).toNat) : List Int)).bind fun y147 => ((number_Get.f y147).bind fun bt150 => ((transeptref01_Get.f k (strOfNums (l0.take ((mn (l0.length : Int) 500) : Int).toNat))).bind fun bt153 => ((number_Text.f k y147 a1).bind fun bt156 => ((transeptref01_Text.f k (strOfNums (l0.take ((mn (l0.length : Int) 500) : Int).toNat)) a1).bind fun bt159 => (if t142 = true then (if bt150.1 = bt153.1 then (if bt150.2.1 = bt153.2.1 then (if bt150.2.2 = bt153.2.2 then (if bt156.1.toList = bt159.1.toList then (if bt156.2.1 = bt159.2.1 then (if bt156.2.2 = bt159.2.2 then (some ((strOfNums y147).toList == (strOfNums (l0.take ((mn (l0.length : Int) 500) : Int).toNat)).toList)) else (some false)) else (some false)) else (some false)) else (some false)) else (some false)) else (some false)) else (some false))))))) else (none))) else (none)) else (none))
theorem transeptlaw01_NumberReads.mono : ∀ a0 a1 k, LeO (transeptlaw01_NumberReads.f k a0 a1) (transeptlaw01_NumberReads.f (k + 1) a0 a1) := by
  intro a0 a1 k
  unfold transeptlaw01_NumberReads.f
  repeat' first
      | (with_reducible exact number_Text.mono _ _ _)
      | (with_reducible exact transeptlaw01_shown.mono _)
      | (with_reducible exact transeptref01_Get.mono _ _)
      | (with_reducible exact transeptref01_Text.mono _ _ _)
      | (with_reducible exact LeO.refl _)
      | (with_reducible exact LeO.none _)
      | (with_reducible refine LeO.ite ?_ ?_)
      | (with_reducible refine LeO.bind ?_ (fun _ => ?_))
      | exact number_Text.mono _ _ _
      | exact transeptlaw01_shown.mono _
      | exact transeptref01_Get.mono _ _
      | exact transeptref01_Text.mono _ _ _
      | exact LeO.none _
      | refine LeO.ite ?_ ?_
      | refine LeO.bind ?_ (fun _ => ?_)
set_option maxHeartbeats 8000000 in
set_option maxRecDepth 100000 in
theorem transeptlaw01_NumberReads.calls (k : Nat) (A0 : Option Addr) (c0 : Nat) (l0 : List Int) (a1 : Int) (r : Bool) (w : World) (hr0 : Kd.C (Kd.int .u8) w A0 l0.length l0) (hc0 : l0.length ≤ c0) (hT_ : r = true) (h : transeptlaw01_NumberReads.f k l0 a1 = some r) :
    Calls Try.prog 3 #[.slice A0 l0.length c0, .int .i64 a1] w fun e w' => e = .returned (.bool r) ∧ Below w.heap.size w w' := by
  have HT := Aside0.mk hT_
  clear hT_
  have HR0 := Aside0.mk hr0
  have HC0 := Aside0.mk hc0
  clear hr0 hc0
  have HB := Aside0.mk (Below.refl w.heap.size w)
  have H : ((transeptlaw01_shown.f k).bind fun t142 => (if 0 ≤ (mn (l0.length : Int) 500) then (if (mn (l0.length : Int) 500) ≤ (l0.length : Int) then ((some (([] : List Int) : List Int)).bind fun y144 => (if y144.length + (l0.take ((mn (l0.length : Int) 500) : Int).toNat).length < 140737488355328 then ((some (y144 ++ (l0.take ((mn (l0.length : Int) 500) : Int).toNat) : List Int)).bind fun y147 => ((number_Get.f y147).bind fun bt150 => ((transeptref01_Get.f k (strOfNums (l0.take ((mn (l0.length : Int) 500) : Int).toNat))).bind fun bt153 => ((number_Text.f k y147 a1).bind fun bt156 => ((transeptref01_Text.f k (strOfNums (l0.take ((mn (l0.length : Int) 500) : Int).toNat)) a1).bind fun bt159 => (if t142 = true then (if bt150.1 = bt153.1 then (if bt150.2.1 = bt153.2.1 then (if bt150.2.2 = bt153.2.2 then (if bt156.1.toList = bt159.1.toList then (if bt156.2.1 = bt159.2.1 then (if bt156.2.2 = bt159.2.2 then (some ((strOfNums y147).toList == (strOfNums (l0.take ((mn (l0.length : Int) 500) : Int).toNat)).toList)) else (some false)) else (some false)) else (some false)) else (some false)) else (some false)) else (some false)) else (some false))))))) else (none))) else (none)) else (none))) = some r := h
  clear h
  replace H := Option.bind_eq_some_iff.mp H
  obtain ⟨t142, A30, H⟩ := H
  replace H : (if 0 ≤ (mn (l0.length : Int) 500) then (if (mn (l0.length : Int) 500) ≤ (l0.length : Int) then ((some (([] : List Int) : List Int)).bind fun y144 => (if y144.length + (l0.take ((mn (l0.length : Int) 500) : Int).toNat).length < 140737488355328 then ((some (y144 ++ (l0.take ((mn (l0.length : Int) 500) : Int).toNat) : List Int)).bind fun y147 => ((number_Get.f y147).bind fun bt150 => ((transeptref01_Get.f k (strOfNums (l0.take ((mn (l0.length : Int) 500) : Int).toNat))).bind fun bt153 => ((number_Text.f k y147 a1).bind fun bt156 => ((transeptref01_Text.f k (strOfNums (l0.take ((mn (l0.length : Int) 500) : Int).toNat)) a1).bind fun bt159 => (if t142 = true then (if bt150.1 = bt153.1 then (if bt150.2.1 = bt153.2.1 then (if bt150.2.2 = bt153.2.2 then (if bt156.1.toList = bt159.1.toList then (if bt156.2.1 = bt159.2.1 then (if bt156.2.2 = bt159.2.2 then (some ((strOfNums y147).toList == (strOfNums (l0.take ((mn (l0.length : Int) 500) : Int).toNat)).toList)) else (some false)) else (some false)) else (some false)) else (some false)) else (some false)) else (some false)) else (some false))))))) else (none))) else (none)) else (none)) = some r := H
  have A3 := Aside0.mk A30
  clear A30
  obtain ⟨ji4, hji4⟩ : ∃ j_ : Int, (mn (l0.length : Int) 500) = j_ := ⟨_, rfl⟩
  replace H : (if 0 ≤ (ji4) then (if (ji4) ≤ (l0.length : Int) then ((some (([] : List Int) : List Int)).bind fun y144 => (if y144.length + (l0.take ((ji4) : Int).toNat).length < 140737488355328 then ((some (y144 ++ (l0.take ((ji4) : Int).toNat) : List Int)).bind fun y147 => ((number_Get.f y147).bind fun bt150 => ((transeptref01_Get.f k (strOfNums (l0.take ((ji4) : Int).toNat))).bind fun bt153 => ((number_Text.f k y147 a1).bind fun bt156 => ((transeptref01_Text.f k (strOfNums (l0.take ((ji4) : Int).toNat)) a1).bind fun bt159 => (if t142 = true then (if bt150.1 = bt153.1 then (if bt150.2.1 = bt153.2.1 then (if bt150.2.2 = bt153.2.2 then (if bt156.1.toList = bt159.1.toList then (if bt156.2.1 = bt159.2.1 then (if bt156.2.2 = bt159.2.2 then (some ((strOfNums y147).toList == (strOfNums (l0.take ((ji4) : Int).toNat)).toList)) else (some false)) else (some false)) else (some false)) else (some false)) else (some false)) else (some false)) else (some false))))))) else (none))) else (none)) else (none)) = some r := by first | (rw [hji4] at H; exact H) | (simp only [hji4] at H ⊢; exact H)
  (try rw [hji4] at A3)
  (try (have hji4h : ji4 ≤ 500 := by (rw [← hji4]; unfold mn; (repeat' split) <;> omega)))
  (try (have hji4g : ji4 ≤ 64 := by omega))
  (try (have hji4l : 0 ≤ ji4 := by (rw [← hji4]; unfold mn; (repeat' split) <;> omega)))
  (try (have hji4m : 0 ≤ ji4 := by omega))
  have hji4_ : (if 500 < (l0.length : Int) then 500 else (l0.length : Int)) = ji4 := hji4
  by_cases c5 : 0 ≤ (ji4)
  · rw [if_pos c5] at H
    have c5b0 := eq_true c5
    have c5b1 : decide (0 ≤ (ji4)) = true := decide_eq_true c5
    clear c5
    by_cases c6 : (ji4) ≤ (l0.length : Int)
    · rw [if_pos c6] at H
      have c6b0 := eq_true c6
      have c6b1 : decide ((ji4) ≤ (l0.length : Int)) = true := decide_eq_true c6
      clear c6
      obtain ⟨y144, hy144⟩ : ∃ y_ : List Int, y_ = (([] : List Int)) := ⟨_, rfl⟩
      replace H : (if y144.length + (l0.take ((ji4) : Int).toNat).length < 140737488355328 then ((some (y144 ++ (l0.take ((ji4) : Int).toNat) : List Int)).bind fun y147 => ((number_Get.f y147).bind fun bt150 => ((transeptref01_Get.f k (strOfNums (l0.take ((ji4) : Int).toNat))).bind fun bt153 => ((number_Text.f k y147 a1).bind fun bt156 => ((transeptref01_Text.f k (strOfNums (l0.take ((ji4) : Int).toNat)) a1).bind fun bt159 => (if t142 = true then (if bt150.1 = bt153.1 then (if bt150.2.1 = bt153.2.1 then (if bt150.2.2 = bt153.2.2 then (if bt156.1.toList = bt159.1.toList then (if bt156.2.1 = bt159.2.1 then (if bt156.2.2 = bt159.2.2 then (some ((strOfNums y147).toList == (strOfNums (l0.take ((ji4) : Int).toNat)).toList)) else (some false)) else (some false)) else (some false)) else (some false)) else (some false)) else (some false)) else (some false))))))) else (none)) = some r := by first | (rw [hy144]; with_reducible exact H) | (have H2_ := (Option.bind_some _ _).symm.trans H; rw [hy144]; with_reducible exact H2_) | (have H2_ := (Option.bind_some _ _).symm.trans H; with_reducible exact H2_) | with_reducible exact H | (rw [hy144]; exact H) | exact H
      have Ny144 := Aside0.mk hy144
      clear hy144
      by_cases c7 : y144.length + (l0.take ((ji4) : Int).toNat).length < 140737488355328
      · rw [if_pos c7] at H
        have LMc7 := Aside0.mk c7
        clear c7
        obtain ⟨y147, hy147⟩ : ∃ y_ : List Int, y_ = (y144 ++ (l0.take ((ji4) : Int).toNat)) := ⟨_, rfl⟩
        replace H : ((number_Get.f y147).bind fun bt150 => ((transeptref01_Get.f k (strOfNums (l0.take ((ji4) : Int).toNat))).bind fun bt153 => ((number_Text.f k y147 a1).bind fun bt156 => ((transeptref01_Text.f k (strOfNums (l0.take ((ji4) : Int).toNat)) a1).bind fun bt159 => (if t142 = true then (if bt150.1 = bt153.1 then (if bt150.2.1 = bt153.2.1 then (if bt150.2.2 = bt153.2.2 then (if bt156.1.toList = bt159.1.toList then (if bt156.2.1 = bt159.2.1 then (if bt156.2.2 = bt159.2.2 then (some ((strOfNums y147).toList == (strOfNums (l0.take ((ji4) : Int).toNat)).toList)) else (some false)) else (some false)) else (some false)) else (some false)) else (some false)) else (some false)) else (some false)))))) = some r := by first | (rw [hy147]; with_reducible exact H) | (have H2_ := (Option.bind_some _ _).symm.trans H; rw [hy147]; with_reducible exact H2_) | (have H2_ := (Option.bind_some _ _).symm.trans H; with_reducible exact H2_) | with_reducible exact H | (rw [hy147]; exact H) | exact H
        have Ny147 := Aside0.mk hy147
        clear hy147
        replace H := Option.bind_eq_some_iff.mp H
        obtain ⟨⟨t150, t151, t152⟩, A80, H⟩ := H
        replace H : ((transeptref01_Get.f k (strOfNums (l0.take ((ji4) : Int).toNat))).bind fun bt153 => ((number_Text.f k y147 a1).bind fun bt156 => ((transeptref01_Text.f k (strOfNums (l0.take ((ji4) : Int).toNat)) a1).bind fun bt159 => (if t142 = true then (if t150 = bt153.1 then (if t151 = bt153.2.1 then (if t152 = bt153.2.2 then (if bt156.1.toList = bt159.1.toList then (if bt156.2.1 = bt159.2.1 then (if bt156.2.2 = bt159.2.2 then (some ((strOfNums y147).toList == (strOfNums (l0.take ((ji4) : Int).toNat)).toList)) else (some false)) else (some false)) else (some false)) else (some false)) else (some false)) else (some false)) else (some false))))) = some r := H
        have A8 := Aside0.mk A80
        clear A80
        replace H := Option.bind_eq_some_iff.mp H
        obtain ⟨⟨t153, t154, t155⟩, A90, H⟩ := H
        replace H : ((number_Text.f k y147 a1).bind fun bt156 => ((transeptref01_Text.f k (strOfNums (l0.take ((ji4) : Int).toNat)) a1).bind fun bt159 => (if t142 = true then (if t150 = t153 then (if t151 = t154 then (if t152 = t155 then (if bt156.1.toList = bt159.1.toList then (if bt156.2.1 = bt159.2.1 then (if bt156.2.2 = bt159.2.2 then (some ((strOfNums y147).toList == (strOfNums (l0.take ((ji4) : Int).toNat)).toList)) else (some false)) else (some false)) else (some false)) else (some false)) else (some false)) else (some false)) else (some false)))) = some r := H
        have A9 := Aside0.mk A90
        clear A90
        replace H := Option.bind_eq_some_iff.mp H
        obtain ⟨⟨t156, t157, t158⟩, A100, H⟩ := H
        replace H : ((transeptref01_Text.f k (strOfNums (l0.take ((ji4) : Int).toNat)) a1).bind fun bt159 => (if t142 = true then (if t150 = t153 then (if t151 = t154 then (if t152 = t155 then (if t156.toList = bt159.1.toList then (if t157 = bt159.2.1 then (if t158 = bt159.2.2 then (some ((strOfNums y147).toList == (strOfNums (l0.take ((ji4) : Int).toNat)).toList)) else (some false)) else (some false)) else (some false)) else (some false)) else (some false)) else (some false)) else (some false))) = some r := H
        have A10 := Aside0.mk A100
        clear A100
        replace H := Option.bind_eq_some_iff.mp H
        obtain ⟨⟨t159, t160, t161⟩, A110, H⟩ := H
        replace H : (if t142 = true then (if t150 = t153 then (if t151 = t154 then (if t152 = t155 then (if t156.toList = t159.toList then (if t157 = t160 then (if t158 = t161 then (some ((strOfNums y147).toList == (strOfNums (l0.take ((ji4) : Int).toNat)).toList)) else (some false)) else (some false)) else (some false)) else (some false)) else (some false)) else (some false)) else (some false)) = some r := H
        have A11 := Aside0.mk A110
        clear A110
        by_cases c12 : t142 = true
        · subst c12
          have H1 : (if t150 = t153 then (if t151 = t154 then (if t152 = t155 then (if t156.toList = t159.toList then (if t157 = t160 then (if t158 = t161 then (some ((strOfNums y147).toList == (strOfNums (l0.take ((ji4) : Int).toNat)).toList)) else (some false)) else (some false)) else (some false)) else (some false)) else (some false)) else (some false)) = some r := by rw [if_pos rfl] at H; exact H
          clear H
          have H := H1
          clear H1
          by_cases c13 : t150 = t153
          · rw [if_pos c13] at H
            have c13b0 : (t150 == t153) = true := beq_iff_eq.mpr c13
            have c13b1 : (t150 != t153) = false := bne_eq_false_iff_eq.mpr c13
            clear c13
            by_cases c14 : t151 = t154
            · rw [if_pos c14] at H
              have c14b0 : (t151 == t154) = true := beq_iff_eq.mpr c14
              have c14b1 : (t151 != t154) = false := bne_eq_false_iff_eq.mpr c14
              clear c14
              by_cases c15 : t152 = t155
              · rw [if_pos c15] at H
                have c15b0 : (t152 == t155) = true := beq_iff_eq.mpr c15
                have c15b1 : (t152 != t155) = false := bne_eq_false_iff_eq.mpr c15
                clear c15
                by_cases c16 : t156.toList = t159.toList
                · rw [if_pos c16] at H
                  have c16b0 : (t156.toList == t159.toList) = true := beq_iff_eq.mpr c16
                  have c16b1 : (t156.toList != t159.toList) = false := bne_eq_false_iff_eq.mpr c16
                  clear c16
                  by_cases c17 : t157 = t160
                  · rw [if_pos c17] at H
                    have c17b0 : (t157 == t160) = true := beq_iff_eq.mpr c17
                    have c17b1 : (t157 != t160) = false := bne_eq_false_iff_eq.mpr c17
                    clear c17
                    by_cases c18 : t158 = t161
                    · rw [if_pos c18] at H
                      have c18b0 : (t158 == t161) = true := beq_iff_eq.mpr c18
                      have c18b1 : (t158 != t161) = false := bne_eq_false_iff_eq.mpr c18
                      clear c18
                      obtain rfl := Option.some.inj H
                      go_enter Try.func3, Try.ntmps3
                      go_wp2_with (first | ((with_reducible refine gate_callee (f := 10) rfl ?_); refine goesL_ (some 19) rfl rfl Try.func10 (by kernel_rfl) rfl #[] rfl (by (try simp only [List.map_toArray, List.map_cons, List.map_nil]); first | done | rfl | (simp only [List.length_drop, List.length_take]; rfl)) ?_; (with_reducible refine (transeptlaw01_shown.calls k  true _ A3.out).mono ?_); rintro e w19 ⟨rfl, hb⟩; refine ⟨_, rfl, ?_⟩; have n0_ := Aside0.mk (below_step (by repeat (first | (with_reducible first | exact HB.out | apply below_alloc | apply pw_below_drewN | apply below_drew1) | exact HB.out)) hb); clear HB; have HB := n0_; clear n0_; (try clear hb); (try clear hb2); (try clear hk); (try clear hi); obtain ⟨i020, hi020, _, hsz20, _⟩ := info_parts info5; obtain ⟨hcut20, hA20, hC20⟩ := print_take_of (P := Try.prog) (Value.int .u8) 0 22 5 .i64 Try.underlying22 hi020 hsz20 A0 c0 l0 (ji4) (of_decide_eq_true (by first | (with_reducible assumption) | assumption)) (of_decide_eq_true (by first | (with_reducible assumption) | assumption)) HC0.out; have hl20 := Aside0.mk (show (l0.take ((ji4) : Int).toNat).length = ((ji4) : Int).toNat from by have q0_ : 0 ≤ (ji4) := (of_decide_eq_true (by first | (with_reducible assumption) | assumption)); have q1_ : (ji4) ≤ (l0.length : Int) := (of_decide_eq_true (by first | (with_reducible assumption) | assumption)); (try simp only [List.length_drop, List.length_take] at q0_ q1_); (try simp only [List.length_drop, List.length_take] at q2_); simp only [List.length_drop, List.length_take]; first | done | omega); (try rw [hl20.out] at hcut20); have HR143 := Aside0.mk (Kd.C_of_reads (h1 := fun _ => rfl) (hA20 _ (Kd.reads_of_C HR0.out))); have HC143 := Aside0.mk hC20; clear hA20 hC20 hi020 hsz20) | ((with_reducible refine gate_dst (N := 25) rfl ?_); refine Kd.R_lit (Kd.int .u8) _ 5 ?hg (N := 25) ?hd (xs := ([] : List Int)) (inner := []) (ok := fun _ => True) (okp := fun _ => True) ?hr ?hp (fun _ hk => hk) trivial (Below.refl _ _) (Nat.le_refl _) (by simp) ?_; (case hd => rfl); (case hg => rfl); (case hr => first | (go_simp; done) | (go_simp; rfl)); (case hp => exact (Reps.none _ _)); intro v145 w21 ho22 hb hg_ hnew_; clear hg_ hnew_; (first | rw [← Ny144.out] at ho22 | (simp only [Int.reduceToNat] at ho22; rw [← Ny144.out] at ho22)); have n0_ := Aside0.mk (Kd.R_lower ho22 (below_size (by repeat (first | (with_reducible first | exact HB.out | apply below_alloc | apply pw_below_drewN | apply below_drew1) | exact HB.out)))); have n1_ := Aside0.mk (below_step (by repeat (first | (with_reducible first | exact HB.out | apply below_alloc | apply pw_below_drewN | apply below_drew1) | exact HB.out)) hb); clear HB; have HO146 := n0_; have HB := n1_; clear n0_ n1_; clear hb ho22) | ((with_reducible refine gate_builtin (b := .append) (xs := #[.tmp 25, .tmp 26]) rfl ?_); at_builtin; refine Kd.R_append_rows (Kd.int .u8) (w0 := w) w.heap.size rfl (.tmp 25) (.tmp 26) 22 5 (.int .u8 0) 1 rfl Try.underlying22 info5 rfl (by decide) (by omega) v145 y144 (l0.take ((ji4) : Int).toNat) _ _ _ (fun _ => True) (fun _ => False) rfl rfl ?aO ?aR (fun _ _ h => h) (fun _ h => h.elim) ?aF ?aB ?aS ?aL ?_; (case aR => first | (refine Kd_C_len (show (l0.take ((ji4) : Int).toNat).length = (ji4).toNat from (by rw [List.length_take]; have h_ : ((ji4) : Int) ≤ (l0.length : Int) := of_decide_eq_true (by first | (with_reducible assumption) | assumption); omega)) ?_; repeat (first | exact (Kd.C_below HR143.out HB.out) | (with_reducible refine Kd.C_alloc ?_ _) | (with_reducible refine Kd.C_drewN ?_ _) | (with_reducible refine Kd.C_drew ?_))) | (repeat (first | exact (Kd.C_below HR143.out HB.out) | (with_reducible refine Kd.C_alloc ?_ _) | (with_reducible refine Kd.C_drewN ?_ _) | (with_reducible refine Kd.C_drew ?_)))); (case aB => exact (by repeat (first | (with_reducible first | exact HB.out | apply below_alloc | apply pw_below_drewN | apply below_drew1) | exact HB.out))); (case aF => exact (fun _ _ => trivial)); (case aO => exact (by (with_reducible repeat (first | apply Kd.R_alloc | apply Kd.R_drewN | apply Kd.R_drew)); exact HO146.out)); (case aS => exact (below_size (by repeat (first | (with_reducible first | exact HB.out | apply below_alloc | apply pw_below_drewN | apply below_drew1) | exact HB.out)))); (case aL => have := LMc7.out; have hlx_ := (show (l0.take ((ji4) : Int).toNat).length = (ji4).toNat from (by rw [List.length_take]; have h_ : ((ji4) : Int) ≤ (l0.length : Int) := of_decide_eq_true (by first | (with_reducible assumption) | assumption); omega)); omega); intro v148 w23 ho hb hg hat; rw [← Ny147.out] at ho; have n0_ := Aside0.mk (hb); have n1_ := Aside0.mk (ho); clear HB; clear HO146; have HB := n0_; have HO149 := n1_; clear n0_ n1_; clear ho hb hg hat; obtain ⟨Ao24, co24, eo24⟩ := Kd.R_slice HO149.out; subst eo24) | ((with_reducible refine gate_callee (f := 11) rfl ?_); refine goesL_ (some 30) rfl rfl Try.func11 (by kernel_rfl) rfl #[.slice Ao24 y147.length co24] rfl (by (try simp only [List.map_toArray, List.map_cons, List.map_nil]); first | done | rfl | (simp only [List.length_drop, List.length_take]; rfl)) ?_; (with_reducible refine (number_Get.calls _ _ y147 t150 t151 t152 _ ?side1 ?side2 A8.out).mono ?_); (case side1 => repeat (first | exact (Kd.R_reads' HO149.out).2.2 | (with_reducible refine Kd.C_alloc ?_ _) | (with_reducible refine Kd.C_drewN ?_ _) | (with_reducible refine Kd.C_drew ?_))); (case side2 => exact (Kd.R_reads' HO149.out).2.1); rintro e w25 ⟨rfl, hb⟩; refine ⟨_, rfl, ?_⟩; have n0_ := Aside0.mk (Kd.R_below (by (with_reducible repeat (first | apply Kd.R_alloc | apply Kd.R_drewN | apply Kd.R_drew)); exact HO149.out) hb); have n1_ := Aside0.mk (below_step (by repeat (first | (with_reducible first | exact HB.out | apply below_alloc | apply pw_below_drewN | apply below_drew1) | exact HB.out)) hb); clear HO149; clear HB; have HO149 := n0_; have HB := n1_; clear n0_ n1_; (try clear hb); (try clear hb2); (try clear hk); (try clear hi); have hcv26 := Kd.C_string (P := Try.prog) (A := A0) (c := c0) Try.underlying22 Try.underlying5 Try.underlying9 (Kd.C_below HR143.out HB.out); (try rw [hl20.out] at hcv26); (try have hcv26d := fun n_ : Nat => Kd.C_string (P := Try.prog) (A := A0) (c := c0) Try.underlying22 Try.underlying5 Try.underlying9 (Kd_C_len (n := ((ji4) : Int).toNat) hl20.out (Kd.C_drewN (Kd.C_below HR143.out HB.out) n_)))) | ((with_reducible refine gate_callee (f := 12) rfl ?_); refine goesL_ (some 37) rfl rfl Try.func12 (by kernel_rfl) rfl #[.string (strOfNums (l0.take ((ji4) : Int).toNat))] rfl (by (try simp only [List.map_toArray, List.map_cons, List.map_nil]); first | done | (simp only [hji4]; rfl) | rfl | (simp only [List.length_drop, List.length_take]; rfl)) ?_; (with_reducible refine (transeptref01_Get.calls k (strOfNums (l0.take ((ji4) : Int).toNat)) t153 t154 t155 _ A9.out).mono ?_); rintro e w' ⟨rfl, ⟨nd, rfl⟩⟩; refine ⟨_, rfl, ?_⟩) | ((with_reducible refine gate_callee (f := 13) rfl ?_); refine goesL_ (some 44) rfl rfl Try.func13 (by kernel_rfl) rfl #[.slice Ao24 y147.length co24, .int .i64 a1] rfl (by (try simp only [List.map_toArray, List.map_cons, List.map_nil]); first | done | rfl | (simp only [List.length_drop, List.length_take]; rfl)) ?_; (with_reducible refine (number_Text.calls k _ _ y147 a1 t156 t157 t158 _ ?side1 ?side2 A10.out).mono ?_); (case side1 => repeat (first | exact (Kd.R_reads' HO149.out).2.2 | (with_reducible refine Kd.C_alloc ?_ _) | (with_reducible refine Kd.C_drewN ?_ _) | (with_reducible refine Kd.C_drew ?_))); (case side2 => exact (Kd.R_reads' HO149.out).2.1); rintro e w27 ⟨rfl, hb⟩; refine ⟨_, rfl, ?_⟩; have n0_ := Aside0.mk (Kd.R_below (by (with_reducible repeat (first | apply Kd.R_alloc | apply Kd.R_drewN | apply Kd.R_drew)); exact HO149.out) hb); have n1_ := Aside0.mk (below_step (by repeat (first | (with_reducible first | exact HB.out | apply below_alloc | apply pw_below_drewN | apply below_drew1) | exact HB.out)) hb); clear HO149; clear HB; have HO149 := n0_; have HB := n1_; clear n0_ n1_; (try clear hb); (try clear hb2); (try clear hk); (try clear hi); have hcv28 := Kd.C_string (P := Try.prog) (A := A0) (c := c0) Try.underlying22 Try.underlying5 Try.underlying9 (Kd.C_below HR143.out HB.out); (try rw [hl20.out] at hcv28); (try have hcv28d := fun n_ : Nat => Kd.C_string (P := Try.prog) (A := A0) (c := c0) Try.underlying22 Try.underlying5 Try.underlying9 (Kd_C_len (n := ((ji4) : Int).toNat) hl20.out (Kd.C_drewN (Kd.C_below HR143.out HB.out) n_)))) | ((with_reducible refine gate_callee (f := 14) rfl ?_); refine goesL_ (some 52) rfl rfl Try.func14 (by kernel_rfl) rfl #[.string (strOfNums (l0.take ((ji4) : Int).toNat)), .int .i64 a1] rfl (by (try simp only [List.map_toArray, List.map_cons, List.map_nil]); first | done | (simp only [hji4]; rfl) | rfl | (simp only [List.length_drop, List.length_take]; rfl)) ?_; (with_reducible refine (transeptref01_Text.calls k (strOfNums (l0.take ((ji4) : Int).toNat)) a1 t159 t160 t161 _ A11.out).mono ?_); rintro e w' ⟨rfl, ⟨nd, rfl⟩⟩; refine ⟨_, rfl, ?_⟩; have hcv29 := own_string (P := Try.prog) Try.underlying22 Try.underlying5 Try.underlying9 (Kd.own_of_R HO149.out); (try have hcv29d := fun n_ : Nat => own_string (P := Try.prog) Try.underlying22 Try.underlying5 Try.underlying9 (Kd.own_of_R (Kd.R_drewN HO149.out n_))); have hcv30 := Kd.C_string (P := Try.prog) (A := A0) (c := c0) Try.underlying22 Try.underlying5 Try.underlying9 (Kd.C_below HR143.out HB.out); (try rw [hl20.out] at hcv30); (try have hcv30d := fun n_ : Nat => Kd.C_string (P := Try.prog) (A := A0) (c := c0) Try.underlying22 Try.underlying5 Try.underlying9 (Kd_C_len (n := ((ji4) : Int).toNat) hl20.out (Kd.C_drewN (Kd.C_below HR143.out HB.out) n_)))))
                      go_ret
                      exact ⟨by first | rfl | (simp [errW_none, errW_some] <;> rfl) | (simp only [← hji4]; first | rfl | (simp [errW_none, errW_some] <;> rfl)) | (simp [*, errW_none, errW_some] <;> rfl), by repeat (first | (with_reducible first | exact HB.out | apply below_alloc | apply pw_below_drewN | apply below_drew1) | exact HB.out)⟩
                    · rw [if_neg c18] at H
                      have c18b0 : (t158 == t161) = false := beq_eq_false_iff_ne.mpr c18
                      have c18b1 : (t158 != t161) = true := bne_iff_ne.mpr c18
                      exact absurd HT.out (by rw [← Option.some.inj H]; decide)
                  · rw [if_neg c17] at H
                    have c17b0 : (t157 == t160) = false := beq_eq_false_iff_ne.mpr c17
                    have c17b1 : (t157 != t160) = true := bne_iff_ne.mpr c17
                    exact absurd HT.out (by rw [← Option.some.inj H]; decide)
                · rw [if_neg c16] at H
                  have c16b0 : (t156.toList == t159.toList) = false := beq_eq_false_iff_ne.mpr c16
                  have c16b1 : (t156.toList != t159.toList) = true := bne_iff_ne.mpr c16
                  exact absurd HT.out (by rw [← Option.some.inj H]; decide)
              · rw [if_neg c15] at H
                have c15b0 : (t152 == t155) = false := beq_eq_false_iff_ne.mpr c15
                have c15b1 : (t152 != t155) = true := bne_iff_ne.mpr c15
                exact absurd HT.out (by rw [← Option.some.inj H]; decide)
            · rw [if_neg c14] at H
              have c14b0 : (t151 == t154) = false := beq_eq_false_iff_ne.mpr c14
              have c14b1 : (t151 != t154) = true := bne_iff_ne.mpr c14
              exact absurd HT.out (by rw [← Option.some.inj H]; decide)
          · rw [if_neg c13] at H
            have c13b0 : (t150 == t153) = false := beq_eq_false_iff_ne.mpr c13
            have c13b1 : (t150 != t153) = true := bne_iff_ne.mpr c13
            exact absurd HT.out (by rw [← Option.some.inj H]; decide)
        · replace c12 := Bool.eq_false_iff.mpr c12
          subst c12
          have H1 : (some false) = some r := by rw [if_neg (show ¬ (false = true) by decide)] at H; exact H
          clear H
          have H := H1
          clear H1
          exact absurd HT.out (by rw [← Option.some.inj H]; decide)
      · rw [if_neg c7] at H
        exact absurd H (by simp)
    · rw [if_neg c6] at H
      exact absurd H (by simp)
  · rw [if_neg c5] at H
    exact absurd H (by simp)

/-- THE ONE PURE STATEMENT of transeptlaw01_NumberReads: yours. -/
def transeptlaw01_NumberReads.Pure : Prop := ∀ (l0 : List Int) (a1 : Int), l0.length ≤ maxLen → l0.length * 1 ≤ 140737488351232 → (∀ x ∈ l0, (Lit.int .u8 x).wf = true) → (Lit.int .i64 a1).wf = true → ∃ k, transeptlaw01_NumberReads.f k l0 a1 = some true
theorem transeptlaw01_NumberReads.walk (P : transeptlaw01_NumberReads.Pure) (a0 : Option Addr) (len0 cap0 : Nat) (z0 : List Int) (a1 : Int) (w : World) (w0 : (a0 = none ∧ len0 = 0 ∧ cap0 = 0 ∧ z0 = []) ∨ ∃ x, a0 = some x ∧ len0 ≤ cap0 ∧ cap0 ≤ maxLen ∧ z0.length = cap0 ∧ (∀ i, i < z0.length → w.cell? (x.add i) = some (.int .u8 (z0.getD i 0))) ∧ ∀ n ∈ z0, (Lit.int .u8 n).wf = true) (y0 : len0 * 1 ≤ 140737488351232) (w1 : (Lit.int .i64 a1).wf = true) :
    Calls Try.prog 3 #[.slice a0 len0 cap0, .int .i64 a1] w fun e w' => e = .returned (.bool true) ∧ Below w.heap.size w w' := by
  obtain ⟨l0, rfl, hr0, hm0, hw0, hc0⟩ := ReadsInt.ofRowC w0
  obtain ⟨k, h⟩ := P l0 a1 hm0 y0 hw0 w1
  refine (transeptlaw01_NumberReads.calls k _ _ l0 a1 true w (Kd.C_of_reads (d := (0 : Int)) (h1 := fun _ => rfl) hr0) hc0 rfl h).mono ?_
  rintro e w' ⟨rfl, hd⟩
  exact ⟨rfl, hd⟩

end Go.Proofs.Ythbhggpajgokcaa.Xa
