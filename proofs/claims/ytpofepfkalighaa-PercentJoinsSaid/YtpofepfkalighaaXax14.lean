-- Written by a program of this session (wip/tools/xprint.py), in the manner of the print of the kit.
import Derived.Test.YtpofepfkalighaaXax0
import Derived.Test.YtpofepfkalighaaXax4
import Derived.Test.YtpofepfkalighaaExt
namespace Go.Proofs.Ytpofepfkalighaa.Xa
open Go.RowKit Go.Proofs.Ytpofepfkalighaa.Ext Go.Proofs.YtpofepfkalighaaW.PrintWords Go.Proofs.YtpofepfkalighaaW.PrintLast Go.Proofs.YtpofepfkalighaaW.PrintMore
attribute [local go_sem] max2_int min2_int max_two min_two max_three min_three max_four min_four   -- for this text's walks alone
set_option linter.unusedVariables false
set_option linter.unusedSimpArgs false

/-! ### transeptlaw06_PercentJoins: function 6 -/
def transeptlaw06_PercentJoins.l0 : Nat → Int → ByteArray → ByteArray → Bool → Bool → Int → Option (Bool)
  | 0, _, _, _, _, _, _ => none
  | k + 1, x0, x1, x2, x7, x8, x9 => if x9 < (x1.size : Int) then (if x8 = true then (transeptlaw06_PercentJoins.l0 k x0 x1 x2 x7 true (wrap64 (x9 + 1))) else (if 0 ≤ x9 then (transeptlaw06_PercentJoins.l0 k x0 x1 x2 x7 ((bt x1 x9) == 37) (wrap64 (x9 + 1))) else (none))) else (if x7 = true then (if x1.size + x2.size ≤ 9223372036854775807 then ((percent_Encode.f x0 (x1 ++ x2)).bind fun t158 => ((percent_Encode.f x0 x1).bind fun t159 => ((percent_Encode.f x0 x2).bind fun t160 => (if t159.size + t160.size ≤ 9223372036854775807 then (if t158.toList = (t159 ++ t160).toList then (if x8 = true then (some true) else ((percent_Decode.f (x1 ++ x2)).bind fun t161 => ((percent_Decode.f x1).bind fun t162 => ((percent_Decode.f x2).bind fun t163 => (if t162.size + t163.size ≤ 9223372036854775807 then (some (t161.toList == (t162 ++ t163).toList)) else (none)))))) else (some false)) else (none))))) else (none)) else (some false))
def transeptlaw06_PercentJoins.f (k : Nat) (a0 : Int) (a1 : ByteArray) (a2 : ByteArray) : Option (Bool) := (transeptlaw06_shown.f).bind fun t157 => (if 0 ≤ (mn (a1.size : Int) 500) then (if (mn (a1.size : Int) 500) ≤ (a1.size : Int) then (if 0 ≤ (mn (a2.size : Int) 500) then (if (mn (a2.size : Int) 500) ≤ (a2.size : Int) then (transeptlaw06_PercentJoins.l0 k a0 (a1.extract 0 ((mn (a1.size : Int) 500) : Int).toNat) (a2.extract 0 ((mn (a2.size : Int) 500) : Int).toNat) t157 false (mx 0 (wrap64 (((a1.extract 0 ((mn (a1.size : Int) 500) : Int).toNat).size : Int) - 2)))) else (none)) else (none)) else (none)) else (none))
theorem transeptlaw06_PercentJoins.mono_l : ∀ k, (∀ y0 y1 y2 y3 y4 y5, LeO (transeptlaw06_PercentJoins.l0 k y0 y1 y2 y3 y4 y5) (transeptlaw06_PercentJoins.l0 (k + 1) y0 y1 y2 y3 y4 y5))
  | 0 => fun _ _ _ _ _ _ r h => by simp [transeptlaw06_PercentJoins.l0] at h
  | k + 1 => by
    have ih0 := transeptlaw06_PercentJoins.mono_l k
    · intro y0 y1 y2 y3 y4 y5
      unfold transeptlaw06_PercentJoins.l0
      repeat' first
      | (with_reducible exact ih0 _ _ _ _ _ _)
      | (with_reducible exact LeO.refl _)
      | (with_reducible exact LeO.none _)
      | (with_reducible refine LeO.ite ?_ ?_)
      | (with_reducible refine LeO.bind ?_ (fun _ => ?_))
      | exact ih0 _ _ _ _ _ _
      | exact LeO.none _
      | refine LeO.ite ?_ ?_
      | refine LeO.bind ?_ (fun _ => ?_)
theorem transeptlaw06_PercentJoins.mono : ∀ a0 a1 a2 k, LeO (transeptlaw06_PercentJoins.f k a0 a1 a2) (transeptlaw06_PercentJoins.f (k + 1) a0 a1 a2) := by
  intro a0 a1 a2 k
  have ih0 := transeptlaw06_PercentJoins.mono_l k
  unfold transeptlaw06_PercentJoins.f
  repeat' first
      | (with_reducible exact ih0 _ _ _ _ _ _)
      | (with_reducible exact LeO.refl _)
      | (with_reducible exact LeO.none _)
      | (with_reducible refine LeO.ite ?_ ?_)
      | (with_reducible refine LeO.bind ?_ (fun _ => ?_))
      | exact ih0 _ _ _ _ _ _
      | exact LeO.none _
      | refine LeO.ite ?_ ?_
      | refine LeO.bind ?_ (fun _ => ?_)
set_option maxHeartbeats 8000000 in
set_option maxRecDepth 100000 in
theorem transeptlaw06_PercentJoins.calls (k : Nat) (a0 : Int) (a1 : ByteArray) (a2 : ByteArray) (r : Bool) (w : World) (hT_ : r = true) (h : transeptlaw06_PercentJoins.f k a0 a1 a2 = some r) :
    Calls Try.prog 6 #[.int .i64 a0, .string a1, .string a2] w fun e w' => e = .returned (.bool r) ∧ Below w.heap.size w w' := by
  have HT := Aside0.mk hT_
  clear hT_
  have HB := Aside0.mk (Below.refl w.heap.size w)
  have H : ((transeptlaw06_shown.f).bind fun t157 => (if 0 ≤ (mn (a1.size : Int) 500) then (if (mn (a1.size : Int) 500) ≤ (a1.size : Int) then (if 0 ≤ (mn (a2.size : Int) 500) then (if (mn (a2.size : Int) 500) ≤ (a2.size : Int) then (transeptlaw06_PercentJoins.l0 k a0 (a1.extract 0 ((mn (a1.size : Int) 500) : Int).toNat) (a2.extract 0 ((mn (a2.size : Int) 500) : Int).toNat) t157 false (mx 0 (wrap64 (((a1.extract 0 ((mn (a1.size : Int) 500) : Int).toNat).size : Int) - 2)))) else (none)) else (none)) else (none)) else (none))) = some r := h
  clear h
  replace H := Option.bind_eq_some_iff.mp H
  obtain ⟨t157, A40, H⟩ := H
  replace H : (if 0 ≤ (mn (a1.size : Int) 500) then (if (mn (a1.size : Int) 500) ≤ (a1.size : Int) then (if 0 ≤ (mn (a2.size : Int) 500) then (if (mn (a2.size : Int) 500) ≤ (a2.size : Int) then (transeptlaw06_PercentJoins.l0 k a0 (a1.extract 0 ((mn (a1.size : Int) 500) : Int).toNat) (a2.extract 0 ((mn (a2.size : Int) 500) : Int).toNat) t157 false (mx 0 (wrap64 (((a1.extract 0 ((mn (a1.size : Int) 500) : Int).toNat).size : Int) - 2)))) else (none)) else (none)) else (none)) else (none)) = some r := H
  have A4 := Aside0.mk A40
  clear A40
  obtain ⟨ji5, hji5⟩ : ∃ j_ : Int, (mn (a1.size : Int) 500) = j_ := ⟨_, rfl⟩
  replace H : (if 0 ≤ (ji5) then (if (ji5) ≤ (a1.size : Int) then (if 0 ≤ (mn (a2.size : Int) 500) then (if (mn (a2.size : Int) 500) ≤ (a2.size : Int) then (transeptlaw06_PercentJoins.l0 k a0 (a1.extract 0 ((ji5) : Int).toNat) (a2.extract 0 ((mn (a2.size : Int) 500) : Int).toNat) t157 false (mx 0 (wrap64 (((a1.extract 0 ((ji5) : Int).toNat).size : Int) - 2)))) else (none)) else (none)) else (none)) else (none)) = some r := by first | (rw [hji5] at H; exact H) | (simp only [hji5] at H ⊢; exact H)
  (try rw [hji5] at A4)
  (try (have hji5h : ji5 ≤ 500 := by (rw [← hji5]; unfold mn; (repeat' split) <;> omega)))
  (try (have hji5g : ji5 ≤ 64 := by omega))
  (try (have hji5l : 0 ≤ ji5 := by (rw [← hji5]; unfold mn; (repeat' split) <;> omega)))
  (try (have hji5m : 0 ≤ ji5 := by omega))
  have hji5_ : (if 500 < (a1.size : Int) then 500 else (a1.size : Int)) = ji5 := hji5
  by_cases c6 : 0 ≤ (ji5)
  · rw [if_pos c6] at H
    have c6b0 := eq_true c6
    have c6b1 : decide (0 ≤ (ji5)) = true := decide_eq_true c6
    clear c6
    by_cases c7 : (ji5) ≤ (a1.size : Int)
    · rw [if_pos c7] at H
      have c7b0 := eq_true c7
      have c7b1 : decide ((ji5) ≤ (a1.size : Int)) = true := decide_eq_true c7
      clear c7
      obtain ⟨ji8, hji8⟩ : ∃ j_ : Int, (mn (a2.size : Int) 500) = j_ := ⟨_, rfl⟩
      replace H : (if 0 ≤ (ji8) then (if (ji8) ≤ (a2.size : Int) then (transeptlaw06_PercentJoins.l0 k a0 (a1.extract 0 ((ji5) : Int).toNat) (a2.extract 0 ((ji8) : Int).toNat) t157 false (mx 0 (wrap64 (((a1.extract 0 ((ji5) : Int).toNat).size : Int) - 2)))) else (none)) else (none)) = some r := by first | (rw [hji8] at H; exact H) | (simp only [hji8] at H ⊢; exact H)
      (try rw [hji8] at A4)
      (try (have hji8h : ji8 ≤ 500 := by (rw [← hji8]; unfold mn; (repeat' split) <;> omega)))
      (try (have hji8g : ji8 ≤ 64 := by omega))
      (try (have hji8l : 0 ≤ ji8 := by (rw [← hji8]; unfold mn; (repeat' split) <;> omega)))
      (try (have hji8m : 0 ≤ ji8 := by omega))
      have hji8_ : (if 500 < (a2.size : Int) then 500 else (a2.size : Int)) = ji8 := hji8
      by_cases c9 : 0 ≤ (ji8)
      · rw [if_pos c9] at H
        have c9b0 := eq_true c9
        have c9b1 : decide (0 ≤ (ji8)) = true := decide_eq_true c9
        clear c9
        by_cases c10 : (ji8) ≤ (a2.size : Int)
        · rw [if_pos c10] at H
          have c10b0 := eq_true c10
          have c10b1 : decide ((ji8) ≤ (a2.size : Int)) = true := decide_eq_true c10
          clear c10
          obtain ⟨s1, hs1⟩ : ∃ s_ : ByteArray, (a1.extract 0 ((ji5) : Int).toNat) = s_ := ⟨_, rfl⟩
          rw [hs1] at H
          obtain ⟨s2, hs2⟩ : ∃ s_ : ByteArray, (a2.extract 0 ((ji8) : Int).toNat) = s_ := ⟨_, rfl⟩
          rw [hs2] at H
          obtain ⟨ji11, hji11⟩ : ∃ j_ : Int, (mx 0 (wrap64 ((s1.size : Int) - 2))) = j_ := ⟨_, rfl⟩
          replace H : (transeptlaw06_PercentJoins.l0 k a0 s1 s2 t157 false ji11) = some r := by first | (rw [hji11] at H; exact H) | (simp only [hji11] at H ⊢; exact H)
          (try rw [hji11] at A4)
          have hji11_ : (if 0 < (wrap64 ((s1.size : Int) - 2)) then (wrap64 ((s1.size : Int) - 2)) else 0) = ji11 := hji11
          have H' := Aside0.mk H
          clear H
          go_enter Try.func6, Try.ntmps6
          go_wp2_with (first | ((with_reducible refine gate_callee (f := 10) rfl ?_); refine goesL_ (some 10) rfl rfl Try.func10 (by kernel_rfl) rfl #[] rfl (by (try simp only [List.map_toArray, List.map_cons, List.map_nil]); first | done | rfl | (simp only [List.length_drop, List.length_take]; rfl)) ?_; (with_reducible refine (transeptlaw06_shown.calls  t157 _ A4.out).mono ?_); rintro e w12 ⟨rfl, hb⟩; refine ⟨_, rfl, ?_⟩; have n0_ := Aside0.mk (below_step (by repeat (first | (with_reducible first | exact HB.out | apply below_alloc | apply pw_below_drewN | apply below_drew1) | exact HB.out)) hb); clear HB; have HB := n0_; clear n0_; (try clear hb); (try clear hb2); (try clear hk); (try clear hi)))
          go_loopg [8, 9] k (fun kq v8 v9 w' => ∃ (x8_1 : Bool) (x9_1 : Int), v8 = .bool x8_1 ∧ v9 = .int .i64 x9_1 ∧ Aside0 (transeptlaw06_PercentJoins.l0 kq a0 s1 s2 t157 x8_1 x9_1 = some r) ∧ Aside0 (kq ≤ k) ∧ Aside0 (Below w.heap.size w w'))
          case atStart => exact ⟨(false), (ji11), (by first | rfl | (simp; done) | (simp [*]; done)), (by first | rfl | (simp; done) | (simp only [← hji11] <;> (first | rfl | simp)) | (simp [*]; done)), H', ⟨Nat.le_refl _⟩, ⟨by repeat (first | (with_reducible first | exact HB.out | apply below_alloc | apply pw_below_drewN | apply below_drew1) | exact HB.out)⟩⟩
          case round =>
            clear H'
            try clear c1
            try clear p2
            try clear c6
            try clear c6b0
            try clear c6b1
            try clear p6
            try clear c7
            try clear c7b0
            try clear c7b1
            try clear c9
            try clear c9b0
            try clear c9b1
            try clear c10
            try clear c10b0
            try clear c10b1
            obtain ⟨x8_1, x9_1, rfl, rfl, HA, HK1, HB⟩ := hrel
            cases gk with
            | zero => exact absurd HA.out (by simp [transeptlaw06_PercentJoins.l0])
            | succ k1 =>
              have H := HA.out
              clear HA
              simp only [transeptlaw06_PercentJoins.l0] at H
              by_cases c13 : x9_1 < (s1.size : Int)
              · rw [if_pos c13] at H
                have c13b0 : decide (x9_1 < (s1.size : Int)) = true := decide_eq_true c13
                clear c13
                by_cases c14 : x8_1 = true
                · subst c14
                  have H1 : (transeptlaw06_PercentJoins.l0 k1 a0 s1 s2 t157 true (wrap64 (x9_1 + 1))) = some r := by rw [if_pos rfl] at H; exact H
                  clear H
                  have H := H1
                  clear H1
                  have H' := Aside0.mk H
                  clear H
                  go_wp2
                  go_roundg k1
                  case measure => have := HK1.out; omega
                  case rel => exact ⟨(true), (wrap64 (x9_1 + 1)), (by first | rfl | (simp; done) | (simp [*]; done)), (by first | rfl | (simp; done) | (simp [*]; done)), H', ⟨by have := HK1.out; omega⟩, ⟨by repeat (first | (with_reducible first | exact HB.out | apply below_alloc | apply pw_below_drewN | apply below_drew1) | exact HB.out)⟩⟩
                · replace c14 := Bool.eq_false_iff.mpr c14
                  subst c14
                  have H1 : (if 0 ≤ x9_1 then (transeptlaw06_PercentJoins.l0 k1 a0 s1 s2 t157 ((bt s1 x9_1) == 37) (wrap64 (x9_1 + 1))) else (none)) = some r := by rw [if_neg (show ¬ (false = true) by decide)] at H; exact H
                  clear H
                  have H := H1
                  clear H1
                  by_cases c15 : 0 ≤ x9_1
                  · rw [if_pos c15] at H
                    have c15b0 : decide (0 ≤ x9_1) = true := decide_eq_true c15
                    clear c15
                    have H' := Aside0.mk H
                    clear H
                    have p16 : 0 ≤ (x9_1 : Int) := of_decide_eq_true (by first | (with_reducible assumption) | assumption)
                    have q16 : x9_1 < (s1.size : Int) := of_decide_eq_true (by first | (with_reducible assumption) | assumption)
                    have hx16 := bt_at s1 x9_1
                    replace p16 := eq_true p16
                    replace q16 := eq_true q16
                    go_wp2
                    go_roundg k1
                    case measure => have := HK1.out; omega
                    case rel => exact ⟨(((bt s1 x9_1) == 37)), (wrap64 (x9_1 + 1)), (by first | rfl | (simp; done) | (simp only [← hji5] <;> (first | rfl | simp)) | (simp [*]; done)), (by first | rfl | (simp; done) | (simp [*]; done)), H', ⟨by have := HK1.out; omega⟩, ⟨by repeat (first | (with_reducible first | exact HB.out | apply below_alloc | apply pw_below_drewN | apply below_drew1) | exact HB.out)⟩⟩
                  · rw [if_neg c15] at H
                    exact absurd H (by simp)
              · rw [if_neg c13] at H
                have c13b0 : decide (x9_1 < (s1.size : Int)) = false := decide_eq_false c13
                clear c13
                by_cases c17 : t157 = true
                · subst c17
                  have H1 : (if s1.size + s2.size ≤ 9223372036854775807 then ((percent_Encode.f a0 (s1 ++ s2)).bind fun t158 => ((percent_Encode.f a0 s1).bind fun t159 => ((percent_Encode.f a0 s2).bind fun t160 => (if t159.size + t160.size ≤ 9223372036854775807 then (if t158.toList = (t159 ++ t160).toList then (if x8_1 = true then (some true) else ((percent_Decode.f (s1 ++ s2)).bind fun t161 => ((percent_Decode.f s1).bind fun t162 => ((percent_Decode.f s2).bind fun t163 => (if t162.size + t163.size ≤ 9223372036854775807 then (some (t161.toList == (t162 ++ t163).toList)) else (none)))))) else (some false)) else (none))))) else (none)) = some r := by rw [if_pos rfl] at H; exact H
                  clear H
                  have H := H1
                  clear H1
                  by_cases c18 : s1.size + s2.size ≤ 9223372036854775807
                  · rw [if_pos c18] at H
                    have c18b0 := eq_true c18
                    have c18b1 : decide (s1.size + s2.size ≤ 9223372036854775807) = true := decide_eq_true c18
                    try have c18b2 : (9223372036854775807 < s1.size + s2.size) = False := eq_false (Nat.not_lt.2 c18)
                    replace H := Option.bind_eq_some_iff.mp H
                    obtain ⟨t158, A190, H⟩ := H
                    replace H : ((percent_Encode.f a0 s1).bind fun t159 => ((percent_Encode.f a0 s2).bind fun t160 => (if t159.size + t160.size ≤ 9223372036854775807 then (if t158.toList = (t159 ++ t160).toList then (if x8_1 = true then (some true) else ((percent_Decode.f (s1 ++ s2)).bind fun t161 => ((percent_Decode.f s1).bind fun t162 => ((percent_Decode.f s2).bind fun t163 => (if t162.size + t163.size ≤ 9223372036854775807 then (some (t161.toList == (t162 ++ t163).toList)) else (none)))))) else (some false)) else (none)))) = some r := H
                    have A19 := Aside0.mk A190
                    clear A190
                    replace H := Option.bind_eq_some_iff.mp H
                    obtain ⟨t159, A200, H⟩ := H
                    replace H : ((percent_Encode.f a0 s2).bind fun t160 => (if t159.size + t160.size ≤ 9223372036854775807 then (if t158.toList = (t159 ++ t160).toList then (if x8_1 = true then (some true) else ((percent_Decode.f (s1 ++ s2)).bind fun t161 => ((percent_Decode.f s1).bind fun t162 => ((percent_Decode.f s2).bind fun t163 => (if t162.size + t163.size ≤ 9223372036854775807 then (some (t161.toList == (t162 ++ t163).toList)) else (none)))))) else (some false)) else (none))) = some r := H
                    have A20 := Aside0.mk A200
                    clear A200
                    replace H := Option.bind_eq_some_iff.mp H
                    obtain ⟨t160, A210, H⟩ := H
                    replace H : (if t159.size + t160.size ≤ 9223372036854775807 then (if t158.toList = (t159 ++ t160).toList then (if x8_1 = true then (some true) else ((percent_Decode.f (s1 ++ s2)).bind fun t161 => ((percent_Decode.f s1).bind fun t162 => ((percent_Decode.f s2).bind fun t163 => (if t162.size + t163.size ≤ 9223372036854775807 then (some (t161.toList == (t162 ++ t163).toList)) else (none)))))) else (some false)) else (none)) = some r := H
                    have A21 := Aside0.mk A210
                    clear A210
                    by_cases c22 : t159.size + t160.size ≤ 9223372036854775807
                    · rw [if_pos c22] at H
                      have c22b0 := eq_true c22
                      have c22b1 : decide (t159.size + t160.size ≤ 9223372036854775807) = true := decide_eq_true c22
                      try have c22b2 : (9223372036854775807 < t159.size + t160.size) = False := eq_false (Nat.not_lt.2 c22)
                      by_cases c23 : t158.toList = (t159 ++ t160).toList
                      · rw [if_pos c23] at H
                        have c23b0 : (t158.toList == (t159 ++ t160).toList) = true := beq_iff_eq.mpr c23
                        have c23b1 : (t158.toList != (t159 ++ t160).toList) = false := bne_eq_false_iff_eq.mpr c23
                        clear c23
                        by_cases c24 : x8_1 = true
                        · subst c24
                          have H1 : (some true) = some r := by rw [if_pos rfl] at H; exact H
                          clear H
                          have H := H1
                          clear H1
                          obtain rfl := Option.some.inj H
                          go_wp2_with (first | (go_at_call 13; (with_reducible refine (percent_Encode.calls a0 (s1 ++ s2) t158 _ A19.out).mono ?_); rintro e w25 ⟨rfl, hb⟩; have n0_ := Aside0.mk (below_step (by repeat (first | (with_reducible first | exact HB.out | apply below_alloc | apply pw_below_drewN | apply below_drew1) | exact HB.out)) hb); clear HB; have HB := n0_; clear n0_; (try clear hb); (try clear hb2); (try clear hk); (try clear hi)) | (go_at_call 13; (with_reducible refine (percent_Encode.calls a0 s1 t159 _ A20.out).mono ?_); rintro e w26 ⟨rfl, hb⟩; have n0_ := Aside0.mk (below_step (by repeat (first | (with_reducible first | exact HB.out | apply below_alloc | apply pw_below_drewN | apply below_drew1) | exact HB.out)) hb); clear HB; have HB := n0_; clear n0_; (try clear hb); (try clear hb2); (try clear hk); (try clear hi)) | (go_at_call 13; (with_reducible refine (percent_Encode.calls a0 s2 t160 _ A21.out).mono ?_); rintro e w27 ⟨rfl, hb⟩; have n0_ := Aside0.mk (below_step (by repeat (first | (with_reducible first | exact HB.out | apply below_alloc | apply pw_below_drewN | apply below_drew1) | exact HB.out)) hb); clear HB; have HB := n0_; clear n0_; (try clear hb); (try clear hb2); (try clear hk); (try clear hi)))
                          go_ret
                          exact ⟨by first | rfl | (simp [errW_none, errW_some] <;> rfl) | (simp only [← hji5, ← hji8, ← hji11]; first | rfl | (simp [errW_none, errW_some] <;> rfl)) | (simp [*, errW_none, errW_some] <;> rfl), by repeat (first | (with_reducible first | exact HB.out | apply below_alloc | apply pw_below_drewN | apply below_drew1) | exact HB.out)⟩
                        · replace c24 := Bool.eq_false_iff.mpr c24
                          subst c24
                          have H1 : ((percent_Decode.f (s1 ++ s2)).bind fun t161 => ((percent_Decode.f s1).bind fun t162 => ((percent_Decode.f s2).bind fun t163 => (if t162.size + t163.size ≤ 9223372036854775807 then (some (t161.toList == (t162 ++ t163).toList)) else (none))))) = some r := by rw [if_neg (show ¬ (false = true) by decide)] at H; exact H
                          clear H
                          have H := H1
                          clear H1
                          replace H := Option.bind_eq_some_iff.mp H
                          obtain ⟨t161, A280, H⟩ := H
                          replace H : ((percent_Decode.f s1).bind fun t162 => ((percent_Decode.f s2).bind fun t163 => (if t162.size + t163.size ≤ 9223372036854775807 then (some (t161.toList == (t162 ++ t163).toList)) else (none)))) = some r := H
                          have A28 := Aside0.mk A280
                          clear A280
                          replace H := Option.bind_eq_some_iff.mp H
                          obtain ⟨t162, A290, H⟩ := H
                          replace H : ((percent_Decode.f s2).bind fun t163 => (if t162.size + t163.size ≤ 9223372036854775807 then (some (t161.toList == (t162 ++ t163).toList)) else (none))) = some r := H
                          have A29 := Aside0.mk A290
                          clear A290
                          replace H := Option.bind_eq_some_iff.mp H
                          obtain ⟨t163, A300, H⟩ := H
                          replace H : (if t162.size + t163.size ≤ 9223372036854775807 then (some (t161.toList == (t162 ++ t163).toList)) else (none)) = some r := H
                          have A30 := Aside0.mk A300
                          clear A300
                          by_cases c31 : t162.size + t163.size ≤ 9223372036854775807
                          · rw [if_pos c31] at H
                            have c31b0 := eq_true c31
                            have c31b1 : decide (t162.size + t163.size ≤ 9223372036854775807) = true := decide_eq_true c31
                            try have c31b2 : (9223372036854775807 < t162.size + t163.size) = False := eq_false (Nat.not_lt.2 c31)
                            obtain rfl := Option.some.inj H
                            go_wp2_with (first | (go_at_call 13; (with_reducible refine (percent_Encode.calls a0 (s1 ++ s2) t158 _ A19.out).mono ?_); rintro e w32 ⟨rfl, hb⟩; have n0_ := Aside0.mk (below_step (by repeat (first | (with_reducible first | exact HB.out | apply below_alloc | apply pw_below_drewN | apply below_drew1) | exact HB.out)) hb); clear HB; have HB := n0_; clear n0_; (try clear hb); (try clear hb2); (try clear hk); (try clear hi)) | (go_at_call 13; (with_reducible refine (percent_Encode.calls a0 s1 t159 _ A20.out).mono ?_); rintro e w33 ⟨rfl, hb⟩; have n0_ := Aside0.mk (below_step (by repeat (first | (with_reducible first | exact HB.out | apply below_alloc | apply pw_below_drewN | apply below_drew1) | exact HB.out)) hb); clear HB; have HB := n0_; clear n0_; (try clear hb); (try clear hb2); (try clear hk); (try clear hi)) | (go_at_call 13; (with_reducible refine (percent_Encode.calls a0 s2 t160 _ A21.out).mono ?_); rintro e w34 ⟨rfl, hb⟩; have n0_ := Aside0.mk (below_step (by repeat (first | (with_reducible first | exact HB.out | apply below_alloc | apply pw_below_drewN | apply below_drew1) | exact HB.out)) hb); clear HB; have HB := n0_; clear n0_; (try clear hb); (try clear hb2); (try clear hk); (try clear hi)) | (go_at_call 15; (with_reducible refine (percent_Decode.calls (s1 ++ s2) t161 _ A28.out).mono ?_); rintro e w35 ⟨rfl, hb⟩; have n0_ := Aside0.mk (below_step (by repeat (first | (with_reducible first | exact HB.out | apply below_alloc | apply pw_below_drewN | apply below_drew1) | exact HB.out)) hb); clear HB; have HB := n0_; clear n0_; (try clear hb); (try clear hb2); (try clear hk); (try clear hi)) | (go_at_call 15; (with_reducible refine (percent_Decode.calls s1 t162 _ A29.out).mono ?_); rintro e w36 ⟨rfl, hb⟩; have n0_ := Aside0.mk (below_step (by repeat (first | (with_reducible first | exact HB.out | apply below_alloc | apply pw_below_drewN | apply below_drew1) | exact HB.out)) hb); clear HB; have HB := n0_; clear n0_; (try clear hb); (try clear hb2); (try clear hk); (try clear hi)) | (go_at_call 15; (with_reducible refine (percent_Decode.calls s2 t163 _ A30.out).mono ?_); rintro e w37 ⟨rfl, hb⟩; have n0_ := Aside0.mk (below_step (by repeat (first | (with_reducible first | exact HB.out | apply below_alloc | apply pw_below_drewN | apply below_drew1) | exact HB.out)) hb); clear HB; have HB := n0_; clear n0_; (try clear hb); (try clear hb2); (try clear hk); (try clear hi)))
                            go_ret
                            exact ⟨by first | rfl | (simp [errW_none, errW_some] <;> rfl) | (simp only [← hji5, ← hji8, ← hji11]; first | rfl | (simp [errW_none, errW_some] <;> rfl)) | (simp [*, errW_none, errW_some] <;> rfl), by repeat (first | (with_reducible first | exact HB.out | apply below_alloc | apply pw_below_drewN | apply below_drew1) | exact HB.out)⟩
                          · rw [if_neg c31] at H
                            exact absurd H (by simp)
                      · rw [if_neg c23] at H
                        have c23b0 : (t158.toList == (t159 ++ t160).toList) = false := beq_eq_false_iff_ne.mpr c23
                        have c23b1 : (t158.toList != (t159 ++ t160).toList) = true := bne_iff_ne.mpr c23
                        exact absurd HT.out (by rw [← Option.some.inj H]; decide)
                    · rw [if_neg c22] at H
                      exact absurd H (by simp)
                  · rw [if_neg c18] at H
                    exact absurd H (by simp)
                · replace c17 := Bool.eq_false_iff.mpr c17
                  subst c17
                  have H1 : (some false) = some r := by rw [if_neg (show ¬ (false = true) by decide)] at H; exact H
                  clear H
                  have H := H1
                  clear H1
                  exact absurd HT.out (by rw [← Option.some.inj H]; decide)
        · rw [if_neg c10] at H
          exact absurd H (by simp)
      · rw [if_neg c9] at H
        exact absurd H (by simp)
    · rw [if_neg c7] at H
      exact absurd H (by simp)
  · rw [if_neg c6] at H
    exact absurd H (by simp)

/-- THE ONE PURE STATEMENT of transeptlaw06_PercentJoins: yours. -/
def transeptlaw06_PercentJoins.Pure : Prop := ∀ (a0 : Int) (a1 : ByteArray) (a2 : ByteArray), (Lit.int .i64 a0).wf = true → a1.size ≤ 140737488351232 → a2.size ≤ 140737488351232 → ∃ k, transeptlaw06_PercentJoins.f k a0 a1 a2 = some true
theorem transeptlaw06_PercentJoins.walk (P : transeptlaw06_PercentJoins.Pure) (a0 : Int) (a1 : ByteArray) (a2 : ByteArray) (w : World) (w0 : (Lit.int .i64 a0).wf = true) (w1 : a1.size ≤ 140737488351232) (w2 : a2.size ≤ 140737488351232) :
    Calls Try.prog 6 #[.int .i64 a0, .string a1, .string a2] w fun e w' => e = .returned (.bool true) ∧ Below w.heap.size w w' := by
  obtain ⟨k, h⟩ := P a0 a1 a2 w0 w1 w2
  refine (transeptlaw06_PercentJoins.calls k a0 a1 a2 true w rfl h).mono ?_
  rintro e w' ⟨rfl, hd⟩
  exact ⟨rfl, hd⟩

end Go.Proofs.Ytpofepfkalighaa.Xa
