-- Written by a program of this session (wip/tools/xprint.py), in the manner of the print of the kit.
import Derived.Test.YtpofepfkalighaaXax0
import Derived.Test.YtpofepfkalighaaXax4
import Derived.Test.YtpofepfkalighaaExt
namespace Go.Proofs.Ytpofepfkalighaa.Xa
open Go.RowKit Go.Proofs.Ytpofepfkalighaa.Ext Go.Proofs.YtpofepfkalighaaW.PrintWords Go.Proofs.YtpofepfkalighaaW.PrintLast Go.Proofs.YtpofepfkalighaaW.PrintMore
attribute [local go_sem] max2_int min2_int max_two min_two max_three min_three max_four min_four   -- for this text's walks alone
set_option linter.unusedVariables false
set_option linter.unusedSimpArgs false

/-! ### transeptlaw06_PercentLess: function 9 -/
def transeptlaw06_PercentLess.l0 : Nat → ByteArray → Bool → ByteArray → Int → Int → Option (Bool)
  | 0, _, _, _, _, _ => none
  | k + 1, x0, x3, x4, x5, x6 => if x6 < (x0.size : Int) then (if 0 ≤ x6 then (if (bt x0 x6) = 37 then (transeptlaw06_PercentLess.l0 k x0 x3 x4 (wrap64 (x5 + 1)) (wrap64 (x6 + 1))) else (transeptlaw06_PercentLess.l0 k x0 x3 x4 x5 (wrap64 (x6 + 1)))) else (none)) else (if x3 = true then (if (wrap64 ((x0.size : Int) - (x4.size : Int))) ≥ 0 then (if (Int.tmod (wrap64 ((x0.size : Int) - (x4.size : Int))) 2) = 0 then (if (wrap64 (Int.tdiv (wrap64 ((x0.size : Int) - (x4.size : Int))) 2)) ≤ x5 then (if x5 > 0 then (some true) else (some (x4.toList == x0.toList))) else (some false)) else (some false)) else (some false)) else (some false))
def transeptlaw06_PercentLess.f (k : Nat) (a0 : ByteArray) : Option (Bool) := (transeptlaw06_shown.f).bind fun t185 => (if 0 ≤ (mn (a0.size : Int) 1000) then (if (mn (a0.size : Int) 1000) ≤ (a0.size : Int) then ((percent_Decode.f (a0.extract 0 ((mn (a0.size : Int) 1000) : Int).toNat)).bind fun t186 => (transeptlaw06_PercentLess.l0 k (a0.extract 0 ((mn (a0.size : Int) 1000) : Int).toNat) t185 t186 0 0)) else (none)) else (none))
theorem transeptlaw06_PercentLess.mono_l : ∀ k, (∀ y0 y1 y2 y3 y4, LeO (transeptlaw06_PercentLess.l0 k y0 y1 y2 y3 y4) (transeptlaw06_PercentLess.l0 (k + 1) y0 y1 y2 y3 y4))
  | 0 => fun _ _ _ _ _ r h => by simp [transeptlaw06_PercentLess.l0] at h
  | k + 1 => by
    have ih0 := transeptlaw06_PercentLess.mono_l k
    · intro y0 y1 y2 y3 y4
      unfold transeptlaw06_PercentLess.l0
      repeat' first
      | (with_reducible exact ih0 _ _ _ _ _)
      | (with_reducible exact LeO.refl _)
      | (with_reducible exact LeO.none _)
      | (with_reducible refine LeO.ite ?_ ?_)
      | (with_reducible refine LeO.bind ?_ (fun _ => ?_))
      | exact ih0 _ _ _ _ _
      | exact LeO.none _
      | refine LeO.ite ?_ ?_
      | refine LeO.bind ?_ (fun _ => ?_)
theorem transeptlaw06_PercentLess.mono : ∀ a0 k, LeO (transeptlaw06_PercentLess.f k a0) (transeptlaw06_PercentLess.f (k + 1) a0) := by
  intro a0 k
  have ih0 := transeptlaw06_PercentLess.mono_l k
  unfold transeptlaw06_PercentLess.f
  repeat' first
      | (with_reducible exact ih0 _ _ _ _ _)
      | (with_reducible exact LeO.refl _)
      | (with_reducible exact LeO.none _)
      | (with_reducible refine LeO.ite ?_ ?_)
      | (with_reducible refine LeO.bind ?_ (fun _ => ?_))
      | exact ih0 _ _ _ _ _
      | exact LeO.none _
      | refine LeO.ite ?_ ?_
      | refine LeO.bind ?_ (fun _ => ?_)
set_option maxHeartbeats 8000000 in
set_option maxRecDepth 100000 in
theorem transeptlaw06_PercentLess.calls (k : Nat) (a0 : ByteArray) (r : Bool) (w : World) (hT_ : r = true) (h : transeptlaw06_PercentLess.f k a0 = some r) :
    Calls Try.prog 9 #[.string a0] w fun e w' => e = .returned (.bool r) ∧ Below w.heap.size w w' := by
  have HT := Aside0.mk hT_
  clear hT_
  have HB := Aside0.mk (Below.refl w.heap.size w)
  have H : ((transeptlaw06_shown.f).bind fun t185 => (if 0 ≤ (mn (a0.size : Int) 1000) then (if (mn (a0.size : Int) 1000) ≤ (a0.size : Int) then ((percent_Decode.f (a0.extract 0 ((mn (a0.size : Int) 1000) : Int).toNat)).bind fun t186 => (transeptlaw06_PercentLess.l0 k (a0.extract 0 ((mn (a0.size : Int) 1000) : Int).toNat) t185 t186 0 0)) else (none)) else (none))) = some r := h
  clear h
  replace H := Option.bind_eq_some_iff.mp H
  obtain ⟨t185, A20, H⟩ := H
  replace H : (if 0 ≤ (mn (a0.size : Int) 1000) then (if (mn (a0.size : Int) 1000) ≤ (a0.size : Int) then ((percent_Decode.f (a0.extract 0 ((mn (a0.size : Int) 1000) : Int).toNat)).bind fun t186 => (transeptlaw06_PercentLess.l0 k (a0.extract 0 ((mn (a0.size : Int) 1000) : Int).toNat) t185 t186 0 0)) else (none)) else (none)) = some r := H
  have A2 := Aside0.mk A20
  clear A20
  obtain ⟨ji3, hji3⟩ : ∃ j_ : Int, (mn (a0.size : Int) 1000) = j_ := ⟨_, rfl⟩
  replace H : (if 0 ≤ (ji3) then (if (ji3) ≤ (a0.size : Int) then ((percent_Decode.f (a0.extract 0 ((ji3) : Int).toNat)).bind fun t186 => (transeptlaw06_PercentLess.l0 k (a0.extract 0 ((ji3) : Int).toNat) t185 t186 0 0)) else (none)) else (none)) = some r := by first | (rw [hji3] at H; exact H) | (simp only [hji3] at H ⊢; exact H)
  (try rw [hji3] at A2)
  (try (have hji3h : ji3 ≤ 1000 := by (rw [← hji3]; unfold mn; (repeat' split) <;> omega)))
  (try (have hji3g : ji3 ≤ 64 := by omega))
  (try (have hji3l : 0 ≤ ji3 := by (rw [← hji3]; unfold mn; (repeat' split) <;> omega)))
  (try (have hji3m : 0 ≤ ji3 := by omega))
  have hji3_ : (if 1000 < (a0.size : Int) then 1000 else (a0.size : Int)) = ji3 := hji3
  by_cases c4 : 0 ≤ (ji3)
  · rw [if_pos c4] at H
    have c4b0 := eq_true c4
    have c4b1 : decide (0 ≤ (ji3)) = true := decide_eq_true c4
    clear c4
    by_cases c5 : (ji3) ≤ (a0.size : Int)
    · rw [if_pos c5] at H
      have c5b0 := eq_true c5
      have c5b1 : decide ((ji3) ≤ (a0.size : Int)) = true := decide_eq_true c5
      clear c5
      replace H := Option.bind_eq_some_iff.mp H
      obtain ⟨t186, A60, H⟩ := H
      replace H : (transeptlaw06_PercentLess.l0 k (a0.extract 0 ((ji3) : Int).toNat) t185 t186 0 0) = some r := H
      have A6 := Aside0.mk A60
      clear A60
      have H' := Aside0.mk H
      clear H
      go_enter Try.func9, Try.ntmps9
      go_wp2_with (first | ((with_reducible refine gate_callee (f := 10) rfl ?_); refine goesL_ (some 8) rfl rfl Try.func10 (by kernel_rfl) rfl #[] rfl (by (try simp only [List.map_toArray, List.map_cons, List.map_nil]); first | done | rfl | (simp only [List.length_drop, List.length_take]; rfl)) ?_; (with_reducible refine (transeptlaw06_shown.calls  t185 _ A2.out).mono ?_); rintro e w7 ⟨rfl, hb⟩; refine ⟨_, rfl, ?_⟩; have n0_ := Aside0.mk (below_step (by repeat (first | (with_reducible first | exact HB.out | apply below_alloc | apply pw_below_drewN | apply below_drew1) | exact HB.out)) hb); clear HB; have HB := n0_; clear n0_; (try clear hb); (try clear hb2); (try clear hk); (try clear hi)) | ((with_reducible refine gate_callee (f := 15) rfl ?_); refine goesL_ (some 15) rfl rfl Try.func15 (by kernel_rfl) rfl #[.string (a0.extract 0 ((ji3) : Int).toNat)] rfl (by (try simp only [List.map_toArray, List.map_cons, List.map_nil]); first | done | (simp only [hji3]; rfl) | rfl | (simp only [List.length_drop, List.length_take]; rfl)) ?_; (with_reducible refine (percent_Decode.calls (a0.extract 0 ((ji3) : Int).toNat) t186 _ A6.out).mono ?_); rintro e w8 ⟨rfl, hb⟩; refine ⟨_, rfl, ?_⟩; have n0_ := Aside0.mk (below_step (by repeat (first | (with_reducible first | exact HB.out | apply below_alloc | apply pw_below_drewN | apply below_drew1) | exact HB.out)) hb); clear HB; have HB := n0_; clear n0_; (try clear hb); (try clear hb2); (try clear hk); (try clear hi)))
      go_loopg [5, 6] k (fun kq v5 v6 w' => ∃ (x5_1 : Int) (x6_1 : Int), v5 = .int .i64 x5_1 ∧ v6 = .int .i64 x6_1 ∧ Aside0 (transeptlaw06_PercentLess.l0 kq (a0.extract 0 ((ji3) : Int).toNat) t185 t186 x5_1 x6_1 = some r) ∧ Aside0 (kq ≤ k) ∧ Aside0 (Below w.heap.size w w'))
      case atStart => exact ⟨(0), (0), (by first | rfl | (simp; done) | (simp [*]; done)), (by first | rfl | (simp; done) | (simp [*]; done)), H', ⟨Nat.le_refl _⟩, ⟨by repeat (first | (with_reducible first | exact HB.out | apply below_alloc | apply pw_below_drewN | apply below_drew1) | exact HB.out)⟩⟩
      case round =>
        clear H'
        try clear c1
        try clear p2
        try clear c4
        try clear c4b0
        try clear c4b1
        try clear c5
        try clear c5b0
        try clear c5b1
        obtain ⟨x5_1, x6_1, rfl, rfl, HA, HK1, HB⟩ := hrel
        cases gk with
        | zero => exact absurd HA.out (by simp [transeptlaw06_PercentLess.l0])
        | succ k1 =>
          have H := HA.out
          clear HA
          simp only [transeptlaw06_PercentLess.l0] at H
          by_cases c9 : x6_1 < ((a0.extract 0 ((ji3) : Int).toNat).size : Int)
          · rw [if_pos c9] at H
            have c9b0 : decide (x6_1 < ((a0.extract 0 ((ji3) : Int).toNat).size : Int)) = true := decide_eq_true c9
            have c9b0m : decide (x6_1 < ((min (ji3 : Int).toNat a0.size : Nat) : Int)) = true := by have z_ := c9b0; simp only [ByteArray.size_extract, Nat.sub_zero] at z_; exact z_
            clear c9
            by_cases c10 : 0 ≤ x6_1
            · rw [if_pos c10] at H
              have c10b0 : decide (0 ≤ x6_1) = true := decide_eq_true c10
              clear c10
              by_cases c12 : (bt (a0.extract 0 ((ji3) : Int).toNat) x6_1) = 37
              · rw [if_pos c12] at H
                have c12b0 : ((bt (a0.extract 0 ((ji3) : Int).toNat) x6_1) == 37) = true := beq_iff_eq.mpr c12
                have c12b1 : ((bt (a0.extract 0 ((ji3) : Int).toNat) x6_1) != 37) = false := bne_eq_false_iff_eq.mpr c12
                clear c12
                have H' := Aside0.mk H
                clear H
                have p11 : 0 ≤ (x6_1 : Int) := of_decide_eq_true (by first | (with_reducible assumption) | assumption)
                have q11 : x6_1 < ((a0.extract 0 ((ji3) : Int).toNat).size : Int) := of_decide_eq_true (by first | (with_reducible assumption) | assumption)
                have hx11 := bt_at (a0.extract 0 ((ji3) : Int).toNat) x6_1
                replace p11 := eq_true p11
                replace q11 := eq_true q11
                try have q11m := eq_true (by have z_ := of_eq_true q11; simp only [ByteArray.size_extract, Nat.sub_zero] at z_; exact z_)
                go_wp2
                go_roundg k1
                case measure => have := HK1.out; omega
                case rel => exact ⟨(wrap64 (x5_1 + 1)), (wrap64 (x6_1 + 1)), (by first | rfl | (simp; done) | (simp [*]; done)), (by first | rfl | (simp; done) | (simp [*]; done)), H', ⟨by have := HK1.out; omega⟩, ⟨by repeat (first | (with_reducible first | exact HB.out | apply below_alloc | apply pw_below_drewN | apply below_drew1) | exact HB.out)⟩⟩
              · rw [if_neg c12] at H
                have c12b0 : ((bt (a0.extract 0 ((ji3) : Int).toNat) x6_1) == 37) = false := beq_eq_false_iff_ne.mpr c12
                have c12b1 : ((bt (a0.extract 0 ((ji3) : Int).toNat) x6_1) != 37) = true := bne_iff_ne.mpr c12
                have H' := Aside0.mk H
                clear H
                have p11 : 0 ≤ (x6_1 : Int) := of_decide_eq_true (by first | (with_reducible assumption) | assumption)
                have q11 : x6_1 < ((a0.extract 0 ((ji3) : Int).toNat).size : Int) := of_decide_eq_true (by first | (with_reducible assumption) | assumption)
                have hx11 := bt_at (a0.extract 0 ((ji3) : Int).toNat) x6_1
                replace p11 := eq_true p11
                replace q11 := eq_true q11
                try have q11m := eq_true (by have z_ := of_eq_true q11; simp only [ByteArray.size_extract, Nat.sub_zero] at z_; exact z_)
                go_wp2
                go_roundg k1
                case measure => have := HK1.out; omega
                case rel => exact ⟨(x5_1), (wrap64 (x6_1 + 1)), (by first | rfl | (simp; done) | (simp [*]; done)), (by first | rfl | (simp; done) | (simp [*]; done)), H', ⟨by have := HK1.out; omega⟩, ⟨by repeat (first | (with_reducible first | exact HB.out | apply below_alloc | apply pw_below_drewN | apply below_drew1) | exact HB.out)⟩⟩
            · rw [if_neg c10] at H
              exact absurd H (by simp)
          · rw [if_neg c9] at H
            have c9b0 : decide (x6_1 < ((a0.extract 0 ((ji3) : Int).toNat).size : Int)) = false := decide_eq_false c9
            have c9b0m : decide (x6_1 < ((min (ji3 : Int).toNat a0.size : Nat) : Int)) = false := by have z_ := c9b0; simp only [ByteArray.size_extract, Nat.sub_zero] at z_; exact z_
            clear c9
            by_cases c13 : t185 = true
            · subst c13
              have H1 : (if (wrap64 (((a0.extract 0 ((ji3) : Int).toNat).size : Int) - (t186.size : Int))) ≥ 0 then (if (Int.tmod (wrap64 (((a0.extract 0 ((ji3) : Int).toNat).size : Int) - (t186.size : Int))) 2) = 0 then (if (wrap64 (Int.tdiv (wrap64 (((a0.extract 0 ((ji3) : Int).toNat).size : Int) - (t186.size : Int))) 2)) ≤ x5_1 then (if x5_1 > 0 then (some true) else (some (t186.toList == (a0.extract 0 ((ji3) : Int).toNat).toList))) else (some false)) else (some false)) else (some false)) = some r := by rw [if_pos rfl] at H; exact H
              clear H
              have H := H1
              clear H1
              by_cases c14 : (wrap64 (((a0.extract 0 ((ji3) : Int).toNat).size : Int) - (t186.size : Int))) ≥ 0
              · rw [if_pos c14] at H
                have c14b0 : decide (0 ≤ (wrap64 (((a0.extract 0 ((ji3) : Int).toNat).size : Int) - (t186.size : Int)))) = true := decide_eq_true c14
                have c14b0m : decide (0 ≤ (wrap64 (((min (ji3 : Int).toNat a0.size : Nat) : Int) - (t186.size : Int)))) = true := by have z_ := c14b0; simp only [ByteArray.size_extract, Nat.sub_zero] at z_; exact z_
                clear c14
                by_cases c15 : (Int.tmod (wrap64 (((a0.extract 0 ((ji3) : Int).toNat).size : Int) - (t186.size : Int))) 2) = 0
                · rw [if_pos c15] at H
                  have c15b0 : ((Int.tmod (wrap64 (((a0.extract 0 ((ji3) : Int).toNat).size : Int) - (t186.size : Int))) 2) == 0) = true := beq_iff_eq.mpr c15
                  have c15b0m : ((Int.tmod (wrap64 (((min (ji3 : Int).toNat a0.size : Nat) : Int) - (t186.size : Int))) 2) == 0) = true := by have z_ := c15b0; simp only [ByteArray.size_extract, Nat.sub_zero] at z_; exact z_
                  have c15b1 : ((Int.tmod (wrap64 (((a0.extract 0 ((ji3) : Int).toNat).size : Int) - (t186.size : Int))) 2) != 0) = false := bne_eq_false_iff_eq.mpr c15
                  have c15b1m : ((Int.tmod (wrap64 (((min (ji3 : Int).toNat a0.size : Nat) : Int) - (t186.size : Int))) 2) != 0) = false := by have z_ := c15b1; simp only [ByteArray.size_extract, Nat.sub_zero] at z_; exact z_
                  clear c15
                  by_cases c16 : (wrap64 (Int.tdiv (wrap64 (((a0.extract 0 ((ji3) : Int).toNat).size : Int) - (t186.size : Int))) 2)) ≤ x5_1
                  · rw [if_pos c16] at H
                    have c16b0 : decide ((wrap64 (Int.tdiv (wrap64 (((a0.extract 0 ((ji3) : Int).toNat).size : Int) - (t186.size : Int))) 2)) ≤ x5_1) = true := decide_eq_true c16
                    have c16b0m : decide ((wrap64 (Int.tdiv (wrap64 (((min (ji3 : Int).toNat a0.size : Nat) : Int) - (t186.size : Int))) 2)) ≤ x5_1) = true := by have z_ := c16b0; simp only [ByteArray.size_extract, Nat.sub_zero] at z_; exact z_
                    clear c16
                    by_cases c17 : x5_1 > 0
                    · rw [if_pos c17] at H
                      have c17b0 : decide (0 < x5_1) = true := decide_eq_true c17
                      clear c17
                      obtain rfl := Option.some.inj H
                      go_wp2
                      go_ret
                      exact ⟨by first | rfl | (simp [errW_none, errW_some] <;> rfl) | (simp only [← hji3]; first | rfl | (simp [errW_none, errW_some] <;> rfl)) | (simp [*, errW_none, errW_some] <;> rfl), by repeat (first | (with_reducible first | exact HB.out | apply below_alloc | apply pw_below_drewN | apply below_drew1) | exact HB.out)⟩
                    · rw [if_neg c17] at H
                      have c17b0 : decide (0 < x5_1) = false := decide_eq_false c17
                      clear c17
                      obtain rfl := Option.some.inj H
                      go_wp2
                      go_ret
                      exact ⟨by first | rfl | (simp [errW_none, errW_some] <;> rfl) | (simp only [← hji3]; first | rfl | (simp [errW_none, errW_some] <;> rfl)) | (simp [*, errW_none, errW_some] <;> rfl), by repeat (first | (with_reducible first | exact HB.out | apply below_alloc | apply pw_below_drewN | apply below_drew1) | exact HB.out)⟩
                  · rw [if_neg c16] at H
                    have c16b0 : decide ((wrap64 (Int.tdiv (wrap64 (((a0.extract 0 ((ji3) : Int).toNat).size : Int) - (t186.size : Int))) 2)) ≤ x5_1) = false := decide_eq_false c16
                    have c16b0m : decide ((wrap64 (Int.tdiv (wrap64 (((min (ji3 : Int).toNat a0.size : Nat) : Int) - (t186.size : Int))) 2)) ≤ x5_1) = false := by have z_ := c16b0; simp only [ByteArray.size_extract, Nat.sub_zero] at z_; exact z_
                    clear c16
                    exact absurd HT.out (by rw [← Option.some.inj H]; decide)
                · rw [if_neg c15] at H
                  have c15b0 : ((Int.tmod (wrap64 (((a0.extract 0 ((ji3) : Int).toNat).size : Int) - (t186.size : Int))) 2) == 0) = false := beq_eq_false_iff_ne.mpr c15
                  have c15b0m : ((Int.tmod (wrap64 (((min (ji3 : Int).toNat a0.size : Nat) : Int) - (t186.size : Int))) 2) == 0) = false := by have z_ := c15b0; simp only [ByteArray.size_extract, Nat.sub_zero] at z_; exact z_
                  have c15b1 : ((Int.tmod (wrap64 (((a0.extract 0 ((ji3) : Int).toNat).size : Int) - (t186.size : Int))) 2) != 0) = true := bne_iff_ne.mpr c15
                  have c15b1m : ((Int.tmod (wrap64 (((min (ji3 : Int).toNat a0.size : Nat) : Int) - (t186.size : Int))) 2) != 0) = true := by have z_ := c15b1; simp only [ByteArray.size_extract, Nat.sub_zero] at z_; exact z_
                  exact absurd HT.out (by rw [← Option.some.inj H]; decide)
              · rw [if_neg c14] at H
                have c14b0 : decide (0 ≤ (wrap64 (((a0.extract 0 ((ji3) : Int).toNat).size : Int) - (t186.size : Int)))) = false := decide_eq_false c14
                have c14b0m : decide (0 ≤ (wrap64 (((min (ji3 : Int).toNat a0.size : Nat) : Int) - (t186.size : Int)))) = false := by have z_ := c14b0; simp only [ByteArray.size_extract, Nat.sub_zero] at z_; exact z_
                clear c14
                exact absurd HT.out (by rw [← Option.some.inj H]; decide)
            · replace c13 := Bool.eq_false_iff.mpr c13
              subst c13
              have H1 : (some false) = some r := by rw [if_neg (show ¬ (false = true) by decide)] at H; exact H
              clear H
              have H := H1
              clear H1
              exact absurd HT.out (by rw [← Option.some.inj H]; decide)
    · rw [if_neg c5] at H
      exact absurd H (by simp)
  · rw [if_neg c4] at H
    exact absurd H (by simp)

/-- THE ONE PURE STATEMENT of transeptlaw06_PercentLess: yours. -/
def transeptlaw06_PercentLess.Pure : Prop := ∀ (a0 : ByteArray), a0.size ≤ 140737488351232 → ∃ k, transeptlaw06_PercentLess.f k a0 = some true
theorem transeptlaw06_PercentLess.walk (P : transeptlaw06_PercentLess.Pure) (a0 : ByteArray) (w : World) (w0 : a0.size ≤ 140737488351232) :
    Calls Try.prog 9 #[.string a0] w fun e w' => e = .returned (.bool true) ∧ Below w.heap.size w w' := by
  obtain ⟨k, h⟩ := P a0 w0
  refine (transeptlaw06_PercentLess.calls k a0 true w rfl h).mono ?_
  rintro e w' ⟨rfl, hd⟩
  exact ⟨rfl, hd⟩

end Go.Proofs.Ytpofepfkalighaa.Xa
