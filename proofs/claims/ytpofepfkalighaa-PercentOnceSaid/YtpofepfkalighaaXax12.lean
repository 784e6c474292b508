-- Written by a program of this session (wip/tools/xprint.py), in the manner of the print of the kit.
import Derived.Test.YtpofepfkalighaaXax0
import Derived.Test.YtpofepfkalighaaXax4
import Derived.Test.YtpofepfkalighaaExt
namespace Go.Proofs.Ytpofepfkalighaa.Xa
open Go.RowKit Go.Proofs.Ytpofepfkalighaa.Ext Go.Proofs.YtpofepfkalighaaW.PrintWords Go.Proofs.YtpofepfkalighaaW.PrintLast Go.Proofs.YtpofepfkalighaaW.PrintMore
attribute [local go_sem] max2_int min2_int max_two min_two max_three min_three max_four min_four   -- for this text's walks alone
set_option linter.unusedVariables false
set_option linter.unusedSimpArgs false

/-! ### transeptlaw06_PercentOnce: function 4 -/
def transeptlaw06_PercentOnce.l0 : Nat → Int → ByteArray → Bool → ByteArray → Int → Option (Bool)
  | 0, _, _, _, _, _ => none
  | k + 1, x0, x1, x5, x6, x7 => if x7 < (x6.size : Int) then (if 0 ≤ x7 then ((percent_In.f x0 (bt x6 x7)).bind fun t149 => (if t149 = true then (some false) else (transeptlaw06_PercentOnce.l0 k x0 x1 x5 x6 (wrap64 (x7 + 1))))) else (none)) else (if x5 = true then ((percent_Encode.f x0 x6).bind fun t150 => (if t150.toList = x6.toList then ((percent_Decode.f x6).bind fun t151 => ((percent_Decode.f x1).bind fun t152 => (some (t151.toList == t152.toList)))) else (some false))) else (some false))
def transeptlaw06_PercentOnce.f (k : Nat) (a0 : Int) (a1 : ByteArray) : Option (Bool) := (transeptlaw06_shown.f).bind fun t147 => (if 0 ≤ (mn (a1.size : Int) 1000) then (if (mn (a1.size : Int) 1000) ≤ (a1.size : Int) then ((percent_Encode.f (wrap64 (1 + (Int.tmod (Go.bits .and .i64 a0 65535) 5))) (a1.extract 0 ((mn (a1.size : Int) 1000) : Int).toNat)).bind fun t148 => (transeptlaw06_PercentOnce.l0 k (wrap64 (1 + (Int.tmod (Go.bits .and .i64 a0 65535) 5))) (a1.extract 0 ((mn (a1.size : Int) 1000) : Int).toNat) t147 t148 0)) else (none)) else (none))
theorem transeptlaw06_PercentOnce.mono_l : ∀ k, (∀ y0 y1 y2 y3 y4, LeO (transeptlaw06_PercentOnce.l0 k y0 y1 y2 y3 y4) (transeptlaw06_PercentOnce.l0 (k + 1) y0 y1 y2 y3 y4))
  | 0 => fun _ _ _ _ _ r h => by simp [transeptlaw06_PercentOnce.l0] at h
  | k + 1 => by
    have ih0 := transeptlaw06_PercentOnce.mono_l k
    · intro y0 y1 y2 y3 y4
      unfold transeptlaw06_PercentOnce.l0
      repeat' first
      | (with_reducible exact ih0 _ _ _ _ _)
      | (with_reducible exact LeO.refl _)
      | (with_reducible exact LeO.none _)
      | (with_reducible refine LeO.ite ?_ ?_)
      | (with_reducible refine LeO.bind ?_ (fun _ => ?_))
      | exact ih0 _ _ _ _ _
      | exact LeO.none _
      | refine LeO.ite ?_ ?_
      | refine LeO.bind ?_ (fun _ => ?_)
theorem transeptlaw06_PercentOnce.mono : ∀ a0 a1 k, LeO (transeptlaw06_PercentOnce.f k a0 a1) (transeptlaw06_PercentOnce.f (k + 1) a0 a1) := by
  intro a0 a1 k
  have ih0 := transeptlaw06_PercentOnce.mono_l k
  unfold transeptlaw06_PercentOnce.f
  repeat' first
      | (with_reducible exact ih0 _ _ _ _ _)
      | (with_reducible exact LeO.refl _)
      | (with_reducible exact LeO.none _)
      | (with_reducible refine LeO.ite ?_ ?_)
      | (with_reducible refine LeO.bind ?_ (fun _ => ?_))
      | exact ih0 _ _ _ _ _
      | exact LeO.none _
      | refine LeO.ite ?_ ?_
      | refine LeO.bind ?_ (fun _ => ?_)
set_option maxHeartbeats 8000000 in
set_option maxRecDepth 100000 in
theorem transeptlaw06_PercentOnce.calls (k : Nat) (a0 : Int) (a1 : ByteArray) (r : Bool) (w : World) (hT_ : r = true) (h : transeptlaw06_PercentOnce.f k a0 a1 = some r) :
    Calls Try.prog 4 #[.int .i64 a0, .string a1] w fun e w' => e = .returned (.bool r) ∧ Below w.heap.size w w' := by
  have HT := Aside0.mk hT_
  clear hT_
  have HB := Aside0.mk (Below.refl w.heap.size w)
  have H : ((transeptlaw06_shown.f).bind fun t147 => (if 0 ≤ (mn (a1.size : Int) 1000) then (if (mn (a1.size : Int) 1000) ≤ (a1.size : Int) then ((percent_Encode.f (wrap64 (1 + (Int.tmod (Go.bits .and .i64 a0 65535) 5))) (a1.extract 0 ((mn (a1.size : Int) 1000) : Int).toNat)).bind fun t148 => (transeptlaw06_PercentOnce.l0 k (wrap64 (1 + (Int.tmod (Go.bits .and .i64 a0 65535) 5))) (a1.extract 0 ((mn (a1.size : Int) 1000) : Int).toNat) t147 t148 0)) else (none)) else (none))) = some r := h
  clear h
  replace H := Option.bind_eq_some_iff.mp H
  obtain ⟨t147, A30, H⟩ := H
  replace H : (if 0 ≤ (mn (a1.size : Int) 1000) then (if (mn (a1.size : Int) 1000) ≤ (a1.size : Int) then ((percent_Encode.f (wrap64 (1 + (Int.tmod (Go.bits .and .i64 a0 65535) 5))) (a1.extract 0 ((mn (a1.size : Int) 1000) : Int).toNat)).bind fun t148 => (transeptlaw06_PercentOnce.l0 k (wrap64 (1 + (Int.tmod (Go.bits .and .i64 a0 65535) 5))) (a1.extract 0 ((mn (a1.size : Int) 1000) : Int).toNat) t147 t148 0)) else (none)) else (none)) = some r := H
  have A3 := Aside0.mk A30
  clear A30
  obtain ⟨ji4, hji4⟩ : ∃ j_ : Int, (mn (a1.size : Int) 1000) = j_ := ⟨_, rfl⟩
  replace H : (if 0 ≤ (ji4) then (if (ji4) ≤ (a1.size : Int) then ((percent_Encode.f (wrap64 (1 + (Int.tmod (Go.bits .and .i64 a0 65535) 5))) (a1.extract 0 ((ji4) : Int).toNat)).bind fun t148 => (transeptlaw06_PercentOnce.l0 k (wrap64 (1 + (Int.tmod (Go.bits .and .i64 a0 65535) 5))) (a1.extract 0 ((ji4) : Int).toNat) t147 t148 0)) else (none)) else (none)) = some r := by first | (rw [hji4] at H; exact H) | (simp only [hji4] at H ⊢; exact H)
  (try rw [hji4] at A3)
  (try (have hji4h : ji4 ≤ 1000 := by (rw [← hji4]; unfold mn; (repeat' split) <;> omega)))
  (try (have hji4g : ji4 ≤ 64 := by omega))
  (try (have hji4l : 0 ≤ ji4 := by (rw [← hji4]; unfold mn; (repeat' split) <;> omega)))
  (try (have hji4m : 0 ≤ ji4 := by omega))
  have hji4_ : (if 1000 < (a1.size : Int) then 1000 else (a1.size : Int)) = ji4 := hji4
  by_cases c5 : 0 ≤ (ji4)
  · rw [if_pos c5] at H
    have c5b0 := eq_true c5
    have c5b1 : decide (0 ≤ (ji4)) = true := decide_eq_true c5
    clear c5
    by_cases c6 : (ji4) ≤ (a1.size : Int)
    · rw [if_pos c6] at H
      have c6b0 := eq_true c6
      have c6b1 : decide ((ji4) ≤ (a1.size : Int)) = true := decide_eq_true c6
      clear c6
      replace H := Option.bind_eq_some_iff.mp H
      obtain ⟨t148, A70, H⟩ := H
      replace H : (transeptlaw06_PercentOnce.l0 k (wrap64 (1 + (Int.tmod (Go.bits .and .i64 a0 65535) 5))) (a1.extract 0 ((ji4) : Int).toNat) t147 t148 0) = some r := H
      have A7 := Aside0.mk A70
      clear A70
      have H' := Aside0.mk H
      clear H
      go_enter Try.func4, Try.ntmps4
      go_wp2_with (first | ((with_reducible refine gate_callee (f := 10) rfl ?_); refine goesL_ (some 8) rfl rfl Try.func10 (by kernel_rfl) rfl #[] rfl (by (try simp only [List.map_toArray, List.map_cons, List.map_nil]); first | done | rfl | (simp only [List.length_drop, List.length_take]; rfl)) ?_; (with_reducible refine (transeptlaw06_shown.calls  t147 _ A3.out).mono ?_); rintro e w8 ⟨rfl, hb⟩; refine ⟨_, rfl, ?_⟩; have n0_ := Aside0.mk (below_step (by repeat (first | (with_reducible first | exact HB.out | apply below_alloc | apply pw_below_drewN | apply below_drew1) | exact HB.out)) hb); clear HB; have HB := n0_; clear n0_; (try clear hb); (try clear hb2); (try clear hk); (try clear hi)) | ((with_reducible refine gate_callee (f := 13) rfl ?_); refine goesL_ (some 20) rfl rfl Try.func13 (by kernel_rfl) rfl #[.int .i64 (wrap64 (1 + (Int.tmod (Go.bits .and .i64 a0 65535) 5))), .string (a1.extract 0 ((ji4) : Int).toNat)] rfl (by (try simp only [List.map_toArray, List.map_cons, List.map_nil]); first | done | (simp only [hji4]; rfl) | rfl | (simp only [List.length_drop, List.length_take]; rfl)) ?_; (with_reducible refine (percent_Encode.calls (wrap64 (1 + (Int.tmod (Go.bits .and .i64 a0 65535) 5))) (a1.extract 0 ((ji4) : Int).toNat) t148 _ A7.out).mono ?_); rintro e w9 ⟨rfl, hb⟩; refine ⟨_, rfl, ?_⟩; have n0_ := Aside0.mk (below_step (by repeat (first | (with_reducible first | exact HB.out | apply below_alloc | apply pw_below_drewN | apply below_drew1) | exact HB.out)) hb); clear HB; have HB := n0_; clear n0_; (try clear hb); (try clear hb2); (try clear hk); (try clear hi)))
      go_loopg [7] k (fun kq v7 w' => ∃ (x7_1 : Int), v7 = .int .i64 x7_1 ∧ Aside0 (transeptlaw06_PercentOnce.l0 kq (wrap64 (1 + (Int.tmod (Go.bits .and .i64 a0 65535) 5))) (a1.extract 0 ((ji4) : Int).toNat) t147 t148 x7_1 = some r) ∧ Aside0 (kq ≤ k) ∧ Aside0 (Below w.heap.size w w'))
      case atStart => exact ⟨(0), (by first | rfl | (simp; done) | (simp [*]; done)), H', ⟨Nat.le_refl _⟩, ⟨by repeat (first | (with_reducible first | exact HB.out | apply below_alloc | apply pw_below_drewN | apply below_drew1) | exact HB.out)⟩⟩
      case round =>
        clear H'
        try clear c1
        try clear p2
        try clear c4
        try clear c5
        try clear c5b0
        try clear c5b1
        try clear c6
        try clear c6b0
        try clear c6b1
        try clear p6
        obtain ⟨x7_1, rfl, HA, HK1, HB⟩ := hrel
        cases gk with
        | zero => exact absurd HA.out (by simp [transeptlaw06_PercentOnce.l0])
        | succ k1 =>
          have H := HA.out
          clear HA
          simp only [transeptlaw06_PercentOnce.l0] at H
          by_cases c10 : x7_1 < (t148.size : Int)
          · rw [if_pos c10] at H
            have c10b0 : decide (x7_1 < (t148.size : Int)) = true := decide_eq_true c10
            clear c10
            by_cases c11 : 0 ≤ x7_1
            · rw [if_pos c11] at H
              have c11b0 : decide (0 ≤ x7_1) = true := decide_eq_true c11
              clear c11
              replace H := Option.bind_eq_some_iff.mp H
              obtain ⟨t149, A130, H⟩ := H
              replace H : (if t149 = true then (some false) else (transeptlaw06_PercentOnce.l0 k1 (wrap64 (1 + (Int.tmod (Go.bits .and .i64 a0 65535) 5))) (a1.extract 0 ((ji4) : Int).toNat) t147 t148 (wrap64 (x7_1 + 1)))) = some r := H
              have A13 := Aside0.mk A130
              clear A130
              by_cases c14 : t149 = true
              · subst c14
                have H1 : (some false) = some r := by rw [if_pos rfl] at H; exact H
                clear H
                have H := H1
                clear H1
                exact absurd HT.out (by rw [← Option.some.inj H]; decide)
              · replace c14 := Bool.eq_false_iff.mpr c14
                subst c14
                have H1 : (transeptlaw06_PercentOnce.l0 k1 (wrap64 (1 + (Int.tmod (Go.bits .and .i64 a0 65535) 5))) (a1.extract 0 ((ji4) : Int).toNat) t147 t148 (wrap64 (x7_1 + 1))) = some r := by rw [if_neg (show ¬ (false = true) by decide)] at H; exact H
                clear H
                have H := H1
                clear H1
                have H' := Aside0.mk H
                clear H
                have p12 : 0 ≤ (x7_1 : Int) := of_decide_eq_true (by first | (with_reducible assumption) | assumption)
                have q12 : x7_1 < (t148.size : Int) := of_decide_eq_true (by first | (with_reducible assumption) | assumption)
                have hx12 := bt_at t148 x7_1
                replace p12 := eq_true p12
                replace q12 := eq_true q12
                go_wp2_with (first | ((with_reducible refine gate_callee (f := 11) rfl ?_); refine goesL_ (some 31) rfl rfl Try.func11 (by kernel_rfl) rfl #[.int .i64 (wrap64 (1 + (Int.tmod (Go.bits .and .i64 a0 65535) 5))), .int .u8 (bt t148 x7_1)] rfl (by (try simp only [List.map_toArray, List.map_cons, List.map_nil]); first | done | rfl | (simp only [List.length_drop, List.length_take]; rfl)) ?_; (with_reducible refine (percent_In.calls (wrap64 (1 + (Int.tmod (Go.bits .and .i64 a0 65535) 5))) (bt t148 x7_1) false _ A13.out).mono ?_); rintro e w15 ⟨rfl, hb⟩; refine ⟨_, rfl, ?_⟩; have n0_ := Aside0.mk (below_step (by repeat (first | (with_reducible first | exact HB.out | apply below_alloc | apply pw_below_drewN | apply below_drew1) | exact HB.out)) hb); clear HB; have HB := n0_; clear n0_; (try clear hb); (try clear hb2); (try clear hk); (try clear hi)))
                go_roundg k1
                case measure => have := HK1.out; omega
                case rel => exact ⟨(wrap64 (x7_1 + 1)), (by first | rfl | (simp; done) | (simp [*]; done)), H', ⟨by have := HK1.out; omega⟩, ⟨by repeat (first | (with_reducible first | exact HB.out | apply below_alloc | apply pw_below_drewN | apply below_drew1) | exact HB.out)⟩⟩
            · rw [if_neg c11] at H
              exact absurd H (by simp)
          · rw [if_neg c10] at H
            have c10b0 : decide (x7_1 < (t148.size : Int)) = false := decide_eq_false c10
            clear c10
            by_cases c16 : t147 = true
            · subst c16
              have H1 : ((percent_Encode.f (wrap64 (1 + (Int.tmod (Go.bits .and .i64 a0 65535) 5))) t148).bind fun t150 => (if t150.toList = t148.toList then ((percent_Decode.f t148).bind fun t151 => ((percent_Decode.f (a1.extract 0 ((ji4) : Int).toNat)).bind fun t152 => (some (t151.toList == t152.toList)))) else (some false))) = some r := by rw [if_pos rfl] at H; exact H
              clear H
              have H := H1
              clear H1
              replace H := Option.bind_eq_some_iff.mp H
              obtain ⟨t150, A170, H⟩ := H
              replace H : (if t150.toList = t148.toList then ((percent_Decode.f t148).bind fun t151 => ((percent_Decode.f (a1.extract 0 ((ji4) : Int).toNat)).bind fun t152 => (some (t151.toList == t152.toList)))) else (some false)) = some r := H
              have A17 := Aside0.mk A170
              clear A170
              by_cases c18 : t150.toList = t148.toList
              · rw [if_pos c18] at H
                have c18b0 : (t150.toList == t148.toList) = true := beq_iff_eq.mpr c18
                have c18b1 : (t150.toList != t148.toList) = false := bne_eq_false_iff_eq.mpr c18
                clear c18
                replace H := Option.bind_eq_some_iff.mp H
                obtain ⟨t151, A190, H⟩ := H
                replace H : ((percent_Decode.f (a1.extract 0 ((ji4) : Int).toNat)).bind fun t152 => (some (t151.toList == t152.toList))) = some r := H
                have A19 := Aside0.mk A190
                clear A190
                replace H := Option.bind_eq_some_iff.mp H
                obtain ⟨t152, A200, H⟩ := H
                replace H : (some (t151.toList == t152.toList)) = some r := H
                have A20 := Aside0.mk A200
                clear A200
                obtain rfl := Option.some.inj H
                go_wp2_with (first | (go_at_call 13; (with_reducible refine (percent_Encode.calls (wrap64 (1 + (Int.tmod (Go.bits .and .i64 a0 65535) 5))) t148 t150 _ A17.out).mono ?_); rintro e w21 ⟨rfl, hb⟩; have n0_ := Aside0.mk (below_step (by repeat (first | (with_reducible first | exact HB.out | apply below_alloc | apply pw_below_drewN | apply below_drew1) | exact HB.out)) hb); clear HB; have HB := n0_; clear n0_; (try clear hb); (try clear hb2); (try clear hk); (try clear hi)) | (go_at_call 15; (with_reducible refine (percent_Decode.calls t148 t151 _ A19.out).mono ?_); rintro e w22 ⟨rfl, hb⟩; have n0_ := Aside0.mk (below_step (by repeat (first | (with_reducible first | exact HB.out | apply below_alloc | apply pw_below_drewN | apply below_drew1) | exact HB.out)) hb); clear HB; have HB := n0_; clear n0_; (try clear hb); (try clear hb2); (try clear hk); (try clear hi)) | (go_at_call 15; (with_reducible refine (percent_Decode.calls (a1.extract 0 ((ji4) : Int).toNat) t152 _ A20.out).mono ?_); rintro e w23 ⟨rfl, hb⟩; have n0_ := Aside0.mk (below_step (by repeat (first | (with_reducible first | exact HB.out | apply below_alloc | apply pw_below_drewN | apply below_drew1) | exact HB.out)) hb); clear HB; have HB := n0_; clear n0_; (try clear hb); (try clear hb2); (try clear hk); (try clear hi)))
                go_ret
                exact ⟨by first | rfl | (simp [errW_none, errW_some] <;> rfl) | (simp only [← hji4]; first | rfl | (simp [errW_none, errW_some] <;> rfl)) | (simp [*, errW_none, errW_some] <;> rfl), by repeat (first | (with_reducible first | exact HB.out | apply below_alloc | apply pw_below_drewN | apply below_drew1) | exact HB.out)⟩
              · rw [if_neg c18] at H
                have c18b0 : (t150.toList == t148.toList) = false := beq_eq_false_iff_ne.mpr c18
                have c18b1 : (t150.toList != t148.toList) = true := bne_iff_ne.mpr c18
                exact absurd HT.out (by rw [← Option.some.inj H]; decide)
            · replace c16 := Bool.eq_false_iff.mpr c16
              subst c16
              have H1 : (some false) = some r := by rw [if_neg (show ¬ (false = true) by decide)] at H; exact H
              clear H
              have H := H1
              clear H1
              exact absurd HT.out (by rw [← Option.some.inj H]; decide)
    · rw [if_neg c6] at H
      exact absurd H (by simp)
  · rw [if_neg c5] at H
    exact absurd H (by simp)

/-- THE ONE PURE STATEMENT of transeptlaw06_PercentOnce: yours. -/
def transeptlaw06_PercentOnce.Pure : Prop := ∀ (a0 : Int) (a1 : ByteArray), (Lit.int .i64 a0).wf = true → a1.size ≤ 140737488351232 → ∃ k, transeptlaw06_PercentOnce.f k a0 a1 = some true
theorem transeptlaw06_PercentOnce.walk (P : transeptlaw06_PercentOnce.Pure) (a0 : Int) (a1 : ByteArray) (w : World) (w0 : (Lit.int .i64 a0).wf = true) (w1 : a1.size ≤ 140737488351232) :
    Calls Try.prog 4 #[.int .i64 a0, .string a1] w fun e w' => e = .returned (.bool true) ∧ Below w.heap.size w w' := by
  obtain ⟨k, h⟩ := P a0 a1 w0 w1
  refine (transeptlaw06_PercentOnce.calls k a0 a1 true w rfl h).mono ?_
  rintro e w' ⟨rfl, hd⟩
  exact ⟨rfl, hd⟩

end Go.Proofs.Ytpofepfkalighaa.Xa
