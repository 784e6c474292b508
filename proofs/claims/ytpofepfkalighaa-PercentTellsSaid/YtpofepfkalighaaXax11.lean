-- Written by a program of this session (wip/tools/xprint.py), in the manner of the print of the kit.
import Derived.Test.YtpofepfkalighaaXax0
import Derived.Test.YtpofepfkalighaaXax4
import Derived.Test.YtpofepfkalighaaXax6
import Derived.Test.YtpofepfkalighaaXax8
import Derived.Test.YtpofepfkalighaaXax10
import Derived.Test.YtpofepfkalighaaExt
namespace Go.Proofs.Ytpofepfkalighaa.Xa
open Go.RowKit Go.Proofs.Ytpofepfkalighaa.Ext Go.Proofs.YtpofepfkalighaaW.PrintWords Go.Proofs.YtpofepfkalighaaW.PrintLast Go.Proofs.YtpofepfkalighaaW.PrintMore
attribute [local go_sem] max2_int min2_int max_two min_two max_three min_three max_four min_four   -- for this text's walks alone
set_option linter.unusedVariables false
set_option linter.unusedSimpArgs false

/-! ### transeptlaw06_PercentTells: function 3 -/
mutual
def transeptlaw06_PercentTells.l0 : Nat → Int → ByteArray → Bool → Int → Option (Bool)
  | 0, _, _, _, _ => none
  | k + 1, x0, x1, x5, x6 => if x6 < 7 then (transeptlaw06_PercentTells.l1 k x0 x1 x5 x6 0) else (if x5 = true then ((percent_Encode.f x0 x1).bind fun t143 => ((transeptref06_Encode.f k x0 x1).bind fun t144 => (if t143.toList = t144.toList then ((percent_Decode.f x1).bind fun t145 => ((transeptref06_Decode.f k x1).bind fun t146 => (some (t145.toList == t146.toList)))) else (some false)))) else (some false))
def transeptlaw06_PercentTells.l1 : Nat → Int → ByteArray → Bool → Int → Int → Option (Bool)
  | 0, _, _, _, _, _ => none
  | k + 1, x0, x1, x5, x6, x7 => if x7 < 256 then ((percent_In.f x6 ((x7) % 256)).bind fun t139 => ((transeptref06_In.f k x6 ((x7) % 256)).bind fun t140 => (if (t139 != t140) = true then (some false) else (transeptlaw06_PercentTells.l1 k x0 x1 x5 x6 (wrap64 (x7 + 1)))))) else ((percent_Encode.f x6 x1).bind fun t141 => ((transeptref06_Encode.f k x6 x1).bind fun t142 => (if t141.toList = t142.toList then (transeptlaw06_PercentTells.l0 k x0 x1 x5 (wrap64 (x6 + 1))) else (some false))))
end
def transeptlaw06_PercentTells.f (k : Nat) (a0 : Int) (a1 : ByteArray) : Option (Bool) := (transeptlaw06_shown.f).bind fun t138 => (if 0 ≤ (mn (a1.size : Int) 1000) then (if (mn (a1.size : Int) 1000) ≤ (a1.size : Int) then (transeptlaw06_PercentTells.l0 k a0 (a1.extract 0 ((mn (a1.size : Int) 1000) : Int).toNat) t138 0) else (none)) else (none))
theorem transeptlaw06_PercentTells.mono_l : ∀ k, (∀ y0 y1 y2 y3, LeO (transeptlaw06_PercentTells.l0 k y0 y1 y2 y3) (transeptlaw06_PercentTells.l0 (k + 1) y0 y1 y2 y3)) ∧ (∀ y0 y1 y2 y3 y4, LeO (transeptlaw06_PercentTells.l1 k y0 y1 y2 y3 y4) (transeptlaw06_PercentTells.l1 (k + 1) y0 y1 y2 y3 y4))
  | 0 => ⟨fun _ _ _ _ r h => by simp [transeptlaw06_PercentTells.l0] at h, fun _ _ _ _ _ r h => by simp [transeptlaw06_PercentTells.l1] at h⟩
  | k + 1 => by
    obtain ⟨ih0, ih1⟩ := transeptlaw06_PercentTells.mono_l k
    refine ⟨?_, ?_⟩
    · intro y0 y1 y2 y3
      unfold transeptlaw06_PercentTells.l0
      repeat' first
      | (with_reducible exact ih0 _ _ _ _)
      | (with_reducible exact ih1 _ _ _ _ _)
      | (with_reducible exact transeptref06_Decode.mono _ _)
      | (with_reducible exact transeptref06_Encode.mono _ _ _)
      | (with_reducible exact transeptref06_In.mono _ _ _)
      | (with_reducible exact LeO.refl _)
      | (with_reducible exact LeO.none _)
      | (with_reducible refine LeO.ite ?_ ?_)
      | (with_reducible refine LeO.bind ?_ (fun _ => ?_))
      | exact ih0 _ _ _ _
      | exact ih1 _ _ _ _ _
      | exact transeptref06_Decode.mono _ _
      | exact transeptref06_Encode.mono _ _ _
      | exact transeptref06_In.mono _ _ _
      | exact LeO.none _
      | refine LeO.ite ?_ ?_
      | refine LeO.bind ?_ (fun _ => ?_)
    · intro y0 y1 y2 y3 y4
      unfold transeptlaw06_PercentTells.l1
      repeat' first
      | (with_reducible exact ih0 _ _ _ _)
      | (with_reducible exact ih1 _ _ _ _ _)
      | (with_reducible exact transeptref06_Decode.mono _ _)
      | (with_reducible exact transeptref06_Encode.mono _ _ _)
      | (with_reducible exact transeptref06_In.mono _ _ _)
      | (with_reducible exact LeO.refl _)
      | (with_reducible exact LeO.none _)
      | (with_reducible refine LeO.ite ?_ ?_)
      | (with_reducible refine LeO.bind ?_ (fun _ => ?_))
      | exact ih0 _ _ _ _
      | exact ih1 _ _ _ _ _
      | exact transeptref06_Decode.mono _ _
      | exact transeptref06_Encode.mono _ _ _
      | exact transeptref06_In.mono _ _ _
      | exact LeO.none _
      | refine LeO.ite ?_ ?_
      | refine LeO.bind ?_ (fun _ => ?_)
theorem transeptlaw06_PercentTells.mono : ∀ a0 a1 k, LeO (transeptlaw06_PercentTells.f k a0 a1) (transeptlaw06_PercentTells.f (k + 1) a0 a1) := by
  intro a0 a1 k
  obtain ⟨ih0, ih1⟩ := transeptlaw06_PercentTells.mono_l k
  unfold transeptlaw06_PercentTells.f
  repeat' first
      | (with_reducible exact ih0 _ _ _ _)
      | (with_reducible exact ih1 _ _ _ _ _)
      | (with_reducible exact transeptref06_Decode.mono _ _)
      | (with_reducible exact transeptref06_Encode.mono _ _ _)
      | (with_reducible exact transeptref06_In.mono _ _ _)
      | (with_reducible exact LeO.refl _)
      | (with_reducible exact LeO.none _)
      | (with_reducible refine LeO.ite ?_ ?_)
      | (with_reducible refine LeO.bind ?_ (fun _ => ?_))
      | exact ih0 _ _ _ _
      | exact ih1 _ _ _ _ _
      | exact transeptref06_Decode.mono _ _
      | exact transeptref06_Encode.mono _ _ _
      | exact transeptref06_In.mono _ _ _
      | exact LeO.none _
      | refine LeO.ite ?_ ?_
      | refine LeO.bind ?_ (fun _ => ?_)
set_option maxHeartbeats 8000000 in
set_option maxRecDepth 100000 in
theorem transeptlaw06_PercentTells.calls (k : Nat) (a0 : Int) (a1 : ByteArray) (r : Bool) (w : World) (hT_ : r = true) (h : transeptlaw06_PercentTells.f k a0 a1 = some r) :
    Calls Try.prog 3 #[.int .i64 a0, .string a1] w fun e w' => e = .returned (.bool r) ∧ Below w.heap.size w w' := by
  have HT := Aside0.mk hT_
  clear hT_
  have HB := Aside0.mk (Below.refl w.heap.size w)
  have H : ((transeptlaw06_shown.f).bind fun t138 => (if 0 ≤ (mn (a1.size : Int) 1000) then (if (mn (a1.size : Int) 1000) ≤ (a1.size : Int) then (transeptlaw06_PercentTells.l0 k a0 (a1.extract 0 ((mn (a1.size : Int) 1000) : Int).toNat) t138 0) else (none)) else (none))) = some r := h
  clear h
  replace H := Option.bind_eq_some_iff.mp H
  obtain ⟨t138, A30, H⟩ := H
  replace H : (if 0 ≤ (mn (a1.size : Int) 1000) then (if (mn (a1.size : Int) 1000) ≤ (a1.size : Int) then (transeptlaw06_PercentTells.l0 k a0 (a1.extract 0 ((mn (a1.size : Int) 1000) : Int).toNat) t138 0) else (none)) else (none)) = some r := H
  have A3 := Aside0.mk A30
  clear A30
  obtain ⟨ji4, hji4⟩ : ∃ j_ : Int, (mn (a1.size : Int) 1000) = j_ := ⟨_, rfl⟩
  replace H : (if 0 ≤ (ji4) then (if (ji4) ≤ (a1.size : Int) then (transeptlaw06_PercentTells.l0 k a0 (a1.extract 0 ((ji4) : Int).toNat) t138 0) else (none)) else (none)) = some r := by first | (rw [hji4] at H; exact H) | (simp only [hji4] at H ⊢; exact H)
  (try rw [hji4] at A3)
  (try (have hji4h : ji4 ≤ 1000 := by (rw [← hji4]; unfold mn; (repeat' split) <;> omega)))
  (try (have hji4g : ji4 ≤ 64 := by omega))
  (try (have hji4l : 0 ≤ ji4 := by (rw [← hji4]; unfold mn; (repeat' split) <;> omega)))
  (try (have hji4m : 0 ≤ ji4 := by omega))
  have hji4_ : (if 1000 < (a1.size : Int) then 1000 else (a1.size : Int)) = ji4 := hji4
  by_cases c5 : 0 ≤ (ji4)
  · rw [if_pos c5] at H
    have c5b0 := eq_true c5
    have c5b1 : decide (0 ≤ (ji4)) = true := decide_eq_true c5
    clear c5
    by_cases c6 : (ji4) ≤ (a1.size : Int)
    · rw [if_pos c6] at H
      have c6b0 := eq_true c6
      have c6b1 : decide ((ji4) ≤ (a1.size : Int)) = true := decide_eq_true c6
      clear c6
      have H' := Aside0.mk H
      clear H
      go_enter Try.func3, Try.ntmps3
      go_wp2_with (first | ((with_reducible refine gate_callee (f := 10) rfl ?_); refine goesL_ (some 8) rfl rfl Try.func10 (by kernel_rfl) rfl #[] rfl (by (try simp only [List.map_toArray, List.map_cons, List.map_nil]); first | done | rfl | (simp only [List.length_drop, List.length_take]; rfl)) ?_; (with_reducible refine (transeptlaw06_shown.calls  t138 _ A3.out).mono ?_); rintro e w7 ⟨rfl, hb⟩; refine ⟨_, rfl, ?_⟩; have n0_ := Aside0.mk (below_step (by repeat (first | (with_reducible first | exact HB.out | apply below_alloc | apply pw_below_drewN | apply below_drew1) | exact HB.out)) hb); clear HB; have HB := n0_; clear n0_; (try clear hb); (try clear hb2); (try clear hk); (try clear hi)))
      go_loopg [6] k (fun kq v6 w' => ∃ (x6_1 : Int), v6 = .int .i64 x6_1 ∧ Aside0 (transeptlaw06_PercentTells.l0 kq a0 (a1.extract 0 ((ji4) : Int).toNat) t138 x6_1 = some r) ∧ Aside0 (kq ≤ k) ∧ Aside0 (Below w.heap.size w w'))
      case atStart => exact ⟨(0), (by first | rfl | (simp; done) | (simp [*]; done)), H', ⟨Nat.le_refl _⟩, ⟨by repeat (first | (with_reducible first | exact HB.out | apply below_alloc | apply pw_below_drewN | apply below_drew1) | exact HB.out)⟩⟩
      case round =>
        clear H'
        try clear c1
        try clear p2
        try clear c3
        try clear c5
        try clear c5b0
        try clear c5b1
        try clear c6
        try clear c6b0
        try clear c6b1
        obtain ⟨x6_1, rfl, HA, HK1, HB⟩ := hrel
        cases gk with
        | zero => exact absurd HA.out (by simp [transeptlaw06_PercentTells.l0])
        | succ k1 =>
          have H := HA.out
          clear HA
          simp only [transeptlaw06_PercentTells.l0] at H
          by_cases c8 : x6_1 < 7
          · rw [if_pos c8] at H
            have c8b0 : decide (x6_1 < 7) = true := decide_eq_true c8
            clear c8
            have H' := Aside0.mk H
            clear H
            go_wp2
            go_loopg [7] k1 (fun kq v7 w' => ∃ (x7_2 : Int), v7 = .int .i64 x7_2 ∧ Aside0 (transeptlaw06_PercentTells.l1 kq a0 (a1.extract 0 ((ji4) : Int).toNat) t138 x6_1 x7_2 = some r) ∧ Aside0 (kq ≤ k1) ∧ Aside0 (Below w.heap.size w w'))
            case atStart => exact ⟨(0), (by first | rfl | (simp; done) | (simp [*]; done)), H', ⟨Nat.le_refl _⟩, ⟨by repeat (first | (with_reducible first | exact HB.out | apply below_alloc | apply pw_below_drewN | apply below_drew1) | exact HB.out)⟩⟩
            case round =>
              clear H'
              try clear c1
              try clear p2
              try clear c3
              try clear c5
              try clear c5b0
              try clear c5b1
              try clear c6
              try clear c6b0
              try clear c6b1
              try clear c8
              try clear c8b0
              try clear p2
              obtain ⟨x7_2, rfl, HA, HK2, HB⟩ := hrel
              cases gk with
              | zero => exact absurd HA.out (by simp [transeptlaw06_PercentTells.l1])
              | succ k2 =>
                have H := HA.out
                clear HA
                simp only [transeptlaw06_PercentTells.l1] at H
                by_cases c9 : x7_2 < 256
                · rw [if_pos c9] at H
                  have c9b0 : decide (x7_2 < 256) = true := decide_eq_true c9
                  clear c9
                  replace H := Option.bind_eq_some_iff.mp H
                  obtain ⟨t139, A100, H⟩ := H
                  replace H : ((transeptref06_In.f k2 x6_1 ((x7_2) % 256)).bind fun t140 => (if (t139 != t140) = true then (some false) else (transeptlaw06_PercentTells.l1 k2 a0 (a1.extract 0 ((ji4) : Int).toNat) t138 x6_1 (wrap64 (x7_2 + 1))))) = some r := H
                  have A10 := Aside0.mk A100
                  clear A100
                  replace H := Option.bind_eq_some_iff.mp H
                  obtain ⟨t140, A110, H⟩ := H
                  replace H : (if (t139 != t140) = true then (some false) else (transeptlaw06_PercentTells.l1 k2 a0 (a1.extract 0 ((ji4) : Int).toNat) t138 x6_1 (wrap64 (x7_2 + 1)))) = some r := H
                  have A11 := Aside0.mk A110
                  clear A110
                  by_cases c12 : (t139 != t140) = true
                  · rw [if_pos c12] at H
                    have c12b0 : (t139 != t140) = true := c12
                    (try (have c12b1 : decide (t139 = t140) = false := by simpa using c12))
                    (try (have c12b2 : (t139 == t140) = false := by simpa using c12))
                    (try (have c12b3 : ¬ (t139 = t140) := by simpa using c12))
                    clear c12
                    exact absurd HT.out (by rw [← Option.some.inj H]; decide)
                  · rw [if_neg c12] at H
                    have c12b0 : (t139 != t140) = false := by simpa using c12
                    (try (have c12b1 : decide (t139 = t140) = true := by simpa using c12))
                    (try (have c12b2 : (t139 == t140) = true := by simpa using c12))
                    clear c12
                    have H' := Aside0.mk H
                    clear H
                    go_wp2_with (first | ((with_reducible refine gate_callee (f := 11) rfl ?_); refine goesL_ (some 25) rfl rfl Try.func11 (by kernel_rfl) rfl #[.int .i64 x6_1, .int .u8 ((x7_2) % 256)] rfl (by (try simp only [List.map_toArray, List.map_cons, List.map_nil]); first | done | rfl | (simp only [List.length_drop, List.length_take]; rfl)) ?_; (with_reducible refine (percent_In.calls x6_1 ((x7_2) % 256) t139 _ A10.out).mono ?_); rintro e w13 ⟨rfl, hb⟩; refine ⟨_, rfl, ?_⟩; have n0_ := Aside0.mk (below_step (by repeat (first | (with_reducible first | exact HB.out | apply below_alloc | apply pw_below_drewN | apply below_drew1) | exact HB.out)) hb); clear HB; have HB := n0_; clear n0_; (try clear hb); (try clear hb2); (try clear hk); (try clear hi)) | ((with_reducible refine gate_callee (f := 12) rfl ?_); refine goesL_ (some 29) rfl rfl Try.func12 (by kernel_rfl) rfl #[.int .i64 x6_1, .int .u8 ((x7_2) % 256)] rfl (by (try simp only [List.map_toArray, List.map_cons, List.map_nil]); first | done | rfl | (simp only [List.length_drop, List.length_take]; rfl)) ?_; (with_reducible refine (transeptref06_In.calls k2 x6_1 ((x7_2) % 256) t140 _ A11.out).mono ?_); rintro e w14 ⟨rfl, hb⟩; refine ⟨_, rfl, ?_⟩; have n0_ := Aside0.mk (below_step (by repeat (first | (with_reducible first | exact HB.out | apply below_alloc | apply pw_below_drewN | apply below_drew1) | exact HB.out)) hb); clear HB; have HB := n0_; clear n0_; (try clear hb); (try clear hb2); (try clear hk); (try clear hi)))
                    go_roundg k2
                    case measure => have := HK1.out; have := HK2.out; omega
                    case rel => exact ⟨(wrap64 (x7_2 + 1)), (by first | rfl | (simp; done) | (simp [*]; done)), H', ⟨by have := HK1.out; have := HK2.out; omega⟩, ⟨by repeat (first | (with_reducible first | exact HB.out | apply below_alloc | apply pw_below_drewN | apply below_drew1) | exact HB.out)⟩⟩
                · rw [if_neg c9] at H
                  have c9b0 : decide (x7_2 < 256) = false := decide_eq_false c9
                  clear c9
                  replace H := Option.bind_eq_some_iff.mp H
                  obtain ⟨t141, A150, H⟩ := H
                  replace H : ((transeptref06_Encode.f k2 x6_1 (a1.extract 0 ((ji4) : Int).toNat)).bind fun t142 => (if t141.toList = t142.toList then (transeptlaw06_PercentTells.l0 k2 a0 (a1.extract 0 ((ji4) : Int).toNat) t138 (wrap64 (x6_1 + 1))) else (some false))) = some r := H
                  have A15 := Aside0.mk A150
                  clear A150
                  replace H := Option.bind_eq_some_iff.mp H
                  obtain ⟨t142, A160, H⟩ := H
                  replace H : (if t141.toList = t142.toList then (transeptlaw06_PercentTells.l0 k2 a0 (a1.extract 0 ((ji4) : Int).toNat) t138 (wrap64 (x6_1 + 1))) else (some false)) = some r := H
                  have A16 := Aside0.mk A160
                  clear A160
                  by_cases c17 : t141.toList = t142.toList
                  · rw [if_pos c17] at H
                    have c17b0 : (t141.toList == t142.toList) = true := beq_iff_eq.mpr c17
                    have c17b1 : (t141.toList != t142.toList) = false := bne_eq_false_iff_eq.mpr c17
                    clear c17
                    have H' := Aside0.mk H
                    clear H
                    go_wp2_with (first | ((with_reducible refine gate_callee (f := 13) rfl ?_); refine goesL_ (some 33) rfl rfl Try.func13 (by kernel_rfl) rfl #[.int .i64 x6_1, .string (a1.extract 0 ((ji4) : Int).toNat)] rfl (by (try simp only [List.map_toArray, List.map_cons, List.map_nil]); first | done | (simp only [hji4]; rfl) | rfl | (simp only [List.length_drop, List.length_take]; rfl)) ?_; (with_reducible refine (percent_Encode.calls x6_1 (a1.extract 0 ((ji4) : Int).toNat) t141 _ A15.out).mono ?_); rintro e w18 ⟨rfl, hb⟩; refine ⟨_, rfl, ?_⟩; have n0_ := Aside0.mk (below_step (by repeat (first | (with_reducible first | exact HB.out | apply below_alloc | apply pw_below_drewN | apply below_drew1) | exact HB.out)) hb); clear HB; have HB := n0_; clear n0_; (try clear hb); (try clear hb2); (try clear hk); (try clear hi)) | ((with_reducible refine gate_callee (f := 14) rfl ?_); refine goesL_ (some 36) rfl rfl Try.func14 (by kernel_rfl) rfl #[.int .i64 x6_1, .string (a1.extract 0 ((ji4) : Int).toNat)] rfl (by (try simp only [List.map_toArray, List.map_cons, List.map_nil]); first | done | (simp only [hji4]; rfl) | rfl | (simp only [List.length_drop, List.length_take]; rfl)) ?_; (with_reducible refine (transeptref06_Encode.calls k2 x6_1 (a1.extract 0 ((ji4) : Int).toNat) t142 _ A16.out).mono ?_); rintro e w19 ⟨rfl, hb⟩; refine ⟨_, rfl, ?_⟩; have n0_ := Aside0.mk (below_step (by repeat (first | (with_reducible first | exact HB.out | apply below_alloc | apply pw_below_drewN | apply below_drew1) | exact HB.out)) hb); clear HB; have HB := n0_; clear n0_; (try clear hb); (try clear hb2); (try clear hk); (try clear hi)))
                    go_roundg k2
                    case measure => have := HK1.out; have := HK2.out; omega
                    case rel => exact ⟨(wrap64 (x6_1 + 1)), (by first | rfl | (simp; done) | (simp [*]; done)), H', ⟨by have := HK1.out; have := HK2.out; omega⟩, ⟨by repeat (first | (with_reducible first | exact HB.out | apply below_alloc | apply pw_below_drewN | apply below_drew1) | exact HB.out)⟩⟩
                  · rw [if_neg c17] at H
                    have c17b0 : (t141.toList == t142.toList) = false := beq_eq_false_iff_ne.mpr c17
                    have c17b1 : (t141.toList != t142.toList) = true := bne_iff_ne.mpr c17
                    exact absurd HT.out (by rw [← Option.some.inj H]; decide)
          · rw [if_neg c8] at H
            have c8b0 : decide (x6_1 < 7) = false := decide_eq_false c8
            clear c8
            by_cases c20 : t138 = true
            · subst c20
              have H1 : ((percent_Encode.f a0 (a1.extract 0 ((ji4) : Int).toNat)).bind fun t143 => ((transeptref06_Encode.f k1 a0 (a1.extract 0 ((ji4) : Int).toNat)).bind fun t144 => (if t143.toList = t144.toList then ((percent_Decode.f (a1.extract 0 ((ji4) : Int).toNat)).bind fun t145 => ((transeptref06_Decode.f k1 (a1.extract 0 ((ji4) : Int).toNat)).bind fun t146 => (some (t145.toList == t146.toList)))) else (some false)))) = some r := by rw [if_pos rfl] at H; exact H
              clear H
              have H := H1
              clear H1
              replace H := Option.bind_eq_some_iff.mp H
              obtain ⟨t143, A210, H⟩ := H
              replace H : ((transeptref06_Encode.f k1 a0 (a1.extract 0 ((ji4) : Int).toNat)).bind fun t144 => (if t143.toList = t144.toList then ((percent_Decode.f (a1.extract 0 ((ji4) : Int).toNat)).bind fun t145 => ((transeptref06_Decode.f k1 (a1.extract 0 ((ji4) : Int).toNat)).bind fun t146 => (some (t145.toList == t146.toList)))) else (some false))) = some r := H
              have A21 := Aside0.mk A210
              clear A210
              replace H := Option.bind_eq_some_iff.mp H
              obtain ⟨t144, A220, H⟩ := H
              replace H : (if t143.toList = t144.toList then ((percent_Decode.f (a1.extract 0 ((ji4) : Int).toNat)).bind fun t145 => ((transeptref06_Decode.f k1 (a1.extract 0 ((ji4) : Int).toNat)).bind fun t146 => (some (t145.toList == t146.toList)))) else (some false)) = some r := H
              have A22 := Aside0.mk A220
              clear A220
              by_cases c23 : t143.toList = t144.toList
              · rw [if_pos c23] at H
                have c23b0 : (t143.toList == t144.toList) = true := beq_iff_eq.mpr c23
                have c23b1 : (t143.toList != t144.toList) = false := bne_eq_false_iff_eq.mpr c23
                clear c23
                replace H := Option.bind_eq_some_iff.mp H
                obtain ⟨t145, A240, H⟩ := H
                replace H : ((transeptref06_Decode.f k1 (a1.extract 0 ((ji4) : Int).toNat)).bind fun t146 => (some (t145.toList == t146.toList))) = some r := H
                have A24 := Aside0.mk A240
                clear A240
                replace H := Option.bind_eq_some_iff.mp H
                obtain ⟨t146, A250, H⟩ := H
                replace H : (some (t145.toList == t146.toList)) = some r := H
                have A25 := Aside0.mk A250
                clear A250
                obtain rfl := Option.some.inj H
                go_wp2_with (first | (go_at_call 13; (with_reducible refine (percent_Encode.calls a0 (a1.extract 0 ((ji4) : Int).toNat) t143 _ A21.out).mono ?_); rintro e w26 ⟨rfl, hb⟩; have n0_ := Aside0.mk (below_step (by repeat (first | (with_reducible first | exact HB.out | apply below_alloc | apply pw_below_drewN | apply below_drew1) | exact HB.out)) hb); clear HB; have HB := n0_; clear n0_; (try clear hb); (try clear hb2); (try clear hk); (try clear hi)) | (go_at_call 14; (with_reducible refine (transeptref06_Encode.calls k1 a0 (a1.extract 0 ((ji4) : Int).toNat) t144 _ A22.out).mono ?_); rintro e w27 ⟨rfl, hb⟩; have n0_ := Aside0.mk (below_step (by repeat (first | (with_reducible first | exact HB.out | apply below_alloc | apply pw_below_drewN | apply below_drew1) | exact HB.out)) hb); clear HB; have HB := n0_; clear n0_; (try clear hb); (try clear hb2); (try clear hk); (try clear hi)) | (go_at_call 15; (with_reducible refine (percent_Decode.calls (a1.extract 0 ((ji4) : Int).toNat) t145 _ A24.out).mono ?_); rintro e w28 ⟨rfl, hb⟩; have n0_ := Aside0.mk (below_step (by repeat (first | (with_reducible first | exact HB.out | apply below_alloc | apply pw_below_drewN | apply below_drew1) | exact HB.out)) hb); clear HB; have HB := n0_; clear n0_; (try clear hb); (try clear hb2); (try clear hk); (try clear hi)) | (go_at_call 16; (with_reducible refine (transeptref06_Decode.calls k1 (a1.extract 0 ((ji4) : Int).toNat) t146 _ A25.out).mono ?_); rintro e w29 ⟨rfl, hb⟩; have n0_ := Aside0.mk (below_step (by repeat (first | (with_reducible first | exact HB.out | apply below_alloc | apply pw_below_drewN | apply below_drew1) | exact HB.out)) hb); clear HB; have HB := n0_; clear n0_; (try clear hb); (try clear hb2); (try clear hk); (try clear hi)))
                go_ret
                exact ⟨by first | rfl | (simp [errW_none, errW_some] <;> rfl) | (simp only [← hji4]; first | rfl | (simp [errW_none, errW_some] <;> rfl)) | (simp [*, errW_none, errW_some] <;> rfl), by repeat (first | (with_reducible first | exact HB.out | apply below_alloc | apply pw_below_drewN | apply below_drew1) | exact HB.out)⟩
              · rw [if_neg c23] at H
                have c23b0 : (t143.toList == t144.toList) = false := beq_eq_false_iff_ne.mpr c23
                have c23b1 : (t143.toList != t144.toList) = true := bne_iff_ne.mpr c23
                exact absurd HT.out (by rw [← Option.some.inj H]; decide)
            · replace c20 := Bool.eq_false_iff.mpr c20
              subst c20
              have H1 : (some false) = some r := by rw [if_neg (show ¬ (false = true) by decide)] at H; exact H
              clear H
              have H := H1
              clear H1
              exact absurd HT.out (by rw [← Option.some.inj H]; decide)
    · rw [if_neg c6] at H
      exact absurd H (by simp)
  · rw [if_neg c5] at H
    exact absurd H (by simp)

/-- THE ONE PURE STATEMENT of transeptlaw06_PercentTells: yours. -/
def transeptlaw06_PercentTells.Pure : Prop := ∀ (a0 : Int) (a1 : ByteArray), (Lit.int .i64 a0).wf = true → a1.size ≤ 140737488351232 → ∃ k, transeptlaw06_PercentTells.f k a0 a1 = some true
theorem transeptlaw06_PercentTells.walk (P : transeptlaw06_PercentTells.Pure) (a0 : Int) (a1 : ByteArray) (w : World) (w0 : (Lit.int .i64 a0).wf = true) (w1 : a1.size ≤ 140737488351232) :
    Calls Try.prog 3 #[.int .i64 a0, .string a1] w fun e w' => e = .returned (.bool true) ∧ Below w.heap.size w w' := by
  obtain ⟨k, h⟩ := P a0 a1 w0 w1
  refine (transeptlaw06_PercentTells.calls k a0 a1 true w rfl h).mono ?_
  rintro e w' ⟨rfl, hd⟩
  exact ⟨rfl, hd⟩

end Go.Proofs.Ytpofepfkalighaa.Xa
