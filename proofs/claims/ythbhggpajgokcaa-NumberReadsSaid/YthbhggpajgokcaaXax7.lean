-- Written by a program of this session (wip/tools/xprint.py), in the manner of the print of the kit.
import Derived.Test.YthbhggpajgokcaaXax0
import Derived.Test.YthbhggpajgokcaaXax6
import Derived.Test.YthbhggpajgokcaaStr
import Derived.Test.YthbhggpajgokcaaGet
namespace Go.Proofs.Ythbhggpajgokcaa.Xa
open Go.RowKit Go.Proofs.Ythbhggpajgokcaa.Ext Go.Proofs.YthbhggpajgokcaaW.PrintWords Go.Proofs.YthbhggpajgokcaaW.PrintLast Go.Proofs.YthbhggpajgokcaaW.PrintMore
attribute [local go_sem] max2_int min2_int max_two min_two max_three min_three max_four min_four   -- for this text's walks alone
set_option linter.unusedVariables false
set_option linter.unusedSimpArgs false

/-! ### transeptref01_Text: function 14 -/
def transeptref01_Text.j0 : Nat → ByteArray → Int → Int → Bool → Option (ByteArray × Int × Int)
  | 0, _, _, _, _ => none
  | k + 1, x0, x7, x8, x27 => if x27 = true then (some ((⟨#[]⟩ : ByteArray), wrap64 (x8 - 1), 5)) else (if x7 > (IntKind.u64.wrap (wrap64 ((x0.size : Int) - x8))) then (some ((⟨#[]⟩ : ByteArray), (x0.size : Int), 2)) else (if 0 ≤ x8 then (if x8 ≤ (wrap64 (x8 + (wrap64 (x7)))) then (if (wrap64 (x8 + (wrap64 (x7)))) ≤ (x0.size : Int) then (some (x0.extract (x8 : Int).toNat ((wrap64 (x8 + (wrap64 (x7)))) : Int).toNat, wrap64 (x8 + (wrap64 (x7))), 0)) else (none)) else (none)) else (none)))
def transeptref01_Text.f (k : Nat) (a0 : ByteArray) (a1 : Int) : Option (ByteArray × Int × Int) := (transeptref01_Get.f k a0).bind fun bt139 => (if bt139.2.2 = 0 then (if a1 < 0 then (transeptref01_Text.j0 k a0 bt139.1 bt139.2.1 true) else (transeptref01_Text.j0 k a0 bt139.1 bt139.2.1 (decide (bt139.1 > (IntKind.u64.wrap (a1)))))) else (some ((⟨#[]⟩ : ByteArray), bt139.2.1, bt139.2.2)))
theorem transeptref01_Text.mono_l : ∀ k, (∀ y0 y1 y2 y3, LeO (transeptref01_Text.j0 k y0 y1 y2 y3) (transeptref01_Text.j0 (k + 1) y0 y1 y2 y3))
  | 0 => fun _ _ _ _ r h => by simp [transeptref01_Text.j0] at h
  | k + 1 => by
    have ih0 := transeptref01_Text.mono_l k
    · intro y0 y1 y2 y3
      unfold transeptref01_Text.j0
      repeat' first
      | (with_reducible exact ih0 _ _ _ _)
      | (with_reducible exact transeptref01_Get.mono _ _)
      | (with_reducible exact LeO.refl _)
      | (with_reducible exact LeO.none _)
      | (with_reducible refine LeO.ite ?_ ?_)
      | (with_reducible refine LeO.bind ?_ (fun _ => ?_))
      | exact ih0 _ _ _ _
      | exact transeptref01_Get.mono _ _
      | exact LeO.none _
      | refine LeO.ite ?_ ?_
      | refine LeO.bind ?_ (fun _ => ?_)
theorem transeptref01_Text.mono : ∀ a0 a1 k, LeO (transeptref01_Text.f k a0 a1) (transeptref01_Text.f (k + 1) a0 a1) := by
  intro a0 a1 k
  have ih0 := transeptref01_Text.mono_l k
  unfold transeptref01_Text.f
  repeat' first
      | (with_reducible exact ih0 _ _ _ _)
      | (with_reducible exact transeptref01_Get.mono _ _)
      | (with_reducible exact LeO.refl _)
      | (with_reducible exact LeO.none _)
      | (with_reducible refine LeO.ite ?_ ?_)
      | (with_reducible refine LeO.bind ?_ (fun _ => ?_))
      | exact ih0 _ _ _ _
      | exact transeptref01_Get.mono _ _
      | exact LeO.none _
      | refine LeO.ite ?_ ?_
      | refine LeO.bind ?_ (fun _ => ?_)
set_option maxHeartbeats 8000000 in
set_option maxRecDepth 100000 in
theorem transeptref01_Text.calls (k : Nat) (a0 : ByteArray) (a1 : Int) (r1 : ByteArray) (r2 : Int) (r3 : Int) (w : World) (h : transeptref01_Text.f k a0 a1 = some (r1, r2, r3)) :
    Calls Try.prog 14 #[.string a0, .int .i64 a1] w fun e w' => e = .returned (.tuple #[.string r1, .int .i64 r2, .int .i64 r3]) ∧ Drawn0 w w' := by
  have H : ((transeptref01_Get.f k a0).bind fun bt139 => (if bt139.2.2 = 0 then (if a1 < 0 then (transeptref01_Text.j0 k a0 bt139.1 bt139.2.1 true) else (transeptref01_Text.j0 k a0 bt139.1 bt139.2.1 (decide (bt139.1 > (IntKind.u64.wrap (a1)))))) else (some ((⟨#[]⟩ : ByteArray), bt139.2.1, bt139.2.2)))) = some (r1, r2, r3) := h
  clear h
  replace H := Option.bind_eq_some_iff.mp H
  obtain ⟨⟨t139, t140, t141⟩, A30, H⟩ := H
  replace H : (if t141 = 0 then (if a1 < 0 then (transeptref01_Text.j0 k a0 t139 t140 true) else (transeptref01_Text.j0 k a0 t139 t140 (decide (t139 > (IntKind.u64.wrap (a1)))))) else (some ((⟨#[]⟩ : ByteArray), t140, t141))) = some (r1, r2, r3) := H
  have A3 := Aside0.mk A30
  clear A30
  by_cases c4 : t141 = 0
  · rw [if_pos c4] at H
    have c4b0 : (t141 == 0) = true := beq_iff_eq.mpr c4
    have c4b1 : (t141 != 0) = false := bne_eq_false_iff_eq.mpr c4
    clear c4
    have HC5 := Aside0.mk H
    clear H
    go_enter Try.func14, Try.ntmps14
    go_upto_region 4 with (first | ((with_reducible refine gate_callee (f := 12) rfl ?_); refine goesL_ (some 12) rfl rfl Try.func12 (by kernel_rfl) rfl #[.string a0] rfl (by (try simp only [List.map_toArray, List.map_cons, List.map_nil]); first | done | rfl | (simp only [List.length_drop, List.length_take]; rfl)) ?_; (with_reducible refine (transeptref01_Get.calls k a0 t139 t140 t141 _ A3.out).mono ?_); rintro e w' ⟨rfl, ⟨nd, rfl⟩⟩; refine ⟨_, rfl, ?_⟩))
    (try simp only [Act.put, List.setIfInBounds_toArray, List.set_cons_zero, List.set_cons_succ])
    go_cut [27] (fun v27 wc => ∃ (kq : Nat) (x27_4 : Bool), v27 = .bool x27_4 ∧ Aside0 (transeptref01_Text.j0 kq a0 t139 t140 x27_4 = some (r1, r2, r3)) ∧ Aside0 (kq ≤ k) ∧ Drawn0 w wc)
    case first =>
      have H := HC5.out
      clear HC5
      by_cases c6 : a1 < 0
      · rw [if_pos c6] at H
        have c6b0 : decide (a1 < 0) = true := decide_eq_true c6
        clear c6
        (first | rw [c6b0] | (simp only [i64_w, i32_w]; rw [c6b0]) | skip)
        have H' := Aside0.mk H
        clear H
        go_wp2
        go_meet
        case rel => exact ⟨_, (true), (by first | rfl | (simp; done) | (simp [*]; done)), H', ⟨by first | omega | exact Nat.le_refl _⟩, by repeat (first | exact Drawn0.refl _ | apply Drawn0.step)⟩
      · rw [if_neg c6] at H
        have c6b0 : decide (a1 < 0) = false := decide_eq_false c6
        clear c6
        (first | rw [c6b0] | (simp only [i64_w, i32_w]; rw [c6b0]) | skip)
        have H' := Aside0.mk H
        clear H
        go_wp2
        go_meet
        case rel => exact ⟨_, (decide (t139 > (IntKind.u64.wrap (a1)))), (by first | rfl | (simp; done) | (simp [*]; done)), H', ⟨by first | omega | exact Nat.le_refl _⟩, by repeat (first | exact Drawn0.refl _ | apply Drawn0.step)⟩
    case rest =>
      clear HC5
      try clear c1
      try clear p2
      try clear c4
      try clear c4b0
      try clear c4b1
      try clear c6
      try clear c6b0
      obtain ⟨kq, x27_4, rfl, HA, HJ4, ⟨mc4, rfl⟩⟩ := hcut
      cases kq with
      | zero => exact absurd HA.out (by simp [transeptref01_Text.j0])
      | succ kj4 =>
        have H := HA.out
        clear HA
        simp only [transeptref01_Text.j0] at H
        by_cases c7 : x27_4 = true
        · subst c7
          have H1 : (some ((⟨#[]⟩ : ByteArray), wrap64 (t140 - 1), 5)) = some (r1, r2, r3) := by rw [if_pos rfl] at H; exact H
          clear H
          have H := H1
          clear H1
          simp only [Option.some.injEq, Prod.mk.injEq] at H
          obtain ⟨rfl, rfl, rfl⟩ := H
          go_wp2
          go_ret3
          exact ⟨by first | rfl | (simp; done) | (simp [*]; done), by repeat (first | exact Drawn0.refl _ | apply Drawn0.step)⟩
        · replace c7 := Bool.eq_false_iff.mpr c7
          subst c7
          have H1 : (if t139 > (IntKind.u64.wrap (wrap64 ((a0.size : Int) - t140))) then (some ((⟨#[]⟩ : ByteArray), (a0.size : Int), 2)) else (if 0 ≤ t140 then (if t140 ≤ (wrap64 (t140 + (wrap64 (t139)))) then (if (wrap64 (t140 + (wrap64 (t139)))) ≤ (a0.size : Int) then (some (a0.extract (t140 : Int).toNat ((wrap64 (t140 + (wrap64 (t139)))) : Int).toNat, wrap64 (t140 + (wrap64 (t139))), 0)) else (none)) else (none)) else (none))) = some (r1, r2, r3) := by rw [if_neg (show ¬ (false = true) by decide)] at H; exact H
          clear H
          have H := H1
          clear H1
          by_cases c8 : t139 > (IntKind.u64.wrap (wrap64 ((a0.size : Int) - t140)))
          · rw [if_pos c8] at H
            have c8b0 : decide ((IntKind.u64.wrap (wrap64 ((a0.size : Int) - t140))) < t139) = true := decide_eq_true c8
            clear c8
            simp only [Option.some.injEq, Prod.mk.injEq] at H
            obtain ⟨rfl, rfl, rfl⟩ := H
            go_wp2
            go_ret3
            exact ⟨by first | rfl | (simp; done) | (simp [*]; done), by repeat (first | exact Drawn0.refl _ | apply Drawn0.step)⟩
          · rw [if_neg c8] at H
            have c8b0 : decide ((IntKind.u64.wrap (wrap64 ((a0.size : Int) - t140))) < t139) = false := decide_eq_false c8
            clear c8
            by_cases c9 : 0 ≤ t140
            · rw [if_pos c9] at H
              have c9b0 := eq_true c9
              have c9b1 : decide (0 ≤ t140) = true := decide_eq_true c9
              clear c9
              by_cases c10 : t140 ≤ (wrap64 (t140 + (wrap64 (t139))))
              · rw [if_pos c10] at H
                have c10b0 := eq_true c10
                have c10b1 : decide (t140 ≤ (wrap64 (t140 + (wrap64 (t139))))) = true := decide_eq_true c10
                by_cases c11 : (wrap64 (t140 + (wrap64 (t139)))) ≤ (a0.size : Int)
                · rw [if_pos c11] at H
                  have c11b0 := eq_true c11
                  have c11b1 : decide ((wrap64 (t140 + (wrap64 (t139)))) ≤ (a0.size : Int)) = true := decide_eq_true c11
                  simp only [Option.some.injEq, Prod.mk.injEq] at H
                  obtain ⟨rfl, rfl, rfl⟩ := H
                  go_wp2
                  go_ret3
                  exact ⟨by first | rfl | (simp; done) | (simp [*]; done), by repeat (first | exact Drawn0.refl _ | apply Drawn0.step)⟩
                · rw [if_neg c11] at H
                  exact absurd H (by simp)
              · rw [if_neg c10] at H
                exact absurd H (by simp)
            · rw [if_neg c9] at H
              exact absurd H (by simp)
  · rw [if_neg c4] at H
    have c4b0 : (t141 == 0) = false := beq_eq_false_iff_ne.mpr c4
    have c4b1 : (t141 != 0) = true := bne_iff_ne.mpr c4
    simp only [Option.some.injEq, Prod.mk.injEq] at H
    obtain ⟨rfl, rfl, rfl⟩ := H
    go_enter Try.func14, Try.ntmps14
    go_wp2_with (first | ((with_reducible refine gate_callee (f := 12) rfl ?_); refine goesL_ (some 12) rfl rfl Try.func12 (by kernel_rfl) rfl #[.string a0] rfl (by (try simp only [List.map_toArray, List.map_cons, List.map_nil]); first | done | rfl | (simp only [List.length_drop, List.length_take]; rfl)) ?_; (with_reducible refine (transeptref01_Get.calls k a0 t139 t140 t141 _ A3.out).mono ?_); rintro e w' ⟨rfl, ⟨nd, rfl⟩⟩; refine ⟨_, rfl, ?_⟩))
    go_ret3
    exact ⟨by first | rfl | (simp; done) | (simp [*]; done), by repeat (first | exact Drawn0.refl _ | apply Drawn0.step)⟩

end Go.Proofs.Ythbhggpajgokcaa.Xa
