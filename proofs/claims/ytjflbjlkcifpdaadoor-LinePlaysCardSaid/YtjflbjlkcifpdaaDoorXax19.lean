-- Written by a program of this session (wip/tools/xprint.py), in the manner of the print of the kit.
import Derived.Test.YtjflbjlkcifpdaaDoorXax0
namespace Go.Proofs.YtjflbjlkcifpdaaDoor.Xa
open Go.RowKit Go.Proofs.YtjflbjlkcifpdaaDoorW.PrintWords Go.Proofs.YtjflbjlkcifpdaaDoorW.PrintLast Go.Proofs.YtjflbjlkcifpdaaDoorW.PrintMore
attribute [local go_sem] max2_int min2_int max_two min_two max_three min_three max_four min_four   -- for this text's walks alone
set_option linter.unusedVariables false
set_option linter.unusedSimpArgs false

/-! ### transeptref05_Shape: function 33 -/
mutual
def transeptref05_Shape.j0 : Nat → Int → Bool → Option (ByteArray)
  | 0, _, _ => none
  | k + 1, x3, x4 => if x4 = true then (some (⟨#[116]⟩ : ByteArray)) else (if x3 = 3 then (some (⟨#[116, 116, 116, 116, 52, 51, 51]⟩ : ByteArray)) else (if x3 = 4 then (transeptref05_Shape.j1 k x3 (x3 == 4)) else (if x3 = 6 then (transeptref05_Shape.j1 k x3 (x3 == 6)) else (transeptref05_Shape.j1 k x3 (x3 == 9)))))
def transeptref05_Shape.j1 : Nat → Int → Bool → Option (ByteArray)
  | 0, _, _ => none
  | k + 1, x3, x11 => if x11 = true then (some (⟨#[116, 116]⟩ : ByteArray)) else (if x3 = 7 then (transeptref05_Shape.j2 k x3 (x3 == 7)) else (transeptref05_Shape.j2 k x3 (x3 == 10)))
def transeptref05_Shape.j2 : Nat → Int → Bool → Option (ByteArray)
  | 0, _, _ => none
  | k + 1, x3, x15 => if x15 = true then (some (⟨#[115]⟩ : ByteArray)) else (if x3 = 14 then (some (⟨#[52]⟩ : ByteArray)) else (if x3 = 5 then (some (⟨#[]⟩ : ByteArray)) else (if x3 = 8 then (some (⟨#[]⟩ : ByteArray)) else (if x3 = 13 then (some (⟨#[]⟩ : ByteArray)) else (some (⟨#[45]⟩ : ByteArray))))))
end
def transeptref05_Shape.f (k : Nat) (a0 : Int) : Option (ByteArray) := if a0 = 1 then (transeptref05_Shape.j0 k a0 (a0 == 1)) else (if a0 = 2 then (transeptref05_Shape.j0 k a0 (a0 == 2)) else (if a0 = 11 then (transeptref05_Shape.j0 k a0 (a0 == 11)) else (transeptref05_Shape.j0 k a0 (a0 == 12))))
theorem transeptref05_Shape.mono_l : ∀ k, (∀ y0 y1, LeO (transeptref05_Shape.j0 k y0 y1) (transeptref05_Shape.j0 (k + 1) y0 y1)) ∧ (∀ y0 y1, LeO (transeptref05_Shape.j1 k y0 y1) (transeptref05_Shape.j1 (k + 1) y0 y1)) ∧ (∀ y0 y1, LeO (transeptref05_Shape.j2 k y0 y1) (transeptref05_Shape.j2 (k + 1) y0 y1))
  | 0 => ⟨fun _ _ r h => by simp [transeptref05_Shape.j0] at h, fun _ _ r h => by simp [transeptref05_Shape.j1] at h, fun _ _ r h => by simp [transeptref05_Shape.j2] at h⟩
  | k + 1 => by
    obtain ⟨ih0, ih1, ih2⟩ := transeptref05_Shape.mono_l k
    refine ⟨?_, ?_, ?_⟩
    · intro y0 y1
      unfold transeptref05_Shape.j0
      repeat' first
      | (with_reducible exact ih0 _ _)
      | (with_reducible exact ih1 _ _)
      | (with_reducible exact ih2 _ _)
      | (with_reducible exact LeO.refl _)
      | (with_reducible exact LeO.none _)
      | (with_reducible refine LeO.ite ?_ ?_)
      | (with_reducible refine LeO.bind ?_ (fun _ => ?_))
      | exact ih0 _ _
      | exact ih1 _ _
      | exact ih2 _ _
      | exact LeO.none _
      | refine LeO.ite ?_ ?_
      | refine LeO.bind ?_ (fun _ => ?_)
    · intro y0 y1
      unfold transeptref05_Shape.j1
      repeat' first
      | (with_reducible exact ih0 _ _)
      | (with_reducible exact ih1 _ _)
      | (with_reducible exact ih2 _ _)
      | (with_reducible exact LeO.refl _)
      | (with_reducible exact LeO.none _)
      | (with_reducible refine LeO.ite ?_ ?_)
      | (with_reducible refine LeO.bind ?_ (fun _ => ?_))
      | exact ih0 _ _
      | exact ih1 _ _
      | exact ih2 _ _
      | exact LeO.none _
      | refine LeO.ite ?_ ?_
      | refine LeO.bind ?_ (fun _ => ?_)
    · intro y0 y1
      unfold transeptref05_Shape.j2
      repeat' first
      | (with_reducible exact ih0 _ _)
      | (with_reducible exact ih1 _ _)
      | (with_reducible exact ih2 _ _)
      | (with_reducible exact LeO.refl _)
      | (with_reducible exact LeO.none _)
      | (with_reducible refine LeO.ite ?_ ?_)
      | (with_reducible refine LeO.bind ?_ (fun _ => ?_))
      | exact ih0 _ _
      | exact ih1 _ _
      | exact ih2 _ _
      | exact LeO.none _
      | refine LeO.ite ?_ ?_
      | refine LeO.bind ?_ (fun _ => ?_)
theorem transeptref05_Shape.mono : ∀ a0 k, LeO (transeptref05_Shape.f k a0) (transeptref05_Shape.f (k + 1) a0) := by
  intro a0 k
  obtain ⟨ih0, ih1, ih2⟩ := transeptref05_Shape.mono_l k
  unfold transeptref05_Shape.f
  repeat' first
      | (with_reducible exact ih0 _ _)
      | (with_reducible exact ih1 _ _)
      | (with_reducible exact ih2 _ _)
      | (with_reducible exact LeO.refl _)
      | (with_reducible exact LeO.none _)
      | (with_reducible refine LeO.ite ?_ ?_)
      | (with_reducible refine LeO.bind ?_ (fun _ => ?_))
      | exact ih0 _ _
      | exact ih1 _ _
      | exact ih2 _ _
      | exact LeO.none _
      | refine LeO.ite ?_ ?_
      | refine LeO.bind ?_ (fun _ => ?_)
set_option maxHeartbeats 8000000 in
set_option maxRecDepth 100000 in
theorem transeptref05_Shape.calls (k : Nat) (a0 : Int) (r : ByteArray) (w : World) (h : transeptref05_Shape.f k a0 = some r) :
    Calls Tryd.prog 33 #[.int .i64 a0] w fun e w' => e = .returned (.string r) ∧ Drawn0 w w' := by
  have H : (if a0 = 1 then (transeptref05_Shape.j0 k a0 (a0 == 1)) else (if a0 = 2 then (transeptref05_Shape.j0 k a0 (a0 == 2)) else (if a0 = 11 then (transeptref05_Shape.j0 k a0 (a0 == 11)) else (transeptref05_Shape.j0 k a0 (a0 == 12))))) = some r := h
  clear h
  have HC2 := Aside0.mk H
  clear H
  go_enter Tryd.func33, Tryd.ntmps33
  go_upto_if 4 with (fail)
  go_cut [4] (fun v4 wc => ∃ (kq : Nat) (x4_1 : Bool), v4 = .bool x4_1 ∧ Aside0 (transeptref05_Shape.j0 kq a0 x4_1 = some r) ∧ Aside0 (kq ≤ k) ∧ Drawn0 w wc)
  case first =>
    have H := HC2.out
    clear HC2
    by_cases c3 : a0 = 1
    · rw [if_pos c3] at H
      have c3b0 : (a0 == 1) = true := beq_iff_eq.mpr c3
      have c3b1 : (a0 != 1) = false := bne_eq_false_iff_eq.mpr c3
      clear c3
      (first | rw [c3b0] | (simp only [i64_w, i32_w]; rw [c3b0]) | skip)
      have H' := Aside0.mk H
      clear H
      go_wp2
      go_meet
      case rel => exact ⟨_, ((a0 == 1)), (by first | rfl | (simp; done) | (simp [*]; done)), H', ⟨by first | omega | exact Nat.le_refl _⟩, by repeat (first | exact Drawn0.refl _ | apply Drawn0.step)⟩
    · rw [if_neg c3] at H
      have c3b0 : (a0 == 1) = false := beq_eq_false_iff_ne.mpr c3
      have c3b1 : (a0 != 1) = true := bne_iff_ne.mpr c3
      (first | rw [c3b0] | (simp only [i64_w, i32_w]; rw [c3b0]) | skip)
      by_cases c4 : a0 = 2
      · rw [if_pos c4] at H
        have c4b0 : (a0 == 2) = true := beq_iff_eq.mpr c4
        have c4b1 : (a0 != 2) = false := bne_eq_false_iff_eq.mpr c4
        clear c4
        have H' := Aside0.mk H
        clear H
        go_wp2
        go_meet
        case rel => exact ⟨_, ((a0 == 2)), (by first | rfl | (simp; done) | (simp [*]; done)), H', ⟨by first | omega | exact Nat.le_refl _⟩, by repeat (first | exact Drawn0.refl _ | apply Drawn0.step)⟩
      · rw [if_neg c4] at H
        have c4b0 : (a0 == 2) = false := beq_eq_false_iff_ne.mpr c4
        have c4b1 : (a0 != 2) = true := bne_iff_ne.mpr c4
        by_cases c5 : a0 = 11
        · rw [if_pos c5] at H
          have c5b0 : (a0 == 11) = true := beq_iff_eq.mpr c5
          have c5b1 : (a0 != 11) = false := bne_eq_false_iff_eq.mpr c5
          clear c5
          have H' := Aside0.mk H
          clear H
          go_wp2
          go_meet
          case rel => exact ⟨_, ((a0 == 11)), (by first | rfl | (simp; done) | (simp [*]; done)), H', ⟨by first | omega | exact Nat.le_refl _⟩, by repeat (first | exact Drawn0.refl _ | apply Drawn0.step)⟩
        · rw [if_neg c5] at H
          have c5b0 : (a0 == 11) = false := beq_eq_false_iff_ne.mpr c5
          have c5b1 : (a0 != 11) = true := bne_iff_ne.mpr c5
          have H' := Aside0.mk H
          clear H
          go_wp2
          go_meet
          case rel => exact ⟨_, ((a0 == 12)), (by first | rfl | (simp; done) | (simp [*]; done)), H', ⟨by first | omega | exact Nat.le_refl _⟩, by repeat (first | exact Drawn0.refl _ | apply Drawn0.step)⟩
  case rest =>
    clear HC2
    try clear p2
    try clear c3
    try clear c3b0
    try clear c3b1
    try clear c4
    try clear c4b0
    try clear c4b1
    try clear c5
    try clear c5b0
    try clear c5b1
    obtain ⟨kq, x4_1, rfl, HA, HJ1, ⟨mc1, rfl⟩⟩ := hcut
    cases kq with
    | zero => exact absurd HA.out (by simp [transeptref05_Shape.j0])
    | succ kj1 =>
      have H := HA.out
      clear HA
      simp only [transeptref05_Shape.j0] at H
      by_cases c6 : x4_1 = true
      · subst c6
        have H1 : (some (⟨#[116]⟩ : ByteArray)) = some r := by rw [if_pos rfl] at H; exact H
        clear H
        have H := H1
        clear H1
        obtain rfl := Option.some.inj H
        go_wp2
        go_ret
        exact ⟨by first | rfl | (simp; done) | (simp [*]; done), by repeat (first | exact Drawn0.refl _ | apply Drawn0.step)⟩
      · replace c6 := Bool.eq_false_iff.mpr c6
        subst c6
        have H1 : (if a0 = 3 then (some (⟨#[116, 116, 116, 116, 52, 51, 51]⟩ : ByteArray)) else (if a0 = 4 then (transeptref05_Shape.j1 kj1 a0 (a0 == 4)) else (if a0 = 6 then (transeptref05_Shape.j1 kj1 a0 (a0 == 6)) else (transeptref05_Shape.j1 kj1 a0 (a0 == 9))))) = some r := by rw [if_neg (show ¬ (false = true) by decide)] at H; exact H
        clear H
        have H := H1
        clear H1
        by_cases c7 : a0 = 3
        · rw [if_pos c7] at H
          have c7b0 : (a0 == 3) = true := beq_iff_eq.mpr c7
          have c7b1 : (a0 != 3) = false := bne_eq_false_iff_eq.mpr c7
          clear c7
          obtain rfl := Option.some.inj H
          go_wp2
          go_ret
          exact ⟨by first | rfl | (simp; done) | (simp [*]; done), by repeat (first | exact Drawn0.refl _ | apply Drawn0.step)⟩
        · rw [if_neg c7] at H
          have c7b0 : (a0 == 3) = false := beq_eq_false_iff_ne.mpr c7
          have c7b1 : (a0 != 3) = true := bne_iff_ne.mpr c7
          have HC8 := Aside0.mk H
          clear H
          go_upto_if 11 with (fail)
          go_cut [11] (fun v11 wc => ∃ (kq : Nat) (x11_7 : Bool), v11 = .bool x11_7 ∧ Aside0 (transeptref05_Shape.j1 kq a0 x11_7 = some r) ∧ Aside0 (kq ≤ kj1) ∧ Drawn0 w wc)
          case first =>
            have H := HC8.out
            clear HC8
            by_cases c9 : a0 = 4
            · rw [if_pos c9] at H
              have c9b0 : (a0 == 4) = true := beq_iff_eq.mpr c9
              have c9b1 : (a0 != 4) = false := bne_eq_false_iff_eq.mpr c9
              clear c9
              (first | rw [c9b0] | (simp only [i64_w, i32_w]; rw [c9b0]) | skip)
              have H' := Aside0.mk H
              clear H
              go_wp2
              go_meet
              case rel => exact ⟨_, ((a0 == 4)), (by first | rfl | (simp; done) | (simp [*]; done)), H', ⟨by have := HJ1.out; first | omega | exact Nat.le_refl _⟩, by repeat (first | exact Drawn0.refl _ | apply Drawn0.step)⟩
            · rw [if_neg c9] at H
              have c9b0 : (a0 == 4) = false := beq_eq_false_iff_ne.mpr c9
              have c9b1 : (a0 != 4) = true := bne_iff_ne.mpr c9
              (first | rw [c9b0] | (simp only [i64_w, i32_w]; rw [c9b0]) | skip)
              by_cases c10 : a0 = 6
              · rw [if_pos c10] at H
                have c10b0 : (a0 == 6) = true := beq_iff_eq.mpr c10
                have c10b1 : (a0 != 6) = false := bne_eq_false_iff_eq.mpr c10
                clear c10
                have H' := Aside0.mk H
                clear H
                go_wp2
                go_meet
                case rel => exact ⟨_, ((a0 == 6)), (by first | rfl | (simp; done) | (simp [*]; done)), H', ⟨by have := HJ1.out; first | omega | exact Nat.le_refl _⟩, by repeat (first | exact Drawn0.refl _ | apply Drawn0.step)⟩
              · rw [if_neg c10] at H
                have c10b0 : (a0 == 6) = false := beq_eq_false_iff_ne.mpr c10
                have c10b1 : (a0 != 6) = true := bne_iff_ne.mpr c10
                have H' := Aside0.mk H
                clear H
                go_wp2
                go_meet
                case rel => exact ⟨_, ((a0 == 9)), (by first | rfl | (simp; done) | (simp [*]; done)), H', ⟨by have := HJ1.out; first | omega | exact Nat.le_refl _⟩, by repeat (first | exact Drawn0.refl _ | apply Drawn0.step)⟩
          case rest =>
            clear HC8
            try clear c1
            try clear p2
            try clear c3
            try clear c3b0
            try clear c3b1
            try clear c4
            try clear c4b0
            try clear c4b1
            try clear c5
            try clear c5b0
            try clear c5b1
            try clear c6
            try clear c7
            try clear c7b0
            try clear c7b1
            try clear c9
            try clear c9b0
            try clear c9b1
            try clear c10
            try clear c10b0
            try clear c10b1
            try clear p2
            obtain ⟨kq, x11_7, rfl, HA, HJ7, ⟨mc7, rfl⟩⟩ := hcut
            cases kq with
            | zero => exact absurd HA.out (by simp [transeptref05_Shape.j1])
            | succ kj7 =>
              have H := HA.out
              clear HA
              simp only [transeptref05_Shape.j1] at H
              by_cases c11 : x11_7 = true
              · subst c11
                have H1 : (some (⟨#[116, 116]⟩ : ByteArray)) = some r := by rw [if_pos rfl] at H; exact H
                clear H
                have H := H1
                clear H1
                obtain rfl := Option.some.inj H
                go_wp2
                go_ret
                exact ⟨by first | rfl | (simp; done) | (simp [*]; done), by repeat (first | exact Drawn0.refl _ | apply Drawn0.step)⟩
              · replace c11 := Bool.eq_false_iff.mpr c11
                subst c11
                have H1 : (if a0 = 7 then (transeptref05_Shape.j2 kj7 a0 (a0 == 7)) else (transeptref05_Shape.j2 kj7 a0 (a0 == 10))) = some r := by rw [if_neg (show ¬ (false = true) by decide)] at H; exact H
                clear H
                have H := H1
                clear H1
                have HC12 := Aside0.mk H
                clear H
                go_upto_if 15 with (fail)
                go_cut [15] (fun v15 wc => ∃ (kq : Nat) (x15_11 : Bool), v15 = .bool x15_11 ∧ Aside0 (transeptref05_Shape.j2 kq a0 x15_11 = some r) ∧ Aside0 (kq ≤ kj7) ∧ Drawn0 w wc)
                case first =>
                  have H := HC12.out
                  clear HC12
                  by_cases c13 : a0 = 7
                  · rw [if_pos c13] at H
                    have c13b0 : (a0 == 7) = true := beq_iff_eq.mpr c13
                    have c13b1 : (a0 != 7) = false := bne_eq_false_iff_eq.mpr c13
                    clear c13
                    (first | rw [c13b0] | (simp only [i64_w, i32_w]; rw [c13b0]) | skip)
                    have H' := Aside0.mk H
                    clear H
                    go_wp2
                    go_meet
                    case rel => exact ⟨_, ((a0 == 7)), (by first | rfl | (simp; done) | (simp [*]; done)), H', ⟨by have := HJ1.out; have := HJ7.out; first | omega | exact Nat.le_refl _⟩, by repeat (first | exact Drawn0.refl _ | apply Drawn0.step)⟩
                  · rw [if_neg c13] at H
                    have c13b0 : (a0 == 7) = false := beq_eq_false_iff_ne.mpr c13
                    have c13b1 : (a0 != 7) = true := bne_iff_ne.mpr c13
                    (first | rw [c13b0] | (simp only [i64_w, i32_w]; rw [c13b0]) | skip)
                    have H' := Aside0.mk H
                    clear H
                    go_wp2
                    go_meet
                    case rel => exact ⟨_, ((a0 == 10)), (by first | rfl | (simp; done) | (simp [*]; done)), H', ⟨by have := HJ1.out; have := HJ7.out; first | omega | exact Nat.le_refl _⟩, by repeat (first | exact Drawn0.refl _ | apply Drawn0.step)⟩
                case rest =>
                  clear HC12
                  try clear c1
                  try clear p2
                  try clear c3
                  try clear c3b0
                  try clear c3b1
                  try clear c4
                  try clear c4b0
                  try clear c4b1
                  try clear c5
                  try clear c5b0
                  try clear c5b1
                  try clear c6
                  try clear c7
                  try clear c7b0
                  try clear c7b1
                  try clear c9
                  try clear c9b0
                  try clear c9b1
                  try clear c10
                  try clear c10b0
                  try clear c10b1
                  try clear c11
                  try clear c13
                  try clear c13b0
                  try clear c13b1
                  try clear p2
                  obtain ⟨kq, x15_11, rfl, HA, HJ11, ⟨mc11, rfl⟩⟩ := hcut
                  cases kq with
                  | zero => exact absurd HA.out (by simp [transeptref05_Shape.j2])
                  | succ kj11 =>
                    have H := HA.out
                    clear HA
                    simp only [transeptref05_Shape.j2] at H
                    by_cases c14 : x15_11 = true
                    · subst c14
                      have H1 : (some (⟨#[115]⟩ : ByteArray)) = some r := by rw [if_pos rfl] at H; exact H
                      clear H
                      have H := H1
                      clear H1
                      obtain rfl := Option.some.inj H
                      go_wp2
                      go_ret
                      exact ⟨by first | rfl | (simp; done) | (simp [*]; done), by repeat (first | exact Drawn0.refl _ | apply Drawn0.step)⟩
                    · replace c14 := Bool.eq_false_iff.mpr c14
                      subst c14
                      have H1 : (if a0 = 14 then (some (⟨#[52]⟩ : ByteArray)) else (if a0 = 5 then (some (⟨#[]⟩ : ByteArray)) else (if a0 = 8 then (some (⟨#[]⟩ : ByteArray)) else (if a0 = 13 then (some (⟨#[]⟩ : ByteArray)) else (some (⟨#[45]⟩ : ByteArray)))))) = some r := by rw [if_neg (show ¬ (false = true) by decide)] at H; exact H
                      clear H
                      have H := H1
                      clear H1
                      by_cases c15 : a0 = 14
                      · rw [if_pos c15] at H
                        have c15b0 : (a0 == 14) = true := beq_iff_eq.mpr c15
                        have c15b1 : (a0 != 14) = false := bne_eq_false_iff_eq.mpr c15
                        clear c15
                        obtain rfl := Option.some.inj H
                        go_wp2
                        go_ret
                        exact ⟨by first | rfl | (simp; done) | (simp [*]; done), by repeat (first | exact Drawn0.refl _ | apply Drawn0.step)⟩
                      · rw [if_neg c15] at H
                        have c15b0 : (a0 == 14) = false := beq_eq_false_iff_ne.mpr c15
                        have c15b1 : (a0 != 14) = true := bne_iff_ne.mpr c15
                        by_cases c16 : a0 = 5
                        · rw [if_pos c16] at H
                          have c16b0 : (a0 == 5) = true := beq_iff_eq.mpr c16
                          have c16b1 : (a0 != 5) = false := bne_eq_false_iff_eq.mpr c16
                          clear c16
                          obtain rfl := Option.some.inj H
                          go_wp2
                          go_ret
                          exact ⟨by first | rfl | (simp; done) | (simp [*]; done), by repeat (first | exact Drawn0.refl _ | apply Drawn0.step)⟩
                        · rw [if_neg c16] at H
                          have c16b0 : (a0 == 5) = false := beq_eq_false_iff_ne.mpr c16
                          have c16b1 : (a0 != 5) = true := bne_iff_ne.mpr c16
                          by_cases c17 : a0 = 8
                          · rw [if_pos c17] at H
                            have c17b0 : (a0 == 8) = true := beq_iff_eq.mpr c17
                            have c17b1 : (a0 != 8) = false := bne_eq_false_iff_eq.mpr c17
                            clear c17
                            obtain rfl := Option.some.inj H
                            go_wp2
                            go_ret
                            exact ⟨by first | rfl | (simp; done) | (simp [*]; done), by repeat (first | exact Drawn0.refl _ | apply Drawn0.step)⟩
                          · rw [if_neg c17] at H
                            have c17b0 : (a0 == 8) = false := beq_eq_false_iff_ne.mpr c17
                            have c17b1 : (a0 != 8) = true := bne_iff_ne.mpr c17
                            by_cases c18 : a0 = 13
                            · rw [if_pos c18] at H
                              have c18b0 : (a0 == 13) = true := beq_iff_eq.mpr c18
                              have c18b1 : (a0 != 13) = false := bne_eq_false_iff_eq.mpr c18
                              clear c18
                              obtain rfl := Option.some.inj H
                              go_wp2
                              go_ret
                              exact ⟨by first | rfl | (simp; done) | (simp [*]; done), by repeat (first | exact Drawn0.refl _ | apply Drawn0.step)⟩
                            · rw [if_neg c18] at H
                              have c18b0 : (a0 == 13) = false := beq_eq_false_iff_ne.mpr c18
                              have c18b1 : (a0 != 13) = true := bne_iff_ne.mpr c18
                              obtain rfl := Option.some.inj H
                              go_wp2
                              go_ret
                              exact ⟨by first | rfl | (simp; done) | (simp [*]; done), by repeat (first | exact Drawn0.refl _ | apply Drawn0.step)⟩

end Go.Proofs.YtjflbjlkcifpdaaDoor.Xa
