-- Written by a program of this session (wip/tools/xprint.py), in the manner of the print of the kit.
import Derived.Test.YtbldmicpnibnpaaXax0
import Derived.Test.YtbldmicpnibnpaaXax7
import Derived.Test.YtbldmicpnibnpaaXax10
import Derived.Test.YtbldmicpnibnpaaNam
namespace Go.Proofs.Ytbldmicpnibnpaa.Xa
open Go.RowKit Go.Proofs.Ytbldmicpnibnpaa.Ext Go.Proofs.YtbldmicpnibnpaaW.PrintWords Go.Proofs.YtbldmicpnibnpaaW.PrintLast Go.Proofs.YtbldmicpnibnpaaW.PrintMore
attribute [local go_sem] max2_int min2_int max_two min_two max_three min_three max_four min_four   -- for this text's walks alone
set_option linter.unusedVariables false
set_option linter.unusedSimpArgs false

/-! ### transeptlaw10_FieldDigits: function 6 -/
mutual
def transeptlaw10_FieldDigits.j1 : Nat → Int → Int → Bool → ByteArray → Option (Bool)
  | 0, _, _, _, _ => none
  | k + 1, x0, x2, x7, x8 => (field_Number.f x8 x2).bind fun bt137 => (if 1 + x8.size ≤ 9223372036854775807 then ((field_Number.f ((⟨#[43]⟩ : ByteArray) ++ x8) x2).bind fun bt139 => (if x8.size + 1 ≤ 9223372036854775807 then ((field_Number.f (x8 ++ (⟨#[32]⟩ : ByteArray)) x2).bind fun bt141 => (if 9 + x8.size ≤ 9223372036854775807 then ((field_Number.f ((⟨#[48, 48, 48, 48, 48, 48, 48, 48, 48]⟩ : ByteArray) ++ x8) x2).bind fun bt143 => (if x7 = true then (if bt137.2 = true then (if bt137.1 = (mn x0 x2) then (if bt139.2 = true then (some false) else (if bt141.2 = true then (some false) else (some (!bt143.2)))) else (some false)) else (some false)) else (some false))) else (none))) else (none))) else (none))
def transeptlaw10_FieldDigits.l0 : Nat → Int → Int → Int → Bool → ByteArray → Int → Option (Bool)
  | 0, _, _, _, _, _, _ => none
  | k + 1, x0, x1, x2, x7, x8, x9 => if x9 < (Go.bits .and .i64 x1 7) then (if (x8.size : Int) < 9 then (if 1 + x8.size ≤ 9223372036854775807 then (transeptlaw10_FieldDigits.l0 k x0 x1 x2 x7 ((⟨#[48]⟩ : ByteArray) ++ x8) (wrap64 (x9 + 1))) else (none)) else (transeptlaw10_FieldDigits.j1 k x0 x2 x7 x8)) else (transeptlaw10_FieldDigits.j1 k x0 x2 x7 x8)
end
def transeptlaw10_FieldDigits.f (k : Nat) (a0 : Int) (a1 : Int) (a2 : Int) : Option (Bool) := (transeptlaw10_shown.f k).bind fun t135 => ((transeptlaw10_digits.f k (Int.tmod (Go.bits .and .i64 a0 281474976710655) 1000000000)).bind fun t136 => (transeptlaw10_FieldDigits.l0 k (Int.tmod (Go.bits .and .i64 a0 281474976710655) 1000000000) a1 a2 t135 t136 0))
theorem transeptlaw10_FieldDigits.mono_l : ∀ k, (∀ y0 y1 y2 y3, LeO (transeptlaw10_FieldDigits.j1 k y0 y1 y2 y3) (transeptlaw10_FieldDigits.j1 (k + 1) y0 y1 y2 y3)) ∧ (∀ y0 y1 y2 y3 y4 y5, LeO (transeptlaw10_FieldDigits.l0 k y0 y1 y2 y3 y4 y5) (transeptlaw10_FieldDigits.l0 (k + 1) y0 y1 y2 y3 y4 y5))
  | 0 => ⟨fun _ _ _ _ r h => by simp [transeptlaw10_FieldDigits.j1] at h, fun _ _ _ _ _ _ r h => by simp [transeptlaw10_FieldDigits.l0] at h⟩
  | k + 1 => by
    obtain ⟨ih0, ih1⟩ := transeptlaw10_FieldDigits.mono_l k
    refine ⟨?_, ?_⟩
    · intro y0 y1 y2 y3
      unfold transeptlaw10_FieldDigits.j1
      repeat' first
      | (with_reducible exact ih0 _ _ _ _)
      | (with_reducible exact ih1 _ _ _ _ _ _)
      | (with_reducible exact transeptlaw10_digits.mono _ _)
      | (with_reducible exact transeptlaw10_shown.mono _)
      | (with_reducible exact LeO.refl _)
      | (with_reducible exact LeO.none _)
      | (with_reducible refine LeO.ite ?_ ?_)
      | (with_reducible refine LeO.bind ?_ (fun _ => ?_))
      | exact ih0 _ _ _ _
      | exact ih1 _ _ _ _ _ _
      | exact transeptlaw10_digits.mono _ _
      | exact transeptlaw10_shown.mono _
      | exact LeO.none _
      | refine LeO.ite ?_ ?_
      | refine LeO.bind ?_ (fun _ => ?_)
    · intro y0 y1 y2 y3 y4 y5
      unfold transeptlaw10_FieldDigits.l0
      repeat' first
      | (with_reducible exact ih0 _ _ _ _)
      | (with_reducible exact ih1 _ _ _ _ _ _)
      | (with_reducible exact transeptlaw10_digits.mono _ _)
      | (with_reducible exact transeptlaw10_shown.mono _)
      | (with_reducible exact LeO.refl _)
      | (with_reducible exact LeO.none _)
      | (with_reducible refine LeO.ite ?_ ?_)
      | (with_reducible refine LeO.bind ?_ (fun _ => ?_))
      | exact ih0 _ _ _ _
      | exact ih1 _ _ _ _ _ _
      | exact transeptlaw10_digits.mono _ _
      | exact transeptlaw10_shown.mono _
      | exact LeO.none _
      | refine LeO.ite ?_ ?_
      | refine LeO.bind ?_ (fun _ => ?_)
theorem transeptlaw10_FieldDigits.mono : ∀ a0 a1 a2 k, LeO (transeptlaw10_FieldDigits.f k a0 a1 a2) (transeptlaw10_FieldDigits.f (k + 1) a0 a1 a2) := by
  intro a0 a1 a2 k
  obtain ⟨ih0, ih1⟩ := transeptlaw10_FieldDigits.mono_l k
  unfold transeptlaw10_FieldDigits.f
  repeat' first
      | (with_reducible exact ih0 _ _ _ _)
      | (with_reducible exact ih1 _ _ _ _ _ _)
      | (with_reducible exact transeptlaw10_digits.mono _ _)
      | (with_reducible exact transeptlaw10_shown.mono _)
      | (with_reducible exact LeO.refl _)
      | (with_reducible exact LeO.none _)
      | (with_reducible refine LeO.ite ?_ ?_)
      | (with_reducible refine LeO.bind ?_ (fun _ => ?_))
      | exact ih0 _ _ _ _
      | exact ih1 _ _ _ _ _ _
      | exact transeptlaw10_digits.mono _ _
      | exact transeptlaw10_shown.mono _
      | exact LeO.none _
      | refine LeO.ite ?_ ?_
      | refine LeO.bind ?_ (fun _ => ?_)
set_option maxHeartbeats 8000000 in
set_option maxRecDepth 100000 in
theorem transeptlaw10_FieldDigits.calls (k : Nat) (a0 : Int) (a1 : Int) (a2 : Int) (r : Bool) (w : World) (hT_ : r = true) (h : transeptlaw10_FieldDigits.f k a0 a1 a2 = some r) :
    Calls Try.prog 6 #[.int .i64 a0, .int .i64 a1, .int .i64 a2] w fun e w' => e = .returned (.bool r) ∧ Below w.heap.size w w' := by
  have HT := Aside0.mk hT_
  clear hT_
  have HB := Aside0.mk (Below.refl w.heap.size w)
  have H : ((transeptlaw10_shown.f k).bind fun t135 => ((transeptlaw10_digits.f k (Int.tmod (Go.bits .and .i64 a0 281474976710655) 1000000000)).bind fun t136 => (transeptlaw10_FieldDigits.l0 k (Int.tmod (Go.bits .and .i64 a0 281474976710655) 1000000000) a1 a2 t135 t136 0))) = some r := h
  clear h
  replace H := Option.bind_eq_some_iff.mp H
  obtain ⟨t135, A40, H⟩ := H
  replace H : ((transeptlaw10_digits.f k (Int.tmod (Go.bits .and .i64 a0 281474976710655) 1000000000)).bind fun t136 => (transeptlaw10_FieldDigits.l0 k (Int.tmod (Go.bits .and .i64 a0 281474976710655) 1000000000) a1 a2 t135 t136 0)) = some r := H
  have A4 := Aside0.mk A40
  clear A40
  replace H := Option.bind_eq_some_iff.mp H
  obtain ⟨t136, A50, H⟩ := H
  replace H : (transeptlaw10_FieldDigits.l0 k (Int.tmod (Go.bits .and .i64 a0 281474976710655) 1000000000) a1 a2 t135 t136 0) = some r := H
  have A5 := Aside0.mk A50
  clear A50
  have HC6 := Aside0.mk H
  clear H
  go_enter Try.func6, Try.ntmps6
  go_upto_block 0 with (first | ((with_reducible refine gate_callee (f := 7) rfl ?_); refine goesL_ (some 18) rfl rfl Try.func7 (by kernel_rfl) rfl #[] rfl (by (try simp only [List.map_toArray, List.map_cons, List.map_nil]); first | done | rfl | (simp only [List.length_drop, List.length_take]; rfl)) ?_; (with_reducible refine (transeptlaw10_shown.calls k  t135 _ A4.out).mono ?_); rintro e w7 ⟨rfl, hb⟩; refine ⟨_, rfl, ?_⟩; have n0_ := Aside0.mk (below_step (by repeat (first | (with_reducible first | exact HB.out | apply below_alloc | apply pw_below_drewN | apply below_drew1) | exact HB.out)) hb); clear HB; have HB := n0_; clear n0_; (try clear hb); (try clear hb2); (try clear hk); (try clear hi)) | ((with_reducible refine gate_callee (f := 19) rfl ?_); refine goesL_ (some 23) rfl rfl Try.func19 (by kernel_rfl) rfl #[.int .i64 (Int.tmod (Go.bits .and .i64 a0 281474976710655) 1000000000)] rfl (by (try simp only [List.map_toArray, List.map_cons, List.map_nil]); first | done | rfl | (simp only [List.length_drop, List.length_take]; rfl)) ?_; (with_reducible refine (transeptlaw10_digits.calls k (Int.tmod (Go.bits .and .i64 a0 281474976710655) 1000000000) t136 _ A5.out).mono ?_); rintro e w8 ⟨rfl, hb⟩; refine ⟨_, rfl, ?_⟩; have n0_ := Aside0.mk (below_step (by repeat (first | (with_reducible first | exact HB.out | apply below_alloc | apply pw_below_drewN | apply below_drew1) | exact HB.out)) hb); clear HB; have HB := n0_; clear n0_; (try clear hb); (try clear hb2); (try clear hk); (try clear hi)))
  (try simp only [Act.put, List.setIfInBounds_toArray, List.set_cons_zero, List.set_cons_succ])
  go_cut [8] (fun v8 wc => ∃ (kq : Nat) (x8_5 : ByteArray), v8 = .string x8_5 ∧ Aside0 (transeptlaw10_FieldDigits.j1 kq (Int.tmod (Go.bits .and .i64 a0 281474976710655) 1000000000) a2 t135 x8_5 = some r) ∧ Aside0 (kq ≤ k) ∧ Aside0 (Below w.heap.size w wc))
  case first =>
    have H := HC6.out
    clear HC6
    have H' := Aside0.mk H
    clear H
    go_wp2
    go_loopg [8, 9] k (fun kq v8 v9 w' => ∃ (x8_1 : ByteArray) (x9_1 : Int), v8 = .string x8_1 ∧ v9 = .int .i64 x9_1 ∧ Aside0 (transeptlaw10_FieldDigits.l0 kq (Int.tmod (Go.bits .and .i64 a0 281474976710655) 1000000000) a1 a2 t135 x8_1 x9_1 = some r) ∧ Aside0 (kq ≤ k) ∧ Aside0 (Below w.heap.size w w'))
    case atStart => exact ⟨(t136), (0), (by first | rfl | (simp; done) | (simp [*]; done)), (by first | rfl | (simp; done) | (simp [*]; done)), H', ⟨Nat.le_refl _⟩, ⟨by repeat (first | (with_reducible first | exact HB.out | apply below_alloc | apply pw_below_drewN | apply below_drew1) | exact HB.out)⟩⟩
    case round =>
      clear H'
      try clear c1
      try clear p2
      try clear c6
      try clear c7
      obtain ⟨x8_1, x9_1, rfl, rfl, HA, HK1, HB⟩ := hrel
      cases gk with
      | zero => exact absurd HA.out (by simp [transeptlaw10_FieldDigits.l0])
      | succ k1 =>
        have H := HA.out
        clear HA
        simp only [transeptlaw10_FieldDigits.l0] at H
        by_cases c9 : x9_1 < (Go.bits .and .i64 a1 7)
        · rw [if_pos c9] at H
          have c9b0 : decide (x9_1 < (Go.bits .and .i64 a1 7)) = true := decide_eq_true c9
          clear c9
          (first | rw [c9b0] | (simp only [i64_w, i32_w]; rw [c9b0]) | skip)
          by_cases c10 : (x8_1.size : Int) < 9
          · rw [if_pos c10] at H
            have c10b0 : decide ((x8_1.size : Int) < 9) = true := decide_eq_true c10
            have c10b1 : decide (x8_1.size < 9) = true := decide_eq_true (by omega)
            clear c10
            by_cases c11 : 1 + x8_1.size ≤ 9223372036854775807
            · rw [if_pos c11] at H
              have c11b0 := eq_true c11
              have c11b1 : decide (1 + x8_1.size ≤ 9223372036854775807) = true := decide_eq_true c11
              try have c11b2 : (9223372036854775807 < 1 + x8_1.size) = False := eq_false (Nat.not_lt.2 c11)
              have H' := Aside0.mk H
              clear H
              go_wp2
              go_roundg k1
              case measure => have := HK1.out; omega
              case rel => exact ⟨((⟨#[48]⟩ : ByteArray) ++ x8_1), (wrap64 (x9_1 + 1)), (by first | rfl | (simp; done) | (simp [*]; done)), (by first | rfl | (simp; done) | (simp [*]; done)), H', ⟨by have := HK1.out; omega⟩, ⟨by repeat (first | (with_reducible first | exact HB.out | apply below_alloc | apply pw_below_drewN | apply below_drew1) | exact HB.out)⟩⟩
            · rw [if_neg c11] at H
              exact absurd H (by simp)
          · rw [if_neg c10] at H
            have c10b0 : decide ((x8_1.size : Int) < 9) = false := decide_eq_false c10
            have c10b1 : decide (x8_1.size < 9) = false := decide_eq_false (by omega)
            clear c10
            have H' := Aside0.mk H
            clear H
            go_wp2
            go_meet
            case rel => exact ⟨_, (x8_1), (by first | rfl | (simp; done) | (simp [*]; done)), H', ⟨by have := HK1.out; first | omega | exact Nat.le_refl _⟩, ⟨by repeat (first | (with_reducible first | exact HB.out | apply below_alloc | apply pw_below_drewN | apply below_drew1) | exact HB.out)⟩⟩
        · rw [if_neg c9] at H
          have c9b0 : decide (x9_1 < (Go.bits .and .i64 a1 7)) = false := decide_eq_false c9
          clear c9
          (first | rw [c9b0] | (simp only [i64_w, i32_w]; rw [c9b0]) | skip)
          have H' := Aside0.mk H
          clear H
          go_wp2
          go_meet
          case rel => exact ⟨_, (x8_1), (by first | rfl | (simp; done) | (simp [*]; done)), H', ⟨by have := HK1.out; first | omega | exact Nat.le_refl _⟩, ⟨by repeat (first | (with_reducible first | exact HB.out | apply below_alloc | apply pw_below_drewN | apply below_drew1) | exact HB.out)⟩⟩
  case rest =>
    clear HC6
    try clear c1
    try clear p2
    try clear c6
    try clear p6
    try clear c7
    try clear c9
    try clear c9b0
    try clear c10
    try clear c10b0
    try clear c10b1
    try clear c11
    try clear c11b0
    try clear c11b1
    try clear c11b2
    try clear p2
    obtain ⟨kq, x8_5, rfl, HA, HJ5, HB⟩ := hcut
    cases kq with
    | zero => exact absurd HA.out (by simp [transeptlaw10_FieldDigits.j1])
    | succ kj5 =>
      have H := HA.out
      clear HA
      simp only [transeptlaw10_FieldDigits.j1] at H
      replace H := Option.bind_eq_some_iff.mp H
      obtain ⟨⟨t137, t138⟩, A120, H⟩ := H
      replace H : (if 1 + x8_5.size ≤ 9223372036854775807 then ((field_Number.f ((⟨#[43]⟩ : ByteArray) ++ x8_5) a2).bind fun bt139 => (if x8_5.size + 1 ≤ 9223372036854775807 then ((field_Number.f (x8_5 ++ (⟨#[32]⟩ : ByteArray)) a2).bind fun bt141 => (if 9 + x8_5.size ≤ 9223372036854775807 then ((field_Number.f ((⟨#[48, 48, 48, 48, 48, 48, 48, 48, 48]⟩ : ByteArray) ++ x8_5) a2).bind fun bt143 => (if t135 = true then (if t138 = true then (if t137 = (mn (Int.tmod (Go.bits .and .i64 a0 281474976710655) 1000000000) a2) then (if bt139.2 = true then (some false) else (if bt141.2 = true then (some false) else (some (!bt143.2)))) else (some false)) else (some false)) else (some false))) else (none))) else (none))) else (none)) = some r := H
      have A12 := Aside0.mk A120
      clear A120
      by_cases c13 : 1 + x8_5.size ≤ 9223372036854775807
      · rw [if_pos c13] at H
        have c13b0 := eq_true c13
        have c13b1 : decide (1 + x8_5.size ≤ 9223372036854775807) = true := decide_eq_true c13
        try have c13b2 : (9223372036854775807 < 1 + x8_5.size) = False := eq_false (Nat.not_lt.2 c13)
        replace H := Option.bind_eq_some_iff.mp H
        obtain ⟨⟨t139, t140⟩, A140, H⟩ := H
        replace H : (if x8_5.size + 1 ≤ 9223372036854775807 then ((field_Number.f (x8_5 ++ (⟨#[32]⟩ : ByteArray)) a2).bind fun bt141 => (if 9 + x8_5.size ≤ 9223372036854775807 then ((field_Number.f ((⟨#[48, 48, 48, 48, 48, 48, 48, 48, 48]⟩ : ByteArray) ++ x8_5) a2).bind fun bt143 => (if t135 = true then (if t138 = true then (if t137 = (mn (Int.tmod (Go.bits .and .i64 a0 281474976710655) 1000000000) a2) then (if t140 = true then (some false) else (if bt141.2 = true then (some false) else (some (!bt143.2)))) else (some false)) else (some false)) else (some false))) else (none))) else (none)) = some r := H
        have A14 := Aside0.mk A140
        clear A140
        by_cases c15 : x8_5.size + 1 ≤ 9223372036854775807
        · rw [if_pos c15] at H
          have c15b0 := eq_true c15
          have c15b1 : decide (x8_5.size + 1 ≤ 9223372036854775807) = true := decide_eq_true c15
          try have c15b2 : (9223372036854775807 < x8_5.size + 1) = False := eq_false (Nat.not_lt.2 c15)
          replace H := Option.bind_eq_some_iff.mp H
          obtain ⟨⟨t141, t142⟩, A160, H⟩ := H
          replace H : (if 9 + x8_5.size ≤ 9223372036854775807 then ((field_Number.f ((⟨#[48, 48, 48, 48, 48, 48, 48, 48, 48]⟩ : ByteArray) ++ x8_5) a2).bind fun bt143 => (if t135 = true then (if t138 = true then (if t137 = (mn (Int.tmod (Go.bits .and .i64 a0 281474976710655) 1000000000) a2) then (if t140 = true then (some false) else (if t142 = true then (some false) else (some (!bt143.2)))) else (some false)) else (some false)) else (some false))) else (none)) = some r := H
          have A16 := Aside0.mk A160
          clear A160
          by_cases c17 : 9 + x8_5.size ≤ 9223372036854775807
          · rw [if_pos c17] at H
            have c17b0 := eq_true c17
            have c17b1 : decide (9 + x8_5.size ≤ 9223372036854775807) = true := decide_eq_true c17
            try have c17b2 : (9223372036854775807 < 9 + x8_5.size) = False := eq_false (Nat.not_lt.2 c17)
            replace H := Option.bind_eq_some_iff.mp H
            obtain ⟨⟨t143, t144⟩, A180, H⟩ := H
            replace H : (if t135 = true then (if t138 = true then (if t137 = (mn (Int.tmod (Go.bits .and .i64 a0 281474976710655) 1000000000) a2) then (if t140 = true then (some false) else (if t142 = true then (some false) else (some (!t144)))) else (some false)) else (some false)) else (some false)) = some r := H
            have A18 := Aside0.mk A180
            clear A180
            by_cases c19 : t135 = true
            · subst c19
              have H1 : (if t138 = true then (if t137 = (mn (Int.tmod (Go.bits .and .i64 a0 281474976710655) 1000000000) a2) then (if t140 = true then (some false) else (if t142 = true then (some false) else (some (!t144)))) else (some false)) else (some false)) = some r := by rw [if_pos rfl] at H; exact H
              clear H
              have H := H1
              clear H1
              by_cases c20 : t138 = true
              · subst c20
                have H1 : (if t137 = (mn (Int.tmod (Go.bits .and .i64 a0 281474976710655) 1000000000) a2) then (if t140 = true then (some false) else (if t142 = true then (some false) else (some (!t144)))) else (some false)) = some r := by rw [if_pos rfl] at H; exact H
                clear H
                have H := H1
                clear H1
                obtain ⟨ji21, hji21⟩ : ∃ j_ : Int, (mn (Int.tmod (Go.bits .and .i64 a0 281474976710655) 1000000000) a2) = j_ := ⟨_, rfl⟩
                replace H : (if t137 = (ji21) then (if t140 = true then (some false) else (if t142 = true then (some false) else (some (!t144)))) else (some false)) = some r := by first | (rw [hji21] at H; exact H) | (simp only [hji21] at H ⊢; exact H)
                (try rw [hji21] at A12)
                (try rw [hji21] at A14)
                (try rw [hji21] at A16)
                (try rw [hji21] at A18)
                have hji21_ : (if a2 < (Int.tmod (Go.bits .and .i64 a0 281474976710655) 1000000000) then a2 else (Int.tmod (Go.bits .and .i64 a0 281474976710655) 1000000000)) = ji21 := hji21
                by_cases c22 : t137 = (ji21)
                · rw [if_pos c22] at H
                  have c22b0 : (t137 == (ji21)) = true := beq_iff_eq.mpr c22
                  have c22b1 : (t137 != (ji21)) = false := bne_eq_false_iff_eq.mpr c22
                  clear c22
                  by_cases c23 : t140 = true
                  · subst c23
                    have H1 : (some false) = some r := by rw [if_pos rfl] at H; exact H
                    clear H
                    have H := H1
                    clear H1
                    exact absurd HT.out (by rw [← Option.some.inj H]; decide)
                  · replace c23 := Bool.eq_false_iff.mpr c23
                    subst c23
                    have H1 : (if t142 = true then (some false) else (some (!t144))) = some r := by rw [if_neg (show ¬ (false = true) by decide)] at H; exact H
                    clear H
                    have H := H1
                    clear H1
                    by_cases c24 : t142 = true
                    · subst c24
                      have H1 : (some false) = some r := by rw [if_pos rfl] at H; exact H
                      clear H
                      have H := H1
                      clear H1
                      exact absurd HT.out (by rw [← Option.some.inj H]; decide)
                    · replace c24 := Bool.eq_false_iff.mpr c24
                      subst c24
                      have H1 : (some (!t144)) = some r := by rw [if_neg (show ¬ (false = true) by decide)] at H; exact H
                      clear H
                      have H := H1
                      clear H1
                      obtain rfl := Option.some.inj H
                      go_wp2_with (first | ((with_reducible refine gate_callee (f := 8) rfl ?_); refine goesL_ (some 40) rfl rfl Try.func8 (by kernel_rfl) rfl #[.string x8_5, .int .i64 a2] rfl (by (try simp only [List.map_toArray, List.map_cons, List.map_nil]); first | done | rfl | (simp only [List.length_drop, List.length_take]; rfl)) ?_; (with_reducible refine (field_Number.calls x8_5 a2 t137 true _ A12.out).mono ?_); rintro e w25 ⟨rfl, hb⟩; refine ⟨_, rfl, ?_⟩; have n0_ := Aside0.mk (below_step (by repeat (first | (with_reducible first | exact HB.out | apply below_alloc | apply pw_below_drewN | apply below_drew1) | exact HB.out)) hb); clear HB; have HB := n0_; clear n0_; (try clear hb); (try clear hb2); (try clear hk); (try clear hi)) | ((with_reducible refine gate_callee (f := 8) rfl ?_); refine goesL_ (some 47) rfl rfl Try.func8 (by kernel_rfl) rfl #[.string ((⟨#[43]⟩ : ByteArray) ++ x8_5), .int .i64 a2] rfl (by (try simp only [List.map_toArray, List.map_cons, List.map_nil]); first | done | rfl | (simp only [List.length_drop, List.length_take]; rfl)) ?_; (with_reducible refine (field_Number.calls ((⟨#[43]⟩ : ByteArray) ++ x8_5) a2 t139 false _ A14.out).mono ?_); rintro e w26 ⟨rfl, hb⟩; refine ⟨_, rfl, ?_⟩; have n0_ := Aside0.mk (below_step (by repeat (first | (with_reducible first | exact HB.out | apply below_alloc | apply pw_below_drewN | apply below_drew1) | exact HB.out)) hb); clear HB; have HB := n0_; clear n0_; (try clear hb); (try clear hb2); (try clear hk); (try clear hi)) | ((with_reducible refine gate_callee (f := 8) rfl ?_); refine goesL_ (some 54) rfl rfl Try.func8 (by kernel_rfl) rfl #[.string (x8_5 ++ (⟨#[32]⟩ : ByteArray)), .int .i64 a2] rfl (by (try simp only [List.map_toArray, List.map_cons, List.map_nil]); first | done | rfl | (simp only [List.length_drop, List.length_take]; rfl)) ?_; (with_reducible refine (field_Number.calls (x8_5 ++ (⟨#[32]⟩ : ByteArray)) a2 t141 false _ A16.out).mono ?_); rintro e w27 ⟨rfl, hb⟩; refine ⟨_, rfl, ?_⟩; have n0_ := Aside0.mk (below_step (by repeat (first | (with_reducible first | exact HB.out | apply below_alloc | apply pw_below_drewN | apply below_drew1) | exact HB.out)) hb); clear HB; have HB := n0_; clear n0_; (try clear hb); (try clear hb2); (try clear hk); (try clear hi)) | ((with_reducible refine gate_callee (f := 8) rfl ?_); refine goesL_ (some 61) rfl rfl Try.func8 (by kernel_rfl) rfl #[.string ((⟨#[48, 48, 48, 48, 48, 48, 48, 48, 48]⟩ : ByteArray) ++ x8_5), .int .i64 a2] rfl (by (try simp only [List.map_toArray, List.map_cons, List.map_nil]); first | done | rfl | (simp only [List.length_drop, List.length_take]; rfl)) ?_; (with_reducible refine (field_Number.calls ((⟨#[48, 48, 48, 48, 48, 48, 48, 48, 48]⟩ : ByteArray) ++ x8_5) a2 t143 t144 _ A18.out).mono ?_); rintro e w28 ⟨rfl, hb⟩; refine ⟨_, rfl, ?_⟩; have n0_ := Aside0.mk (below_step (by repeat (first | (with_reducible first | exact HB.out | apply below_alloc | apply pw_below_drewN | apply below_drew1) | exact HB.out)) hb); clear HB; have HB := n0_; clear n0_; (try clear hb); (try clear hb2); (try clear hk); (try clear hi)))
                      go_ret
                      exact ⟨by first | rfl | (simp [errW_none, errW_some] <;> rfl) | (simp only [← hji21]; first | rfl | (simp [errW_none, errW_some] <;> rfl)) | (simp [*, errW_none, errW_some] <;> rfl), by repeat (first | (with_reducible first | exact HB.out | apply below_alloc | apply pw_below_drewN | apply below_drew1) | exact HB.out)⟩
                · rw [if_neg c22] at H
                  have c22b0 : (t137 == (ji21)) = false := beq_eq_false_iff_ne.mpr c22
                  have c22b1 : (t137 != (ji21)) = true := bne_iff_ne.mpr c22
                  exact absurd HT.out (by rw [← Option.some.inj H]; decide)
              · replace c20 := Bool.eq_false_iff.mpr c20
                subst c20
                have H1 : (some false) = some r := by rw [if_neg (show ¬ (false = true) by decide)] at H; exact H
                clear H
                have H := H1
                clear H1
                exact absurd HT.out (by rw [← Option.some.inj H]; decide)
            · replace c19 := Bool.eq_false_iff.mpr c19
              subst c19
              have H1 : (some false) = some r := by rw [if_neg (show ¬ (false = true) by decide)] at H; exact H
              clear H
              have H := H1
              clear H1
              exact absurd HT.out (by rw [← Option.some.inj H]; decide)
          · rw [if_neg c17] at H
            exact absurd H (by simp)
        · rw [if_neg c15] at H
          exact absurd H (by simp)
      · rw [if_neg c13] at H
        exact absurd H (by simp)

/-- THE ONE PURE STATEMENT of transeptlaw10_FieldDigits: yours. -/
def transeptlaw10_FieldDigits.Pure : Prop := ∀ (a0 : Int) (a1 : Int) (a2 : Int), (Lit.int .i64 a0).wf = true → (Lit.int .i64 a1).wf = true → (Lit.int .i64 a2).wf = true → ∃ k, transeptlaw10_FieldDigits.f k a0 a1 a2 = some true
theorem transeptlaw10_FieldDigits.walk (P : transeptlaw10_FieldDigits.Pure) (a0 : Int) (a1 : Int) (a2 : Int) (w : World) (w0 : (Lit.int .i64 a0).wf = true) (w1 : (Lit.int .i64 a1).wf = true) (w2 : (Lit.int .i64 a2).wf = true) :
    Calls Try.prog 6 #[.int .i64 a0, .int .i64 a1, .int .i64 a2] w fun e w' => e = .returned (.bool true) ∧ Below w.heap.size w w' := by
  obtain ⟨k, h⟩ := P a0 a1 a2 w0 w1 w2
  refine (transeptlaw10_FieldDigits.calls k a0 a1 a2 true w rfl h).mono ?_
  rintro e w' ⟨rfl, hd⟩
  exact ⟨rfl, hd⟩

end Go.Proofs.Ytbldmicpnibnpaa.Xa
