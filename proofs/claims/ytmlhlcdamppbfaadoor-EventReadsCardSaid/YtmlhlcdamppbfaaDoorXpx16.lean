-- Written by a program of this session (wip/tools/xprint.py), in the manner of the print of the kit.
import Derived.Test.YtmlhlcdamppbfaaDoorXpx0
import Derived.Test.YtmlhlcdamppbfaaDoorStr
import Derived.Test.YtmlhlcdamppbfaaDoorNum
namespace Go.Proofs.YtmlhlcdamppbfaaDoor.Xp
open Go.RowKit Go.Proofs.YtmlhlcdamppbfaaDoor.Ext Go.Proofs.YtmlhlcdamppbfaaDoorW.PrintWords Go.Proofs.YtmlhlcdamppbfaaDoorW.PrintLast Go.Proofs.YtmlhlcdamppbfaaDoorW.PrintMore
attribute [local go_sem] max2_int min2_int max_two min_two max_three min_three max_four min_four   -- for this text's walks alone
set_option linter.unusedVariables false
set_option linter.unusedSimpArgs false

/-! ### number_Text: function 46 -/
def number_Text.j0 : Nat → List Int → Int → Int → Bool → Option (ByteArray × Int × Int)
  | 0, _, _, _, _ => none
  | k + 1, x0, x5, x7, x20 => if x20 = true then (some ((⟨#[]⟩ : ByteArray), wrap64 (x5 - 1), 5)) else (if x7 > (IntKind.u64.wrap (wrap64 ((x0.length : Int) - x5))) then (some ((⟨#[]⟩ : ByteArray), (x0.length : Int), 2)) else (if 0 ≤ x5 then (if x5 ≤ (wrap64 (x5 + (wrap64 (x7)))) then (if (wrap64 (x5 + (wrap64 (x7)))) ≤ (x0.length : Int) then (some (strOfNums ((x0.take ((wrap64 (x5 + (wrap64 (x7)))) : Int).toNat).drop (x5 : Int).toNat), wrap64 (x5 + (wrap64 (x7))), 0)) else (none)) else (none)) else (none)))
def number_Text.f (k : Nat) (l0 : List Int) (a1 : Int) : Option (ByteArray × Int × Int) := (number_Get.f l0).bind fun bt118 => (if bt118.2.2 = 0 then (if a1 < 0 then (number_Text.j0 k l0 bt118.2.1 bt118.1 true) else (number_Text.j0 k l0 bt118.2.1 bt118.1 (decide (bt118.1 > (IntKind.u64.wrap (a1)))))) else (some ((⟨#[]⟩ : ByteArray), bt118.2.1, bt118.2.2)))
theorem number_Text.mono_l : ∀ k, (∀ y0 y1 y2 y3, LeO (number_Text.j0 k y0 y1 y2 y3) (number_Text.j0 (k + 1) y0 y1 y2 y3))
  | 0 => fun _ _ _ _ r h => by simp [number_Text.j0] at h
  | k + 1 => by
    have ih0 := number_Text.mono_l k
    · intro y0 y1 y2 y3
      unfold number_Text.j0
      repeat' first
      | (with_reducible exact ih0 _ _ _ _)
      | (with_reducible exact LeO.refl _)
      | (with_reducible exact LeO.none _)
      | (with_reducible refine LeO.ite ?_ ?_)
      | (with_reducible refine LeO.bind ?_ (fun _ => ?_))
      | exact ih0 _ _ _ _
      | exact LeO.none _
      | refine LeO.ite ?_ ?_
      | refine LeO.bind ?_ (fun _ => ?_)
theorem number_Text.mono : ∀ a0 a1 k, LeO (number_Text.f k a0 a1) (number_Text.f (k + 1) a0 a1) := by
  intro a0 a1 k
  have ih0 := number_Text.mono_l k
  unfold number_Text.f
  repeat' first
      | (with_reducible exact ih0 _ _ _ _)
      | (with_reducible exact LeO.refl _)
      | (with_reducible exact LeO.none _)
      | (with_reducible refine LeO.ite ?_ ?_)
      | (with_reducible refine LeO.bind ?_ (fun _ => ?_))
      | exact ih0 _ _ _ _
      | exact LeO.none _
      | refine LeO.ite ?_ ?_
      | refine LeO.bind ?_ (fun _ => ?_)
set_option maxHeartbeats 8000000 in
set_option maxRecDepth 100000 in
theorem number_Text.calls (k : Nat) (A0 : Option Addr) (c0 : Nat) (l0 : List Int) (a1 : Int) (r1 : ByteArray) (r2 : Int) (r3 : Int) (w : World) (hr0 : Kd.C (Kd.int .u8) w A0 l0.length l0) (hc0 : l0.length ≤ c0) (h : number_Text.f k l0 a1 = some (r1, r2, r3)) :
    Calls Tryd.prog 46 #[.slice A0 l0.length c0, .int .i64 a1] w fun e w' => e = .returned (.tuple #[.string r1, .int .i64 r2, .int .i64 r3]) ∧ Below w.heap.size w w' := by
  have HR0 := Aside0.mk hr0
  have HC0 := Aside0.mk hc0
  clear hr0 hc0
  have HB := Aside0.mk (Below.refl w.heap.size w)
  have H : ((number_Get.f l0).bind fun bt118 => (if bt118.2.2 = 0 then (if a1 < 0 then (number_Text.j0 k l0 bt118.2.1 bt118.1 true) else (number_Text.j0 k l0 bt118.2.1 bt118.1 (decide (bt118.1 > (IntKind.u64.wrap (a1)))))) else (some ((⟨#[]⟩ : ByteArray), bt118.2.1, bt118.2.2)))) = some (r1, r2, r3) := h
  clear h
  replace H := Option.bind_eq_some_iff.mp H
  obtain ⟨⟨t118, t119, t120⟩, A30, H⟩ := H
  replace H : (if t120 = 0 then (if a1 < 0 then (number_Text.j0 k l0 t119 t118 true) else (number_Text.j0 k l0 t119 t118 (decide (t118 > (IntKind.u64.wrap (a1)))))) else (some ((⟨#[]⟩ : ByteArray), t119, t120))) = some (r1, r2, r3) := H
  have A3 := Aside0.mk A30
  clear A30
  by_cases c4 : t120 = 0
  · rw [if_pos c4] at H
    have c4b0 : (t120 == 0) = true := beq_iff_eq.mpr c4
    have c4b1 : (t120 != 0) = false := bne_eq_false_iff_eq.mpr c4
    clear c4
    have HC5 := Aside0.mk H
    clear H
    go_enter Tryd.func46, Tryd.ntmps46
    go_upto_region 4 with (first | ((with_reducible refine gate_callee (f := 34) rfl ?_); refine goesL_ (some 11) rfl rfl Tryd.func34 (by kernel_rfl) rfl #[.slice A0 l0.length c0] rfl (by (try simp only [List.map_toArray, List.map_cons, List.map_nil]); first | done | rfl | (simp only [List.length_drop, List.length_take]; rfl)) ?_; (with_reducible refine (number_Get.calls _ _ l0 t118 t119 t120 _ ?side1 ?side2 A3.out).mono ?_); (case side1 => repeat (first | exact HR0.out | (with_reducible refine Kd.C_alloc ?_ _) | (with_reducible refine Kd.C_drewN ?_ _) | (with_reducible refine Kd.C_drew ?_))); (case side2 => exact HC0.out); rintro e w6 ⟨rfl, hb⟩; refine ⟨_, rfl, ?_⟩; have n0_ := Aside0.mk (below_step (by repeat (first | (with_reducible first | exact HB.out | apply below_alloc | apply pw_below_drewN | apply below_drew1) | exact HB.out)) hb); clear HB; have HB := n0_; clear n0_; (try clear hb); (try clear hb2); (try clear hk); (try clear hi)))
    (try simp only [Act.put, List.setIfInBounds_toArray, List.set_cons_zero, List.set_cons_succ])
    go_cut [20] (fun v20 wc => ∃ (kq : Nat) (x20_4 : Bool), v20 = .bool x20_4 ∧ Aside0 (number_Text.j0 kq l0 t119 t118 x20_4 = some (r1, r2, r3)) ∧ Aside0 (kq ≤ k) ∧ Aside0 (Below w.heap.size w wc))
    case first =>
      have H := HC5.out
      clear HC5
      by_cases c7 : a1 < 0
      · rw [if_pos c7] at H
        have c7b0 : decide (a1 < 0) = true := decide_eq_true c7
        clear c7
        (first | rw [c7b0] | (simp only [i64_w, i32_w]; rw [c7b0]) | skip)
        have H' := Aside0.mk H
        clear H
        go_wp2
        go_meet
        case rel => exact ⟨_, (true), (by first | rfl | (simp; done) | (simp [*]; done)), H', ⟨by first | omega | exact Nat.le_refl _⟩, ⟨by repeat (first | (with_reducible first | exact HB.out | apply below_alloc | apply pw_below_drewN | apply below_drew1) | exact HB.out)⟩⟩
      · rw [if_neg c7] at H
        have c7b0 : decide (a1 < 0) = false := decide_eq_false c7
        clear c7
        (first | rw [c7b0] | (simp only [i64_w, i32_w]; rw [c7b0]) | skip)
        have H' := Aside0.mk H
        clear H
        go_wp2
        go_meet
        case rel => exact ⟨_, (decide (t118 > (IntKind.u64.wrap (a1)))), (by first | rfl | (simp; done) | (simp [*]; done)), H', ⟨by first | omega | exact Nat.le_refl _⟩, ⟨by repeat (first | (with_reducible first | exact HB.out | apply below_alloc | apply pw_below_drewN | apply below_drew1) | exact HB.out)⟩⟩
    case rest =>
      clear HC5
      try clear p2
      try clear c3
      try clear c4
      try clear c4b0
      try clear c4b1
      try clear c7
      try clear c7b0
      obtain ⟨kq, x20_4, rfl, HA, HJ4, HB⟩ := hcut
      cases kq with
      | zero => exact absurd HA.out (by simp [number_Text.j0])
      | succ kj4 =>
        have H := HA.out
        clear HA
        simp only [number_Text.j0] at H
        by_cases c8 : x20_4 = true
        · subst c8
          have H1 : (some ((⟨#[]⟩ : ByteArray), wrap64 (t119 - 1), 5)) = some (r1, r2, r3) := by rw [if_pos rfl] at H; exact H
          clear H
          have H := H1
          clear H1
          simp only [Option.some.injEq, Prod.mk.injEq] at H
          obtain ⟨rfl, rfl, rfl⟩ := H
          go_wp2
          go_ret3
          exact ⟨by first | rfl | (simp [errW_none, errW_some] <;> rfl) | (simp [*, errW_none, errW_some] <;> rfl), by repeat (first | (with_reducible first | exact HB.out | apply below_alloc | apply pw_below_drewN | apply below_drew1) | exact HB.out)⟩
        · replace c8 := Bool.eq_false_iff.mpr c8
          subst c8
          have H1 : (if t118 > (IntKind.u64.wrap (wrap64 ((l0.length : Int) - t119))) then (some ((⟨#[]⟩ : ByteArray), (l0.length : Int), 2)) else (if 0 ≤ t119 then (if t119 ≤ (wrap64 (t119 + (wrap64 (t118)))) then (if (wrap64 (t119 + (wrap64 (t118)))) ≤ (l0.length : Int) then (some (strOfNums ((l0.take ((wrap64 (t119 + (wrap64 (t118)))) : Int).toNat).drop (t119 : Int).toNat), wrap64 (t119 + (wrap64 (t118))), 0)) else (none)) else (none)) else (none))) = some (r1, r2, r3) := by rw [if_neg (show ¬ (false = true) by decide)] at H; exact H
          clear H
          have H := H1
          clear H1
          by_cases c9 : t118 > (IntKind.u64.wrap (wrap64 ((l0.length : Int) - t119)))
          · rw [if_pos c9] at H
            have c9b0 : decide ((IntKind.u64.wrap (wrap64 ((l0.length : Int) - t119))) < t118) = true := decide_eq_true c9
            clear c9
            simp only [Option.some.injEq, Prod.mk.injEq] at H
            obtain ⟨rfl, rfl, rfl⟩ := H
            go_wp2
            go_ret3
            exact ⟨by first | rfl | (simp [errW_none, errW_some] <;> rfl) | (simp [*, errW_none, errW_some] <;> rfl), by repeat (first | (with_reducible first | exact HB.out | apply below_alloc | apply pw_below_drewN | apply below_drew1) | exact HB.out)⟩
          · rw [if_neg c9] at H
            have c9b0 : decide ((IntKind.u64.wrap (wrap64 ((l0.length : Int) - t119))) < t118) = false := decide_eq_false c9
            clear c9
            by_cases c10 : 0 ≤ t119
            · rw [if_pos c10] at H
              have c10b0 := eq_true c10
              have c10b1 : decide (0 ≤ t119) = true := decide_eq_true c10
              clear c10
              by_cases c11 : t119 ≤ (wrap64 (t119 + (wrap64 (t118))))
              · rw [if_pos c11] at H
                have c11b0 := eq_true c11
                have c11b1 : decide (t119 ≤ (wrap64 (t119 + (wrap64 (t118))))) = true := decide_eq_true c11
                by_cases c12 : (wrap64 (t119 + (wrap64 (t118)))) ≤ (l0.length : Int)
                · rw [if_pos c12] at H
                  have c12b0 := eq_true c12
                  have c12b1 : decide ((wrap64 (t119 + (wrap64 (t118)))) ≤ (l0.length : Int)) = true := decide_eq_true c12
                  simp only [Option.some.injEq, Prod.mk.injEq] at H
                  obtain ⟨rfl, rfl, rfl⟩ := H
                  obtain ⟨i013, hi013, _, hsz13, _⟩ := info_parts info5
                  obtain ⟨A13, hcut13, hA13, hC13⟩ := print_mid_of (P := Tryd.prog) (Value.int .u8) 0 27 5 .i64 .i64 Tryd.underlying27 hi013 hsz13 A0 c0 l0 t119 (wrap64 (t119 + (wrap64 (t118)))) (of_decide_eq_true (by first | (with_reducible assumption) | assumption)) (by first | omega | exact of_decide_eq_true (by first | (with_reducible assumption) | assumption)) (of_decide_eq_true (by first | (with_reducible assumption) | assumption)) HC0.out
                  have hl13 := Aside0.mk (show ((l0.take ((wrap64 (t119 + (wrap64 (t118)))) : Int).toNat).drop (t119 : Int).toNat).length = ((wrap64 (t119 + (wrap64 (t118)))) : Int).toNat - (t119 : Int).toNat from by have q0_ : 0 ≤ t119 := (of_decide_eq_true (by first | (with_reducible assumption) | assumption)); have q1_ : t119 ≤ (wrap64 (t119 + (wrap64 (t118)))) := (by first | omega | exact of_decide_eq_true (by first | (with_reducible assumption) | assumption)); have q2_ : (wrap64 (t119 + (wrap64 (t118)))) ≤ (l0.length : Int) := (of_decide_eq_true (by first | (with_reducible assumption) | assumption)); (try simp only [List.length_drop, List.length_take] at q0_ q1_); (try simp only [List.length_drop, List.length_take] at q2_); simp only [List.length_drop, List.length_take]; first | done | omega)
                  (try rw [hl13.out] at hcut13)
                  have HR121 := Aside0.mk (Kd.C_of_reads (h1 := fun _ => rfl) (hA13 _ (Kd.reads_of_C HR0.out)))
                  have HC121 := Aside0.mk hC13
                  clear hA13 hC13 hi013 hsz13
                  have hcv14 := Kd.C_string (P := Tryd.prog) (A := A13) (c := (c0 - t119.toNat)) Tryd.underlying27 Tryd.underlying5 Tryd.underlying9 (Kd.C_below HR121.out HB.out)
                  (try rw [hl13.out] at hcv14)
                  (try have hcv14d := fun n_ : Nat => Kd.C_string (P := Tryd.prog) (A := A13) (c := (c0 - t119.toNat)) Tryd.underlying27 Tryd.underlying5 Tryd.underlying9 (Kd_C_len (n := ((wrap64 (t119 + (wrap64 (t118)))) : Int).toNat - (t119 : Int).toNat) hl13.out (Kd.C_drewN (Kd.C_below HR121.out HB.out) n_)))
                  go_wp2
                  go_ret3
                  exact ⟨by first | rfl | (simp [errW_none, errW_some] <;> rfl) | (simp [*, errW_none, errW_some] <;> rfl), by repeat (first | (with_reducible first | exact HB.out | apply below_alloc | apply pw_below_drewN | apply below_drew1) | exact HB.out)⟩
                · rw [if_neg c12] at H
                  exact absurd H (by simp)
              · rw [if_neg c11] at H
                exact absurd H (by simp)
            · rw [if_neg c10] at H
              exact absurd H (by simp)
  · rw [if_neg c4] at H
    have c4b0 : (t120 == 0) = false := beq_eq_false_iff_ne.mpr c4
    have c4b1 : (t120 != 0) = true := bne_iff_ne.mpr c4
    simp only [Option.some.injEq, Prod.mk.injEq] at H
    obtain ⟨rfl, rfl, rfl⟩ := H
    go_enter Tryd.func46, Tryd.ntmps46
    go_wp2_with (first | ((with_reducible refine gate_callee (f := 34) rfl ?_); refine goesL_ (some 11) rfl rfl Tryd.func34 (by kernel_rfl) rfl #[.slice A0 l0.length c0] rfl (by (try simp only [List.map_toArray, List.map_cons, List.map_nil]); first | done | rfl | (simp only [List.length_drop, List.length_take]; rfl)) ?_; (with_reducible refine (number_Get.calls _ _ l0 t118 t119 t120 _ ?side1 ?side2 A3.out).mono ?_); (case side1 => repeat (first | exact HR0.out | (with_reducible refine Kd.C_alloc ?_ _) | (with_reducible refine Kd.C_drewN ?_ _) | (with_reducible refine Kd.C_drew ?_))); (case side2 => exact HC0.out); rintro e w15 ⟨rfl, hb⟩; refine ⟨_, rfl, ?_⟩; have n0_ := Aside0.mk (below_step (by repeat (first | (with_reducible first | exact HB.out | apply below_alloc | apply pw_below_drewN | apply below_drew1) | exact HB.out)) hb); clear HB; have HB := n0_; clear n0_; (try clear hb); (try clear hb2); (try clear hk); (try clear hi)))
    go_ret3
    exact ⟨by first | rfl | (simp [errW_none, errW_some] <;> rfl) | (simp [*, errW_none, errW_some] <;> rfl), by repeat (first | (with_reducible first | exact HB.out | apply below_alloc | apply pw_below_drewN | apply below_drew1) | exact HB.out)⟩

end Go.Proofs.YtmlhlcdamppbfaaDoor.Xp
