-- Written by a program of this session (wip/tools/xprint.py), in the manner of the print of the kit.
import Derived.Test.YtbldmicpnibnpaaXax0
import Derived.Test.YtbldmicpnibnpaaXax7
import Derived.Test.YtbldmicpnibnpaaXax8
import Derived.Test.YtbldmicpnibnpaaNam
namespace Go.Proofs.Ytbldmicpnibnpaa.Xa
open Go.RowKit Go.Proofs.Ytbldmicpnibnpaa.Ext Go.Proofs.YtbldmicpnibnpaaW.PrintWords Go.Proofs.YtbldmicpnibnpaaW.PrintLast Go.Proofs.YtbldmicpnibnpaaW.PrintMore
attribute [local go_sem] max2_int min2_int max_two min_two max_three min_three max_four min_four   -- for this text's walks alone
set_option linter.unusedVariables false
set_option linter.unusedSimpArgs false

/-! ### transeptlaw10_FieldNumbers: function 3 -/
def transeptlaw10_FieldNumbers.f (k : Nat) (a0 : ByteArray) (a1 : Int) : Option (Bool) := (transeptlaw10_shown.f k).bind fun t126 => ((field_Number.f a0 a1).bind fun bt127 => ((transeptref10_Number.f k a0 a1).bind fun bt129 => (if t126 = true then (if bt127.1 = bt129.1 then (some (bt127.2 == bt129.2)) else (some false)) else (some false))))
theorem transeptlaw10_FieldNumbers.mono : ∀ a0 a1 k, LeO (transeptlaw10_FieldNumbers.f k a0 a1) (transeptlaw10_FieldNumbers.f (k + 1) a0 a1) := by
  intro a0 a1 k
  unfold transeptlaw10_FieldNumbers.f
  repeat' first
      | (with_reducible exact transeptlaw10_shown.mono _)
      | (with_reducible exact transeptref10_Number.mono _ _ _)
      | (with_reducible exact LeO.refl _)
      | (with_reducible exact LeO.none _)
      | (with_reducible refine LeO.ite ?_ ?_)
      | (with_reducible refine LeO.bind ?_ (fun _ => ?_))
      | exact transeptlaw10_shown.mono _
      | exact transeptref10_Number.mono _ _ _
      | exact LeO.none _
      | refine LeO.ite ?_ ?_
      | refine LeO.bind ?_ (fun _ => ?_)
set_option maxHeartbeats 8000000 in
set_option maxRecDepth 100000 in
theorem transeptlaw10_FieldNumbers.calls (k : Nat) (a0 : ByteArray) (a1 : Int) (r : Bool) (w : World) (hT_ : r = true) (h : transeptlaw10_FieldNumbers.f k a0 a1 = some r) :
    Calls Try.prog 3 #[.string a0, .int .i64 a1] w fun e w' => e = .returned (.bool r) ∧ Below w.heap.size w w' := by
  have HT := Aside0.mk hT_
  clear hT_
  have HB := Aside0.mk (Below.refl w.heap.size w)
  have H : ((transeptlaw10_shown.f k).bind fun t126 => ((field_Number.f a0 a1).bind fun bt127 => ((transeptref10_Number.f k a0 a1).bind fun bt129 => (if t126 = true then (if bt127.1 = bt129.1 then (some (bt127.2 == bt129.2)) else (some false)) else (some false))))) = some r := h
  clear h
  replace H := Option.bind_eq_some_iff.mp H
  obtain ⟨t126, A30, H⟩ := H
  replace H : ((field_Number.f a0 a1).bind fun bt127 => ((transeptref10_Number.f k a0 a1).bind fun bt129 => (if t126 = true then (if bt127.1 = bt129.1 then (some (bt127.2 == bt129.2)) else (some false)) else (some false)))) = some r := H
  have A3 := Aside0.mk A30
  clear A30
  replace H := Option.bind_eq_some_iff.mp H
  obtain ⟨⟨t127, t128⟩, A40, H⟩ := H
  replace H : ((transeptref10_Number.f k a0 a1).bind fun bt129 => (if t126 = true then (if t127 = bt129.1 then (some (t128 == bt129.2)) else (some false)) else (some false))) = some r := H
  have A4 := Aside0.mk A40
  clear A40
  replace H := Option.bind_eq_some_iff.mp H
  obtain ⟨⟨t129, t130⟩, A50, H⟩ := H
  replace H : (if t126 = true then (if t127 = t129 then (some (t128 == t130)) else (some false)) else (some false)) = some r := H
  have A5 := Aside0.mk A50
  clear A50
  by_cases c6 : t126 = true
  · subst c6
    have H1 : (if t127 = t129 then (some (t128 == t130)) else (some false)) = some r := by rw [if_pos rfl] at H; exact H
    clear H
    have H := H1
    clear H1
    by_cases c7 : t127 = t129
    · rw [if_pos c7] at H
      have c7b0 : (t127 == t129) = true := beq_iff_eq.mpr c7
      have c7b1 : (t127 != t129) = false := bne_eq_false_iff_eq.mpr c7
      clear c7
      obtain rfl := Option.some.inj H
      go_enter Try.func3, Try.ntmps3
      go_wp2_with (first | ((with_reducible refine gate_callee (f := 7) rfl ?_); refine goesL_ (some 10) rfl rfl Try.func7 (by kernel_rfl) rfl #[] rfl (by (try simp only [List.map_toArray, List.map_cons, List.map_nil]); first | done | rfl | (simp only [List.length_drop, List.length_take]; rfl)) ?_; (with_reducible refine (transeptlaw10_shown.calls k  true _ A3.out).mono ?_); rintro e w8 ⟨rfl, hb⟩; refine ⟨_, rfl, ?_⟩; have n0_ := Aside0.mk (below_step (by repeat (first | (with_reducible first | exact HB.out | apply below_alloc | apply pw_below_drewN | apply below_drew1) | exact HB.out)) hb); clear HB; have HB := n0_; clear n0_; (try clear hb); (try clear hb2); (try clear hk); (try clear hi)) | ((with_reducible refine gate_callee (f := 8) rfl ?_); refine goesL_ (some 14) rfl rfl Try.func8 (by kernel_rfl) rfl #[.string a0, .int .i64 a1] rfl (by (try simp only [List.map_toArray, List.map_cons, List.map_nil]); first | done | rfl | (simp only [List.length_drop, List.length_take]; rfl)) ?_; (with_reducible refine (field_Number.calls a0 a1 t127 t128 _ A4.out).mono ?_); rintro e w9 ⟨rfl, hb⟩; refine ⟨_, rfl, ?_⟩; have n0_ := Aside0.mk (below_step (by repeat (first | (with_reducible first | exact HB.out | apply below_alloc | apply pw_below_drewN | apply below_drew1) | exact HB.out)) hb); clear HB; have HB := n0_; clear n0_; (try clear hb); (try clear hb2); (try clear hk); (try clear hi)) | ((with_reducible refine gate_callee (f := 9) rfl ?_); refine goesL_ (some 20) rfl rfl Try.func9 (by kernel_rfl) rfl #[.string a0, .int .i64 a1] rfl (by (try simp only [List.map_toArray, List.map_cons, List.map_nil]); first | done | rfl | (simp only [List.length_drop, List.length_take]; rfl)) ?_; (with_reducible refine (transeptref10_Number.calls k a0 a1 t129 t130 _ A5.out).mono ?_); rintro e w10 ⟨rfl, hb⟩; refine ⟨_, rfl, ?_⟩; have n0_ := Aside0.mk (below_step (by repeat (first | (with_reducible first | exact HB.out | apply below_alloc | apply pw_below_drewN | apply below_drew1) | exact HB.out)) hb); clear HB; have HB := n0_; clear n0_; (try clear hb); (try clear hb2); (try clear hk); (try clear hi)))
      go_ret
      exact ⟨by first | rfl | (simp [errW_none, errW_some] <;> rfl) | (simp [*, errW_none, errW_some] <;> rfl), by repeat (first | (with_reducible first | exact HB.out | apply below_alloc | apply pw_below_drewN | apply below_drew1) | exact HB.out)⟩
    · rw [if_neg c7] at H
      have c7b0 : (t127 == t129) = false := beq_eq_false_iff_ne.mpr c7
      have c7b1 : (t127 != t129) = true := bne_iff_ne.mpr c7
      exact absurd HT.out (by rw [← Option.some.inj H]; decide)
  · replace c6 := Bool.eq_false_iff.mpr c6
    subst c6
    have H1 : (some false) = some r := by rw [if_neg (show ¬ (false = true) by decide)] at H; exact H
    clear H
    have H := H1
    clear H1
    exact absurd HT.out (by rw [← Option.some.inj H]; decide)

/-- THE ONE PURE STATEMENT of transeptlaw10_FieldNumbers: yours. -/
def transeptlaw10_FieldNumbers.Pure : Prop := ∀ (a0 : ByteArray) (a1 : Int), a0.size ≤ 140737488351232 → (Lit.int .i64 a1).wf = true → ∃ k, transeptlaw10_FieldNumbers.f k a0 a1 = some true
theorem transeptlaw10_FieldNumbers.walk (P : transeptlaw10_FieldNumbers.Pure) (a0 : ByteArray) (a1 : Int) (w : World) (w0 : a0.size ≤ 140737488351232) (w1 : (Lit.int .i64 a1).wf = true) :
    Calls Try.prog 3 #[.string a0, .int .i64 a1] w fun e w' => e = .returned (.bool true) ∧ Below w.heap.size w w' := by
  obtain ⟨k, h⟩ := P a0 a1 w0 w1
  refine (transeptlaw10_FieldNumbers.calls k a0 a1 true w rfl h).mono ?_
  rintro e w' ⟨rfl, hd⟩
  exact ⟨rfl, hd⟩

end Go.Proofs.Ytbldmicpnibnpaa.Xa
