-- Written by a program of this session (wip/tools/xprint.py), in the manner of the print of the kit.
import Derived.Test.YtjflbjlkcifpdaaDoorXax0
namespace Go.Proofs.YtjflbjlkcifpdaaDoor.Xa
open Go.RowKit Go.Proofs.YtjflbjlkcifpdaaDoorW.PrintWords Go.Proofs.YtjflbjlkcifpdaaDoorW.PrintLast Go.Proofs.YtjflbjlkcifpdaaDoorW.PrintMore
attribute [local go_sem] max2_int min2_int max_two min_two max_three min_three max_four min_four   -- for this text's walks alone
set_option linter.unusedVariables false
set_option linter.unusedSimpArgs false

/-! ### transeptref05_most: function 35 -/
def transeptref05_most.f (a0 : Int) : Option (Int) := if a0 = 115 then (some 999) else (some (((a0 - 48) % 256) - 1))
set_option maxHeartbeats 8000000 in
set_option maxRecDepth 100000 in
theorem transeptref05_most.calls (a0 : Int) (r : Int) (w : World) (h : transeptref05_most.f a0 = some r) :
    Calls Tryd.prog 35 #[.int .u8 a0] w fun e w' => e = .returned (.int .i64 r) ∧ Drawn0 w w' := by
  have H : (if a0 = 115 then (some 999) else (some (((a0 - 48) % 256) - 1))) = some r := h
  clear h
  by_cases c2 : a0 = 115
  · rw [if_pos c2] at H
    have c2b0 : (a0 == 115) = true := beq_iff_eq.mpr c2
    have c2b1 : (a0 != 115) = false := bne_eq_false_iff_eq.mpr c2
    clear c2
    obtain rfl := Option.some.inj H
    go_enter Tryd.func35, Tryd.ntmps35
    go_wp2
    go_ret
    exact ⟨by first | rfl | (simp; done) | (simp [*]; done), by repeat (first | exact Drawn0.refl _ | apply Drawn0.step)⟩
  · rw [if_neg c2] at H
    have c2b0 : (a0 == 115) = false := beq_eq_false_iff_ne.mpr c2
    have c2b1 : (a0 != 115) = true := bne_iff_ne.mpr c2
    obtain rfl := Option.some.inj H
    go_enter Tryd.func35, Tryd.ntmps35
    go_wp2
    go_ret
    exact ⟨by first | rfl | (simp; done) | (simp [*]; done), by repeat (first | exact Drawn0.refl _ | apply Drawn0.step)⟩

end Go.Proofs.YtjflbjlkcifpdaaDoor.Xa
