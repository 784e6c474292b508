/- The small functions of package event. -/
import Derived.Test.YtmlhlcdamppbfaaDoorProg
import Derived.Lib.Hide
import Derived.Handy
import Derived.Deep.RegionHeld3
import Derived.Test.YtmlhlcdamppbfaaDoorWWords
import Derived.Test.YtmlhlcdamppbfaaDoorWLast
import Derived.Test.YtmlhlcdamppbfaaDoorWMore
namespace Go.Proofs.YtmlhlcdamppbfaaDoor.Ext
open Go.RowKit Go.Proofs.YtmlhlcdamppbfaaDoorW.PrintWords Go.Proofs.YtmlhlcdamppbfaaDoorW.PrintLast Go.Proofs.YtmlhlcdamppbfaaDoorW.PrintMore
set_option linter.unusedVariables false

theorem known_calls (k : Int) (w : World) : Calls Tryd.prog 25 #[.int .i64 k] w fun e w' => e = .returned (.bool (decide (1 ≤ k) && decide (k ≤ 14))) ∧ w' = w := by
  go_enter Tryd.func25, Tryd.ntmps25
  go_wp2
  all_goals (go_ret; simp_all <;> omega)
theorem alone_calls (k : Int) (w : World) : Calls Tryd.prog 26 #[.int .i64 k] w fun e w' => e = .returned (.bool (decide (k = 1) || decide (k = 2))) ∧ w' = w := by
  go_enter Tryd.func26, Tryd.ntmps26
  go_wp2
  all_goals
    go_ret
    by_cases h : k = 1
    · simp_all
    · by_cases h2 : k = 2 <;> simp_all
theorem wide_calls (k : Int) (w : World) : Calls Tryd.prog 23 #[.int .i64 k] w fun e w' => e = .returned (.bool (decide (256 < k))) ∧ w' = w := by
  go_enter Tryd.func23, Tryd.ntmps23
  go_wp2
  go_ret
  simp
set_option maxHeartbeats 1000000 in
theorem texts_calls (g : Nat) (w : World) : Calls Tryd.prog 20 #[.pointer (some ⟨g, 0, none⟩)] w fun e w' => e = .returned (.slice (some ⟨w.heap.size, 0, none⟩) 4 4) ∧ w' = (w.alloc (.cells #[.pointer (some ⟨g, 3, none⟩), .pointer (some ⟨g, 4, none⟩), .pointer (some ⟨g, 5, none⟩), .pointer (some ⟨g, 6, none⟩)] 53)).drew := by
  go_enter Tryd.func20, Tryd.ntmps20
  go_wp2
  go_region_held3 (fun _ => True) (trivial) (fail)
  go_wp2
  go_ret
  exact ⟨rfl, rfl⟩
set_option maxHeartbeats 1000000 in
theorem numbers_calls (g : Nat) (w : World) : Calls Tryd.prog 22 #[.pointer (some ⟨g, 0, none⟩)] w fun e w' => e = .returned (.slice (some ⟨w.heap.size, 0, none⟩) 3 3) ∧ w' = (w.alloc (.cells #[.pointer (some ⟨g, 7, none⟩), .pointer (some ⟨g, 8, none⟩), .pointer (some ⟨g, 9, none⟩)] 57)).drew := by
  go_enter Tryd.func22, Tryd.ntmps22
  go_wp2
  go_region_held3 (fun _ => True) (trivial) (fail)
  go_wp2
  go_ret
  exact ⟨rfl, rfl⟩
end Go.Proofs.YtmlhlcdamppbfaaDoor.Ext
