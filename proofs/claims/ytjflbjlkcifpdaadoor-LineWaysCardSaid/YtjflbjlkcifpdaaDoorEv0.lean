/- The small functions of package event. -/
import Derived.Test.YtjflbjlkcifpdaaDoorProg
import Derived.Lib.Hide
import Derived.Handy
import Derived.Deep.RegionHeld3
import Derived.Test.YtjflbjlkcifpdaaDoorWWords
import Derived.Test.YtjflbjlkcifpdaaDoorWLast
import Derived.Test.YtjflbjlkcifpdaaDoorWMore
namespace Go.Proofs.YtjflbjlkcifpdaaDoor.Ext
open Go.RowKit Go.Proofs.YtjflbjlkcifpdaaDoorW.PrintWords Go.Proofs.YtjflbjlkcifpdaaDoorW.PrintLast Go.Proofs.YtjflbjlkcifpdaaDoorW.PrintMore
set_option linter.unusedVariables false

theorem known_calls (k : Int) (w : World) : Calls Tryd.prog 28 #[.int .i64 k] w fun e w' => e = .returned (.bool (decide (1 ≤ k) && decide (k ≤ 14))) ∧ w' = w := by
  go_enter Tryd.func28, Tryd.ntmps28
  go_wp2
  all_goals (go_ret; simp_all <;> omega)
theorem alone_calls (k : Int) (w : World) : Calls Tryd.prog 29 #[.int .i64 k] w fun e w' => e = .returned (.bool (decide (k = 1) || decide (k = 2))) ∧ w' = w := by
  go_enter Tryd.func29, Tryd.ntmps29
  go_wp2
  all_goals
    go_ret
    by_cases h : k = 1
    · simp_all
    · by_cases h2 : k = 2 <;> simp_all
set_option maxHeartbeats 1000000 in
theorem texts_calls (g : Nat) (w : World) : Calls Tryd.prog 30 #[.pointer (some ⟨g, 0, none⟩)] w fun e w' => e = .returned (.slice (some ⟨w.heap.size, 0, none⟩) 4 4) ∧ w' = (w.alloc (.cells #[.pointer (some ⟨g, 3, none⟩), .pointer (some ⟨g, 4, none⟩), .pointer (some ⟨g, 5, none⟩), .pointer (some ⟨g, 6, none⟩)] 61)).drew := by
  go_enter Tryd.func30, Tryd.ntmps30
  go_wp2
  go_region_held3 (fun _ => True) (trivial) (fail)
  go_wp2
  go_ret
  exact ⟨rfl, rfl⟩
set_option maxHeartbeats 1000000 in
theorem numbers_calls (g : Nat) (w : World) : Calls Tryd.prog 31 #[.pointer (some ⟨g, 0, none⟩)] w fun e w' => e = .returned (.slice (some ⟨w.heap.size, 0, none⟩) 3 3) ∧ w' = (w.alloc (.cells #[.pointer (some ⟨g, 7, none⟩), .pointer (some ⟨g, 8, none⟩), .pointer (some ⟨g, 9, none⟩)] 64)).drew := by
  go_enter Tryd.func31, Tryd.ntmps31
  go_wp2
  go_region_held3 (fun _ => True) (trivial) (fail)
  go_wp2
  go_ret
  exact ⟨rfl, rfl⟩
end Go.Proofs.YtjflbjlkcifpdaaDoor.Ext
