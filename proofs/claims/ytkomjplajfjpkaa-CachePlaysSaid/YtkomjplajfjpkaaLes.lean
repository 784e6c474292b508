/- The queue's small functions: cmp's, Less, Len, Swap. By hand. -/
import Derived.Test.YtkomjplajfjpkaaQue
namespace Go.Proofs.Ytkomjplajfjpkaa.Ext
open Go.RowKit Go.Proofs.Ytkomjplajfjpkaa.Hea Go.Proofs.YtkomjplajfjpkaaW.PrintWords Go.Proofs.YtkomjplajfjpkaaW.PrintLast Go.Proofs.YtkomjplajfjpkaaW.PrintMore
set_option linter.unusedVariables false
set_option linter.unusedSimpArgs false
theorem nan64_calls (x : Int) (w : World) : Calls Try.prog 47 #[.int .u64 x] w fun e w' => e = .returned (.bool false) ∧ w' = w := by
  go_enter Try.func47, Try.ntmps47
  go_wp2
  go_ret
  exact ⟨rfl, rfl⟩
theorem nanS_calls (x : ByteArray) (w : World) : Calls Try.prog 48 #[.string x] w fun e w' => e = .returned (.bool false) ∧ w' = w := by
  go_enter Try.func48, Try.ntmps48
  go_wp2
  go_ret
  exact ⟨rfl, rfl⟩
theorem cmp64_calls (x y : Int) (w : World) : Calls Try.prog 45 #[.int .u64 x, .int .u64 y] w fun e w' => ∃ s : Int, e = .returned (.int .i64 s) ∧ ((s < 0 ↔ x < y) ∧ (s = 0 ↔ x = y)) ∧ w' = w := by
  go_enter Try.func45, Try.ntmps45
  go_wp2_with (first | (go_at_call 47; refine (nan64_calls _ _).mono ?_; rintro e w' ⟨rfl, rfl⟩))
  all_goals (go_ret; refine ⟨_, rfl, ?_, rfl⟩; constructor <;> constructor <;> intro _ <;> omega)
def slt (x y : ByteArray) : Bool := Op.bytesLess x.toList y.toList
theorem cmpS_calls (x y : ByteArray) (w : World) : Calls Try.prog 46 #[.string x, .string y] w fun e w' => ∃ s : Int, e = .returned (.int .i64 s) ∧ (s < 0 ↔ slt x y = true) ∧ w' = w := by
  unfold slt
  have hg : ∀ w, (binOp .gtr 9 (.string x) (.string y)).run Try.prog w = .ok (.bool !(Op.bytesLess x.toList y.toList || x.toList == y.toList)) w := fun w => by simp [binOp, Op.stringOp, go_sem]
  generalize (x.toList == y.toList) = q at hg
  cases h1 : Op.bytesLess x.toList y.toList <;> cases q
  all_goals
    rw [h1] at hg
    go_enter Try.func46, Try.ntmps46
    go_wp2_with (first | (go_at_call 48; refine (nanS_calls _ _).mono ?_; rintro e w' ⟨rfl, rfl⟩))
    go_ret
    exact ⟨_, rfl, by simp, rfl⟩
/-- cmp.Or of two. -/
theorem or_calls {W : World} {g : Nat} (x y : Int) (hb : W.heap[g]? = some (.cells #[.int .i64 x, .int .i64 y] 3 (0, 0))) : Calls Try.prog 44 #[.slice (some ⟨g, 0, none⟩) 2 2] W fun e w' => ∃ r : Int, e = .returned (.int .i64 r) ∧ r = (if x = 0 then y else x) ∧ w' = W := by
  have c0 : W.cell? ⟨g, 0, none⟩ = some (.int .i64 x) := blk_cell hb 0
  have c1 : W.cell? ⟨g, 1, none⟩ = some (.int .i64 y) := blk_cell hb 1
  clear hb
  go_enter Try.func44, Try.ntmps44
  go_wp2
  refine wp_loop_rounds 4 ?_
  repeat any_goals (rw [rounds_succ]; go_wp2)
  all_goals (go_ret; refine ⟨_, rfl, ?_, rfl⟩; simp_all)
theorem less_val {s1 s2 r ti tj : Int} {b : Bool} (h1 : (s1 < 0 ↔ ti < tj) ∧ (s1 = 0 ↔ ti = tj)) (h2 : s2 < 0 ↔ b = true) (hr : r = if s1 = 0 then s2 else s1) : decide (r < 0) = (decide (ti < tj) || (decide (ti = tj) && b)) := by
  obtain ⟨h1, h3⟩ := h1
  by_cases e : ti = tj
  · rw [if_pos (h3.2 e)] at hr
    rw [hr, decide_eq_true e, decide_eq_false (show ¬ ti < tj by omega), Bool.false_or, Bool.true_and]
    cases b
    · rw [decide_eq_false]; intro h; exact absurd (h2.1 h) (by simp)
    · rw [decide_eq_true]; exact h2.2 rfl
  · rw [if_neg (fun h => e (h3.1 h))] at hr
    rw [hr, decide_eq_false e, Bool.false_and, Bool.or_false]
    exact decide_eq_decide.2 h1
/-- Which entry goes first. -/
def lessE (e f : Ent) : Bool := decide (e.t < f.t) || (decide (e.t = f.t) && slt e.k f.k)
set_option maxHeartbeats 2000000 in
theorem less_calls {W : World} {c gm : Nat} {o : Obj} {F : Nat → Prop} {v : Value} {l : List Ent} {a : Nat → Int} (h : Q0 W c gm o F v l a) {i j : Nat} (hi : i < l.length) (hj : j < l.length) : Calls Try.prog 42 #[v, .int .i64 (i : Int), .int .i64 (j : Int)] W fun e w' => e = .returned (.bool (lessE (at_ l i) (at_ l j))) ∧ Below W.heap.size W w' := by
  obtain ⟨g, cap, rfl⟩ := h.slot hi
  have ci := h.cellq hi
  have cj := h.cellq hj
  obtain ⟨k0, t0, _⟩ := h.celle hi
  obtain ⟨k1, t1, _⟩ := h.celle hj
  unfold lessE
  generalize at_ l i = ei at *
  generalize at_ l j = ej at *
  obtain ⟨bi, ki, ti⟩ := ei
  obtain ⟨bj, kj, tj⟩ := ej
  simp only [pv] at *
  have ci := fun V (hV : Below W.heap.size W V) => pw_cell_below hV ci
  have cj := fun V (hV : Below W.heap.size W V) => pw_cell_below hV cj
  have k0 := fun V (hV : Below W.heap.size W V) => pw_cell_below hV k0
  have k1 := fun V (hV : Below W.heap.size W V) => pw_cell_below hV k1
  have t0 := fun V (hV : Below W.heap.size W V) => pw_cell_below hV t0
  have t1 := fun V (hV : Below W.heap.size W V) => pw_cell_below hV t1
  have HI : (i : Int) < (l.length : Int) := by omega
  have HJ : (j : Int) < (l.length : Int) := by omega
  generalize l.length = n at *
  clear h
  go_enter Try.func42, Try.ntmps42
  go_wp2
  go_region_held3 (fun V => Below W.heap.size W V) (first | assumption | exact pw_below_drewN (Below.refl _ _) 1 | exact Below.refl _ _ | exact below_drew (below_alloc (Below.refl _ _) _) | exact pw_below_drewN (below_alloc (Below.refl _ _) _) _ | exact below_alloc (Below.refl _ _) _) (first
    | (go_at_call 45; refine (cmp64_calls _ _ _).mono ?_; rintro e w' ⟨s1, rfl, hs1, rfl⟩; replace hs1 := Aside0.mk hs1)
    | (go_at_call 46; refine (cmpS_calls _ _ _).mono ?_; rintro e w' ⟨s2, rfl, hs2, rfl⟩; replace hs2 := Aside0.mk hs2)
    | (go_at_call 44; refine (or_calls s1 s2 (by first | exact blk_new _ _ | exact blk_drew (blk_new _ _) | exact blk_drewN (blk_new _ _) _)).mono ?_; rintro e w' ⟨r, rfl, hr, rfl⟩; replace hr := Aside0.mk hr))
  all_goals
    go_wp2
    go_ret
    refine ⟨?_, by assumption⟩
    show Ending.returned (.bool (decide (r < 0))) = _
    rw [less_val hs1.out hs2.out hr.out]
/-- The length, as the queue tells it. -/
theorem qlen_calls (A : Option Addr) (n cap : Nat) (w : World) : Calls Try.prog 41 #[.slice A n cap] w fun e w' => e = .returned (.int .i64 (n : Int)) ∧ w' = w := by
  go_enter Try.func41, Try.ntmps41
  go_wp2
  go_ret
  exact ⟨rfl, rfl⟩
end Go.Proofs.Ytkomjplajfjpkaa.Ext
