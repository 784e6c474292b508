/- The law EventUnlike: what its walk asks, out of the plain words on events. No condition. -/
import Derived.Test.YtmlhlcdamppbfaaDoorHwU
namespace Go.Proofs.YtmlhlcdamppbfaaDoor.Xa
open Go.RowKit Go.Proofs.YtmlhlcdamppbfaaDoor.Ext Go.Proofs.YtmlhlcdamppbfaaDoor.Pure Go.Proofs.YtmlhlcdamppbfaaDoorW.PrintWords Go.Proofs.YtmlhlcdamppbfaaDoorW.PrintLast Go.Proofs.YtmlhlcdamppbfaaDoorW.PrintMore
set_option linter.unusedVariables false
def eqE (x y : Ev) : Bool := (x.1 == y.1 && (x.2.1 == y.2.1 && (x.2.2.1 == y.2.2.1 && (x.2.2.2.1.toList == y.2.2.2.1.toList && (x.2.2.2.2.1.toList == y.2.2.2.2.1.toList && (x.2.2.2.2.2.1.toList == y.2.2.2.2.2.1.toList && (x.2.2.2.2.2.2.1.toList == y.2.2.2.2.2.2.1.toList && (x.2.2.2.2.2.2.2.1 == y.2.2.2.2.2.2.2.1 && (x.2.2.2.2.2.2.2.2.1 == y.2.2.2.2.2.2.2.2.1 && (x.2.2.2.2.2.2.2.2.2 == y.2.2.2.2.2.2.2.2.2))))))))))
theorem eqE_iff (x y : Ev) : eqE x y = true ↔ x = y := by
  obtain ⟨a0, a1, a2, a3, a4, a5, a6, a7, a8, a9⟩ := x
  obtain ⟨b0, b1, b2, b3, b4, b5, b6, b7, b8, b9⟩ := y
  unfold eqE
  simp [toList_beq, Prod.mk.injEq]
theorem eqE_self (x : Ev) : eqE x x = true := (eqE_iff x x).2 rfl
theorem eqE_ne {x y : Ev} (h : x ≠ y) : eqE x y = false := by
  cases e : eqE x y with
  | false => rfl
  | true => exact absurd ((eqE_iff x y).1 e) h
/-- Of two right events: the same bytes, or the same beginning, just if they are the same. -/
theorem unlike_facts (x y : Ev) (hv0 : evV x) (hv1 : evV y) : ∃ (N : Nat) (qq : Bool), (if (evE y).length < (evE x).length then ((evE y).length : Int) else ((evE x).length : Int)) = (N : Int) ∧ N ≤ (evE x).length ∧ N ≤ (evE y).length ∧ (evE x).length ≤ 100000 ∧ (evE y).length ≤ 100000 ∧
      ((strOfNums (evE x)).toList == (strOfNums (evE y)).toList) = qq ∧ ((strOfNums ((evE x).take N)).toList == (strOfNums ((evE y).take N)).toList) = qq ∧ eqE x y = qq := by
  have hb0 := evE_bytes hv0
  have hb1 := evE_bytes hv1
  have l0 := evE_len hv0
  have l1 := evE_len hv1
  refine ⟨min (evE x).length (evE y).length, eqE x y, ?_, Nat.min_le_left _ _, Nat.min_le_right _ _, by omega, by omega, ?_, ?_, rfl⟩
  · split <;> omega
  · rw [toList_beq]
    by_cases h : x = y
    · subst h; rw [eqE_self]; simp
    · rw [eqE_ne h, decide_eq_false]
      intro e
      exact h (ev_codec.apart x y hv0 hv1 [] (by rw [List.append_nil]; exact strOf_inj hb0 hb1 e))
  · rw [toList_beq]
    by_cases h : x = y
    · subst h; rw [eqE_self]; simp
    · rw [eqE_ne h, decide_eq_false]
      intro e
      exact h (ev_codec.begin_ x y hv0 hv1 _ rfl (strOf_inj (hb0.take _) (hb1.take _) e))
def transeptlaw05_EventUnlike.Pure : Prop := True
theorem transeptlaw05_EventUnlike.walk (P : transeptlaw05_EventUnlike.Pure) (a0 a1 a2 : Int) (a3 a4 a5 a6 : ByteArray) (a7 a8 a9 : Int) (hu : u64s (a0, a1, a2, a3, a4, a5, a6, a7, a8, a9)) (b0 b1 b2 : Int) (b3 b4 b5 b6 : ByteArray) (b7 b8 b9 : Int) (hv : u64s (b0, b1, b2, b3, b4, b5, b6, b7, b8, b9)) (w : World) (hG : Glob w) :
    Calls Tryd.prog 9 #[.agg #[.int .i64 a0, .int .u64 a1, .int .u64 a2, .string a3, .string a4, .string a5, .string a6, .int .i64 a7, .int .i64 a8, .int .i64 a9], .agg #[.int .i64 b0, .int .u64 b1, .int .u64 b2, .string b3, .string b4, .string b5, .string b6, .int .i64 b7, .int .i64 b8, .int .i64 b9]] w fun e w' => e = .returned (.bool true) ∧ Below w.heap.size w w' := by
  have hc0 : u64s (cutE (a0, a1, a2, a3, a4, a5, a6, a7, a8, a9)) := hu
  have hc1 : u64s (cutE (b0, b1, b2, b3, b4, b5, b6, b7, b8, b9)) := hv
  refine unlike_walk a0 a1 a2 a3 a4 a5 a6 a7 a8 a9 b0 b1 b2 b3 b4 b5 b6 b7 b8 b9 (cutS a3) (cutS a4) (cutS a5) (cutS a6) (cutS b3) (cutS b4) (cutS b5) (cutS b6) _ _ _ _ (cut_calls _ _ _ _ _ _ _ _ _ _) (cut_calls _ _ _ _ _ _ _ _ _ _) (encode_f _ hc0) (encode_f _ hc1) w hG ?_
  cases hr0 : right (cutE (a0, a1, a2, a3, a4, a5, a6, a7, a8, a9)) with
  | false => exact .inl rfl
  | true =>
    cases hr1 : right (cutE (b0, b1, b2, b3, b4, b5, b6, b7, b8, b9)) with
    | false => exact .inr (.inl ⟨rfl, rfl⟩)
    | true => exact .inr (.inr ⟨rfl, rfl, ⟨unlike_facts _ _ ((right_iff _ hc0).1 hr0) ((right_iff _ hc1).1 hr1)⟩⟩)
end Go.Proofs.YtmlhlcdamppbfaaDoor.Xa
