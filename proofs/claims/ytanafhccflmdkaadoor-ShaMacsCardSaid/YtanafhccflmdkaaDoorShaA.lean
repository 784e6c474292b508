/- Words: turned, shifted, mixed. -/
import Derived.Test.YtanafhccflmdkaaDoorProg
import Derived.Lib.Hide
import Derived.Test.YtanafhccflmdkaaDoorShaP
import Derived.Test.YtanafhccflmdkaaDoorWWords
import Derived.Test.YtanafhccflmdkaaDoorWLast
import Derived.Test.YtanafhccflmdkaaDoorWMore
namespace Go.Proofs.YtanafhccflmdkaaDoor.Ext
open Go.RowKit Go.Proofs.YtanafhccflmdkaaDoorW.PrintWords Go.Proofs.YtanafhccflmdkaaDoorW.PrintLast Go.Proofs.YtanafhccflmdkaaDoorW.PrintMore
set_option linter.unusedVariables false
set_option linter.unusedSimpArgs false
theorem shift_calls (x : BitVec 32) (n : Nat) (hn : n < 32) (w : World) : Calls Tryd.prog 28 #[.int .u32 (B x), .int .i64 n] w fun e w' => e = .returned (.int .u32 (B (x >>> n))) ∧ w = w' := by
  have hb := B_range x
  have h0 : (0 : Int) ≤ (n : Int) := by omega
  have h1 : (n : Int) < 32 := by omega
  go_enter Tryd.func28, Tryd.ntmps28
  go_wp2
  go_ret
  exact ⟨congrArg (fun z => Ending.returned (.int .u32 z)) (shrB x n), rfl⟩
theorem and31 : ∀ n : Fin 32, 0 < n.val → bits .and .u64 (IntKind.u64.wrap (-(n.val : Int))) 31 = 32 - (n.val : Int) := by decide +kernel
theorem rotate_calls (x : BitVec 32) (n m : Nat) (hs : n + m = 32) (h0 : 0 < n) (hn : 0 < m) (w : World) : Calls Tryd.prog 31 #[.int .u32 (B x), .int .i64 (-(n : Int))] w fun e w' => e = .returned (.int .u32 (B (rot x n))) ∧ w = w' := by
  have hb := B_range x
  have h31 : bits .and .u64 (IntKind.u64.wrap (-(n : Int))) 31 = (m : Int) := by
    rw [and31 ⟨n, by omega⟩ h0]; show (32 : Int) - n = m; omega
  have hsub : IntKind.u64.wrap (32 - (m : Int)) = (n : Int) := by rw [IntKind.wrap_u64]; omega
  have hm0 : (0 : Int) ≤ (m : Int) := by omega
  have hm1 : (m : Int) < 32 := by omega
  have hn0 : (0 : Int) ≤ (n : Int) := by omega
  have hn1 : (n : Int) < 32 := by omega
  have HS := Aside0.mk hs
  clear hs
  go_enter Tryd.func31, Tryd.ntmps31
  go_wp2
  go_ret
  exact ⟨congrArg (fun z => Ending.returned (.int .u32 z)) (by rw [← IntKind.wrap_u32, shlB, shrB, orB]; unfold rot; rw [show 32 - n = m by have := HS.out; omega]), rfl⟩
theorem turn_calls (x : BitVec 32) (n : Nat) (h0 : 0 < n) (hn : n < 32) (w : World) : Calls Tryd.prog 29 #[.int .u32 (B x), .int .i64 n] w fun e w' => e = .returned (.int .u32 (B (rot x n))) ∧ w = w' := by
  go_enter Tryd.func29, Tryd.ntmps29
  go_wp2_with (fail)
  refine (rotate_calls x n (32 - n) (by omega) h0 (by omega) w).mono ?_
  rintro e w' ⟨rfl, rfl⟩
  go_wp2_with (fail)
  go_ret
  exact ⟨rfl, rfl⟩
def third (f : FuncId) (x : BitVec 32) (c : Nat) : BitVec 32 := if f = 28 then x >>> c else rot x c
theorem mixed_calls (x : BitVec 32) (a b c : Nat) (f : FuncId) (ha : 0 < a ∧ a < 32) (hb : 0 < b ∧ b < 32) (hc : 0 < c ∧ c < 32) (hf : f = 28 ∨ f = 29) (w : World) :
    Calls Tryd.prog 27 #[.int .u32 (B x), .int .i64 a, .int .i64 b, .int .i64 c, .func (.func f) #[] #[]] w fun e w' => e = .returned (.int .u32 (B (rot x a ^^^ rot x b ^^^ third f x c))) ∧ w = w' := by
  rcases hf with rfl | rfl
  · go_enter Tryd.func27, Tryd.ntmps27
    go_wp2_with (fail)
    refine (turn_calls x a ha.1 ha.2 w).mono ?_
    rintro e w' ⟨rfl, rfl⟩
    go_wp2_with (fail)
    refine (turn_calls x b hb.1 hb.2 w).mono ?_
    rintro e w' ⟨rfl, rfl⟩
    go_wp2_with (fail)
    refine (shift_calls x c hc.2 w).mono ?_
    rintro e w' ⟨rfl, rfl⟩
    go_wp2_with (fail)
    go_ret
    exact ⟨by rw [xorB, xorB]; rfl, rfl⟩
  · go_enter Tryd.func27, Tryd.ntmps27
    go_wp2_with (fail)
    refine (turn_calls x a ha.1 ha.2 w).mono ?_
    rintro e w' ⟨rfl, rfl⟩
    go_wp2_with (fail)
    refine (turn_calls x b hb.1 hb.2 w).mono ?_
    rintro e w' ⟨rfl, rfl⟩
    go_wp2_with (fail)
    refine (turn_calls x c hc.1 hc.2 w).mono ?_
    rintro e w' ⟨rfl, rfl⟩
    go_wp2_with (fail)
    go_ret
    exact ⟨by rw [xorB, xorB]; rfl, rfl⟩
theorem ss_calls (x : BitVec 32) (w : World) : Calls Tryd.prog 27 #[.int .u32 (B x), .int .i64 7, .int .i64 18, .int .i64 3, .func (.func 28) #[] #[]] w fun e w' => e = .returned (.int .u32 (B (ss x))) ∧ w = w' := mixed_calls x 7 18 3 28 (by decide) (by decide) (by decide) (.inl rfl) w
theorem gs_calls (x : BitVec 32) (w : World) : Calls Tryd.prog 27 #[.int .u32 (B x), .int .i64 17, .int .i64 19, .int .i64 10, .func (.func 28) #[] #[]] w fun e w' => e = .returned (.int .u32 (B (gs x))) ∧ w = w' := mixed_calls x 17 19 10 28 (by decide) (by decide) (by decide) (.inl rfl) w
theorem be_calls (x : BitVec 32) (w : World) : Calls Tryd.prog 27 #[.int .u32 (B x), .int .i64 6, .int .i64 11, .int .i64 25, .func (.func 29) #[] #[]] w fun e w' => e = .returned (.int .u32 (B (be x))) ∧ w = w' := mixed_calls x 6 11 25 29 (by decide) (by decide) (by decide) (.inr rfl) w
theorem ba_calls (x : BitVec 32) (w : World) : Calls Tryd.prog 27 #[.int .u32 (B x), .int .i64 2, .int .i64 13, .int .i64 22, .func (.func 29) #[] #[]] w fun e w' => e = .returned (.int .u32 (B (ba x))) ∧ w = w' := mixed_calls x 2 13 22 29 (by decide) (by decide) (by decide) (.inr rfl) w
end Go.Proofs.YtanafhccflmdkaaDoor.Ext
