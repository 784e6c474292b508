/- The contract of NumberSizes, by hand. -/
import Derived.Test.YthbhggpajgokcaaXax4
import Derived.Test.YthbhggpajgokcaaNumP
namespace Go.Proofs.Ythbhggpajgokcaa.Ext
open Go.RowKit Go.Proofs.Ythbhggpajgokcaa.Xa Go.Proofs.YthbhggpajgokcaaW.PrintWords Go.Proofs.YthbhggpajgokcaaW.PrintLast Go.Proofs.YthbhggpajgokcaaW.PrintMore
set_option linter.unusedVariables false

theorem put_nil (x : Int) (n : Nat) (hx : x = (n : Int)) (hn : n < 18446744073709551616) (w : World) :
    Calls Try.prog 15 #[.slice none 0 0, .int .u64 x] w fun e w' => ∃ A c, e = .returned (.slice A (put n).length c) ∧ Below w.heap.size w w' := by
  subst hx
  refine (number_Put.calls 100 (fun _ => False) (.slice none 0 0) ([] : List Int) n (put n) w w (Below.refl _ _) (Kd.R_nil _ _ _ _ _) ?_).mono ?_
  · have := Pure.put_f 100 [] n (by omega) (by omega) (by omega) (by simp)
    simpa using this
  · rintro e w' ⟨v, rfl, ho, hb, _⟩
    obtain ⟨A, c, rfl⟩ := Kd.R_slice ho
    exact ⟨A, c, rfl, hb⟩
theorem put_len_ge : ∀ (j n : Nat), 128 ^ j ≤ n → j + 1 ≤ (put n).length
  | 0, n, _ => by have := put_pos n; omega
  | j + 1, n, h => by
    have h1 : 128 ≤ n := by
      have : (128 : Nat) ^ 1 ≤ 128 ^ (j + 1) := Nat.pow_le_pow_right (by omega) (by omega)
      omega
    rw [put_great h1, List.length_cons]
    have := put_len_ge j (n / 128) (by rw [Nat.pow_succ] at h; omega)
    omega
theorem put_len_eq (j n : Nat) (h0 : 128 ^ j ≤ n) (h1 : n < 128 ^ (j + 1)) : (put n).length = j + 1 := by
  have := put_len_ge j n h0
  have := put_len j n h1
  omega
theorem pow128 (j : Nat) : (128 : Nat) ^ j = 2 ^ (7 * j) := by rw [Nat.pow_mul]
theorem len_least (b : Nat) : (put (2 ^ b)).length = b / 7 + 1 := by
  refine put_len_eq _ _ ?_ ?_
  · rw [pow128]; exact Nat.pow_le_pow_right (by omega) (by omega)
  · rw [pow128]; exact Nat.pow_lt_pow_right (by omega) (by omega)
theorem len_greatest (b : Nat) : (put (2 ^ (b + 1) - 1)).length = b / 7 + 1 := by
  have hp : 0 < 2 ^ b := Nat.pow_pos (by omega)
  refine put_len_eq _ _ ?_ ?_
  · rw [pow128]
    have : 2 ^ (7 * (b / 7)) ≤ 2 ^ b := Nat.pow_le_pow_right (by omega) (by omega)
    rw [Nat.pow_succ]; omega
  · rw [pow128]
    have : 2 ^ (b + 1) ≤ 2 ^ (7 * (b / 7 + 1)) := Nat.pow_le_pow_right (by omega) (by omega)
    rw [Nat.pow_succ] at *; omega
theorem and63 (a : Int) : 0 ≤ bits .and .i64 a 63 ∧ bits .and .i64 a 63 ≤ 63 := by
  simp only [bits]
  have h : ((BitVec.ofInt IntKind.i64.bits a &&& BitVec.ofInt IntKind.i64.bits 63).toNat) ≤ 63 := by
    rw [BitVec.toNat_and]
    exact Nat.le_trans Nat.and_le_right (by decide)
  generalize (BitVec.ofInt IntKind.i64.bits a &&& BitVec.ofInt IntKind.i64.bits 63).toNat = n at *
  rw [IntKind.wrap_i64]; omega
set_option maxHeartbeats 8000000 in
set_option maxRecDepth 100000 in
theorem sizes_calls (a0 : Int) (w : World) :
    Calls Try.prog 5 #[.int .i64 a0] w fun e w' => e = .returned (.bool true) ∧ Below w.heap.size w w' := by
  have HB0 := Aside0.mk (Below.refl w.heap.size w)
  obtain ⟨k1, k2⟩ := and63 a0
  obtain ⟨b, hb⟩ : ∃ b : Nat, bits .and .i64 a0 63 = (b : Int) := ⟨_, (Int.toNat_of_nonneg k1).symm⟩
  have hb1 : b ≤ 63 := by omega
  clear k1 k2
  have hp1 : 2 ^ b < 18446744073709551616 := by
    have : 2 ^ b ≤ 2 ^ 63 := Nat.pow_le_pow_right (by omega) hb1
    omega
  have hp2 : 2 ^ b ≤ 9223372036854775808 := by
    have h : 2 ^ b ≤ 2 ^ 63 := Nat.pow_le_pow_right (by omega) hb1
    exact Nat.le_trans h (by decide)
  have hp0 : 0 < 2 ^ b := Nat.pow_pos (by omega)
  have hcast : (2 : Int) ^ b = ((2 ^ b : Nat) : Int) := by simp
  have hP := Aside0.mk (show IntKind.u64.wrap (2 ^ b) = ((2 ^ b : Nat) : Int) by
    rw [hcast]; generalize 2 ^ b = n at *; rw [IntKind.wrap_u64]; omega)
  have hQ := Aside0.mk (show IntKind.u64.wrap (IntKind.u64.wrap (IntKind.u64.wrap (2 ^ b) * 2) - 1) = ((2 ^ (b + 1) - 1 : Nat) : Int) by
    rw [hP.out, Nat.pow_succ]
    generalize 2 ^ b = n at *; rw [IntKind.wrap_u64, IntKind.wrap_u64]; omega)
  have hq1 := Aside0.mk (show 2 ^ (b + 1) - 1 < 18446744073709551616 by rw [Nat.pow_succ]; omega)
  have Hp1 := Aside0.mk hp1
  clear hp1 hp0 hp2 hcast
  obtain ⟨W, hW⟩ : ∃ W : Nat, W = b / 7 + 1 := ⟨_, rfl⟩
  have hW1 : (1 + (b : Int) + 6) / 7 = (W : Int) := by omega
  have e1 := Aside0.mk ((len_least b).trans hW.symm)
  have e2 := Aside0.mk ((len_greatest b).trans hW.symm)
  have e3 := Aside0.mk (show (put 0).length = 1 by rw [put_small (by omega)]; rfl)
  clear hW
  go_enter Try.func5, Try.ntmps5
  go_wp2_with (fail)
  refine (transeptlaw01_shown.calls 20 true _ Pure.shown20).mono ?_
  rintro e w1 ⟨rfl, hb⟩
  have HB1 := Aside0.mk hb
  clear hb HB0
  go_wp2_with (fail)
  refine (put_nil _ _ hP.out Hp1.out _).mono ?_
  rintro e w2 ⟨A1, c1, rfl, hb⟩
  rw [e1.out]
  have HB2 := Aside0.mk (below_step HB1.out hb)
  clear hb HB1
  go_wp2_with (fail)
  refine (put_nil _ _ hQ.out hq1.out _).mono ?_
  rintro e w3 ⟨A2, c2, rfl, hb⟩
  rw [e2.out]
  have HB3 := Aside0.mk (below_step HB2.out hb)
  clear hb HB2
  go_wp2_with (fail)
  refine (put_nil _ 0 rfl (by omega) _).mono ?_
  rintro e w4 ⟨A3, c3, rfl, hb⟩
  rw [e3.out]
  have HB4 := Aside0.mk (below_step HB3.out hb)
  clear hb HB3
  go_wp2_with (fail)
  go_ret
  exact ⟨rfl, HB4.out⟩
end Go.Proofs.Ythbhggpajgokcaa.Ext
namespace Go.Proofs.Ythbhggpajgokcaa.Xa
open Go.RowKit Go.Proofs.Ythbhggpajgokcaa.Ext Go.Proofs.YthbhggpajgokcaaW.PrintWords Go.Proofs.YthbhggpajgokcaaW.PrintLast
def transeptlaw01_NumberSizes.Pure : Prop := True
theorem transeptlaw01_NumberSizes.walk (_ : transeptlaw01_NumberSizes.Pure) (a0 : Int) (w : World) (_ : (Lit.int .i64 a0).wf = true) :
    Calls Try.prog 5 #[.int .i64 a0] w fun e w' => e = .returned (.bool true) ∧ Below w.heap.size w w' := sizes_calls a0 w
end Go.Proofs.Ythbhggpajgokcaa.Xa
