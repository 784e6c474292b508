/- Plain facts on numbers: how seven bits are joined to a number that is being read. -/
import Derived.Laws.BitsLemmas
namespace Go.Proofs.YtojagnoobaleaaaDoor.Ext

theorem wrap_u64_in (n : Int) (h0 : 0 ≤ n) (h1 : n < 2 ^ 64) : IntKind.u64.wrap n = n := by
  simp [IntKind.wrap, IntKind.bits, IntKind.signed]; omega
theorem and127 (x : Int) (h0 : 0 ≤ x) (h1 : x < 256) : bits .and .u8 x 127 = x % 128 := bits_mask .u8 8 (by decide) wraps_u8 7 (by decide) x h0 h1
theorem or_shift (j : Nat) (a q : Int) (ha : 0 ≤ a) (hj : a < 2 ^ j) (h64 : a < 2 ^ 64) (hq : 0 ≤ q) (hp : q * 2 ^ j < 2 ^ 64) : bits .or .u64 a (q * 2 ^ j) = a + q * 2 ^ j := by
  obtain ⟨a, rfl⟩ := Int.eq_ofNat_of_zero_le ha
  obtain ⟨q, rfl⟩ := Int.eq_ofNat_of_zero_le hq
  have hj' : a < 2 ^ j := by exact_mod_cast hj
  have ha' : a < 2 ^ 64 := by exact_mod_cast h64
  have hp' : q * 2 ^ j < 2 ^ 64 := by exact_mod_cast hp
  have e : (q : Int) * 2 ^ j = ((q * 2 ^ j : Nat) : Int) := by simp
  have hs : a + q * 2 ^ j = a ||| (q * 2 ^ j) := by
    rw [Nat.or_comm, Nat.mul_comm q, ← Nat.two_pow_add_eq_or_of_lt hj' q]; omega
  rw [e, (bits_nat .u64 64 (by decide) (fun n h0 h1 => wrap_u64_in n h0 h1) a _ ha' hp').2, ← hs]; simp
theorem pow7 (i : Nat) (hi : i ≤ 9) : (2 : Int) ^ (7 * i) ≤ 2 ^ 63 ∧ (i ≤ 8 → (2 : Int) ^ (7 * i) ≤ 2 ^ 56) ∧ (2 : Int) ^ (7 * (i + 1)) = 128 * 2 ^ (7 * i) ∧ 0 < (2 : Int) ^ (7 * i) := by
  have : i = 0 ∨ i = 1 ∨ i = 2 ∨ i = 3 ∨ i = 4 ∨ i = 5 ∨ i = 6 ∨ i = 7 ∨ i = 8 ∨ i = 9 := by omega
  rcases this with rfl | rfl | rfl | rfl | rfl | rfl | rfl | rfl | rfl | rfl <;> decide
theorem step_or (i : Nat) (nn x : Int) (hi : i ≤ 9) (h9 : i = 9 → x ≤ 1) (h0 : 0 ≤ nn) (hn : nn < 2 ^ (7 * i)) (hx0 : 0 ≤ x) (hx : x < 256) :
    bits .or .u64 nn (IntKind.u64.wrap (IntKind.u64.wrap (bits .and .u8 x 127) * 2 ^ (7 * i))) = nn + (x % 128) * 2 ^ (7 * i) ∧ 0 ≤ nn + (x % 128) * 2 ^ (7 * i) ∧ nn + (x % 128) * 2 ^ (7 * i) < 2 ^ (7 * (i + 1)) := by
  obtain ⟨p1, p2, p3, p4⟩ := pow7 i hi
  rw [p3]
  have os := or_shift (7 * i) nn (x % 128) h0 hn (by omega) (by omega)
  generalize (2 : Int) ^ (7 * i) = P at *
  have hq0 : 0 ≤ x % 128 := by omega
  have hq1 : x % 128 < 128 := by omega
  have hm0 : 0 ≤ x % 128 * P := Int.mul_nonneg hq0 (by omega)
  have hm1 : x % 128 * P ≤ 127 * P := Int.mul_le_mul_of_nonneg_right (by omega) (by omega)
  have hm2 : x % 128 * P < 2 ^ 64 := by
    by_cases h : i = 9
    · have hx1 := h9 h
      have : x % 128 * P ≤ 1 * P := Int.mul_le_mul_of_nonneg_right (by omega) (by omega)
      omega
    · have := p2 (by omega)
      omega
  rw [and127 x hx0 hx, wrap_u64_in _ hq0 (by omega), wrap_u64_in _ hm0 hm2]
  refine ⟨?_, by omega, by omega⟩
  exact os hm2
end Go.Proofs.YtojagnoobaleaaaDoor.Ext
