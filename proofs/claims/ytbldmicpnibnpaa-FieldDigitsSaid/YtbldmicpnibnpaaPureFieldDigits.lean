/- FieldDigits, in plain words. -/
import Derived.Test.YtbldmicpnibnpaaXax11
import Derived.Test.YtbldmicpnibnpaaSho
namespace Go.Proofs.Ytbldmicpnibnpaa.Pure
open Go.RowKit Go.Proofs.Ytbldmicpnibnpaa.Xa Go.Proofs.Ytbldmicpnibnpaa.Ext Go.Proofs.YtbldmicpnibnpaaW.PrintWords Go.Proofs.YtbldmicpnibnpaaW.PrintLast
set_option linter.unusedVariables false
set_option linter.unusedSimpArgs false
/-- So many digits, and the number that they are. -/
def isDig (l : List UInt8) (n : Int) : Prop := ∀ m : Int, 0 ≤ m → m ≤ 0 → digs l m = some n
structure Dg (s : ByteArray) (n : Int) : Prop where
  val : digs s.data.toList 0 = some n
theorem digs_append : ∀ (a b : List UInt8) (m : Int), digs (a ++ b) m = (digs a m).bind (digs b)
  | [], b, m => rfl
  | c :: a, b, m => by
    rw [List.cons_append, digs, digs]
    split
    · rfl
    · exact digs_append a b _
theorem digs_one (d : Int) (m : Int) (h0 : 0 ≤ d) (h9 : d ≤ 9) (c : UInt8) (hc : (c.toNat : Int) = 48 + d) : digs [c] m = some (10 * m + d) := by
  rw [digs, if_neg (by omega), digs, hc, show (48 + d - 48 : Int) = d by omega]
theorem str_append (a b : ByteArray) : (a ++ b).data.toList = a.data.toList ++ b.data.toList := by
  rw [ByteArray.data_append]; simp
theorem str_size (a : List Int) : (strOfNums a).size = a.length := by simp [strOfNums, ByteArray.size]
/-- The digits of a number. -/
theorem digits_ok : ∀ (j k : Nat) (n : Int), j < k → 0 ≤ n → n < 10 ^ (j + 1) → j ≤ 8 → ∃ s, transeptlaw10_digits.f k n = some s ∧ 1 ≤ s.size ∧ s.size ≤ j + 1 ∧ digs s.data.toList 0 = some n
  | j, k + 1, n, hk, h0, hn, hj => by
    have hq := pow_le9 (j + 1) (by omega)
    have ht : Int.tmod n 10 = n % 10 := Int.tmod_eq_emod_of_nonneg h0
    have hd : Int.tdiv n 10 = n / 10 := Int.tdiv_eq_ediv_of_nonneg h0
    have hw : (wrap64 (48 + (Int.tmod n 10))) % 256 = 48 + n % 10 := by rw [ht, w64 _ (by omega) (by omega)]; omega
    have hone : ∀ m, digs (strOfNums [48 + n % 10]).data.toList m = some (10 * m + n % 10) := fun m =>
      digs_one (n % 10) m (by omega) (by omega) (UInt8.ofNat (48 + n % 10).toNat) (by
        rw [UInt8.toNat_ofNat']
        omega)
    rw [transeptlaw10_digits.f, hw, bind_s]
    by_cases hs : n < 10
    · rw [if_pos hs]
      refine ⟨_, rfl, by rw [str_size]; simp, by rw [str_size]; simp, ?_⟩
      rw [hone 0]; congr 1; omega
    · rw [if_neg hs]
      have hj1 : 1 ≤ j := by
        rcases j with _ | j
        · simp at hn; omega
        · omega
      obtain ⟨j, rfl⟩ : ∃ i, j = i + 1 := ⟨j - 1, by omega⟩
      have hlt : n / 10 < 10 ^ (j + 1) := by
        rw [Int.pow_succ] at hn
        omega
      obtain ⟨s, h1, h2, h3, h4⟩ := digits_ok j k (n / 10) (by omega) (by omega) hlt (by omega)
      rw [hd, w64 _ (by omega) (by omega), h1, bind_s, if_pos (by rw [str_size]; simp; omega)]
      refine ⟨_, rfl, ?_, ?_, ?_⟩
      · rw [ByteArray.size_append]; omega
      · rw [ByteArray.size_append, str_size]; simp; omega
      · rw [str_append, digs_append, h4]
        show digs _ _ = _
        rw [hone (n / 10)]; congr 1; omega
theorem lead0 (s : ByteArray) (n : Int) (h : digs s.data.toList 0 = some n) : digs ((⟨#[48]⟩ : ByteArray) ++ s).data.toList 0 = some n := by
  rw [str_append]
  show digs ((48 : UInt8) :: s.data.toList) 0 = some n
  rw [digs, if_neg (by decide)]
  exact h
theorem numF_ok (s : ByteArray) (n most : Int) (h1 : 1 ≤ s.size) (h9 : s.size ≤ 9) (h : digs s.data.toList 0 = some n) : field_Number.f s most = some (mn n most, true) := by
  show some (numF s most) = _
  unfold numF
  rw [if_neg (by omega), h]
theorem numF_sign (s : ByteArray) (most : Int) : ∃ r, field_Number.f ((⟨#[43]⟩ : ByteArray) ++ s) most = some (r, false) := by
  refine ⟨0, ?_⟩
  show some (numF _ most) = _
  unfold numF
  split
  · rfl
  · rw [str_append]
    show some (match digs ((43 : UInt8) :: s.data.toList) 0 with | none => (0, false) | some n => (mn n most, true)) = _
    rw [digs, if_pos (by decide)]
theorem numF_blank (s : ByteArray) (n most : Int) (h : digs s.data.toList 0 = some n) : ∃ r, field_Number.f (s ++ (⟨#[32]⟩ : ByteArray)) most = some (r, false) := by
  refine ⟨0, ?_⟩
  show some (numF _ most) = _
  unfold numF
  split
  · rfl
  · rw [str_append, digs_append, h]
    show some (match digs [(32 : UInt8)] n with | none => (0, false) | some n => (mn n most, true)) = _
    rw [digs, if_pos (by decide)]
theorem numF_long (s : ByteArray) (most : Int) (h1 : 1 ≤ s.size) : field_Number.f ((⟨#[48, 48, 48, 48, 48, 48, 48, 48, 48]⟩ : ByteArray) ++ s) most = some (0, false) := by
  show some (numF _ most) = _
  unfold numF
  rw [if_pos (.inr (by rw [ByteArray.size_append]; show 9 < 9 + s.size; omega))]
theorem j1_ok (k : Nat) (n most : Int) (s : ByteArray) (h1 : 1 ≤ s.size) (h9 : s.size ≤ 9) (h : digs s.data.toList 0 = some n) : transeptlaw10_FieldDigits.j1 (k + 1) n most true s = some true := by
  obtain ⟨r1, e1⟩ := numF_sign s most
  obtain ⟨r2, e2⟩ := numF_blank s n most h
  rw [transeptlaw10_FieldDigits.j1, numF_ok s n most h1 h9 h, bind_s, if_pos (by omega), e1, bind_s, if_pos (by omega), e2, bind_s, if_pos (by omega), numF_long s most h1, bind_s]
  simp
theorem l0_ok (n x1 most : Int) (m : Nat) (hm : Go.bits .and .i64 x1 7 = (m : Int)) (hm7 : m ≤ 7) : ∀ (d I k : Nat) (s : ByteArray), I + d = m → d + 2 < k → 1 ≤ s.size → s.size ≤ 9 → digs s.data.toList 0 = some n → transeptlaw10_FieldDigits.l0 k n x1 most true s (I : Int) = some true
  | 0, I, k + 2, s, h, _, h1, h9, hd => by
    rw [transeptlaw10_FieldDigits.l0, if_neg (by omega), j1_ok k n most s h1 h9 hd]
  | d + 1, I, k + 2, s, h, hk, h1, h9, hd => by
    rw [transeptlaw10_FieldDigits.l0, if_pos (by omega)]
    by_cases hs : (s.size : Int) < 9
    · rw [if_pos hs, if_pos (by omega), w64 _ (by omega) (by omega), show ((I : Int) + 1) = ((I + 1 : Nat) : Int) by omega]
      refine l0_ok n x1 most m hm hm7 d (I + 1) (k + 1) _ (by omega) (by omega) ?_ ?_ (lead0 s n hd)
      · rw [ByteArray.size_append]; omega
      · rw [ByteArray.size_append]; show 1 + s.size ≤ 9; omega
    · rw [if_neg hs, j1_ok k n most s h1 h9 hd]
theorem and_small (a M : Int) (hM : (BitVec.ofInt IntKind.i64.bits M).toNat ≤ 281474976710655) : ∃ x : Nat, x ≤ (BitVec.ofInt IntKind.i64.bits M).toNat ∧ Go.bits .and .i64 a M = (x : Int) := by
  simp only [bits]
  have h : ((BitVec.ofInt IntKind.i64.bits a &&& BitVec.ofInt IntKind.i64.bits M).toNat) ≤ (BitVec.ofInt IntKind.i64.bits M).toNat := by
    rw [BitVec.toNat_and]
    exact Nat.and_le_right
  generalize (BitVec.ofInt IntKind.i64.bits a &&& BitVec.ofInt IntKind.i64.bits M).toNat = n at *
  refine ⟨n, h, ?_⟩
  rw [IntKind.wrap_i64]; omega
theorem FieldDigits : transeptlaw10_FieldDigits.Pure := by
  intro a0 a1 a2 _ _ _
  refine ⟨30, ?_⟩
  unfold transeptlaw10_FieldDigits.f
  obtain ⟨B, hB⟩ : ∃ B, Go.bits .and .i64 a0 281474976710655 = B := ⟨_, rfl⟩
  have hB0 : 0 ≤ B := by
    obtain ⟨x, _, hx⟩ := and_small a0 281474976710655 (by decide +kernel)
    rw [← hB, hx]; omega
  obtain ⟨m, hm, hm7⟩ : ∃ m : Nat, Go.bits .and .i64 a1 7 = (m : Int) ∧ m ≤ 7 := by
    obtain ⟨x, h1, hx⟩ := and_small a1 7 (by decide +kernel)
    exact ⟨x, hx, Nat.le_trans h1 (by decide +kernel)⟩
  rw [hB, Int.tmod_eq_emod_of_nonneg hB0, shown_f 30 (by omega), bind_s]
  obtain ⟨s, h1, h2, h3, h4⟩ := digits_ok 8 30 (B % 1000000000) (by omega) (by omega) (by show B % 1000000000 < 1000000000; omega) (by omega)
  rw [h1, bind_s]
  have := l0_ok (B % 1000000000) a1 a2 m hm hm7 m 0 30 s (by omega) (by omega) h2 (by omega) h4
  exact this
end Go.Proofs.Ytbldmicpnibnpaa.Pure
