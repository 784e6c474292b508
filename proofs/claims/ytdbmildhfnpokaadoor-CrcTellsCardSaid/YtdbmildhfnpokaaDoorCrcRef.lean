/- The document's remainder, bit by bit in the order of the polynomial, against the sum by halves. -/
import Derived.Test.YtdbmildhfnpokaaDoorPure
namespace Go.Proofs.YtdbmildhfnpokaaDoor.Ext
open Go.RowKit Go.Proofs.YtdbmildhfnpokaaDoorW.PrintWords Go.Proofs.YtdbmildhfnpokaaDoorW.PrintLast

/-- The bits the other way round, one by one. -/
def tl : Nat → BitVec 32 → BitVec 32 → BitVec 32
  | 0, _, out => out
  | n + 1, x, out => tl n (x >>> 1) ((out <<< 1) + (x &&& 1#32))
theorem one_bit (i : Nat) : (1#32).getLsbD i = decide (i = 0) := by
  have h : (1#32) = BitVec.ofNat 32 (2 ^ 1 - 1) := rfl
  rw [h, BitVec.getLsbD_ofNat, Nat.testBit_two_pow_sub_one]
  by_cases h0 : i = 0
  · subst h0; decide
  · have : ¬ i < 1 := by omega
    simp [h0, this]
theorem shl_or (x out : BitVec 32) : (out <<< 1) + (x &&& 1#32) = (out <<< 1) ||| (x &&& 1#32) := by
  apply BitVec.add_eq_or_of_and_eq_zero
  apply BitVec.eq_of_getLsbD_eq
  intro i hi
  simp only [BitVec.getLsbD_and, BitVec.getLsbD_shiftLeft, one_bit, hi, decide_true, Bool.true_and]
  by_cases h : i = 0
  · subst h; simp
  · simp [h]
theorem tl_bit : ∀ (n : Nat) (x out : BitVec 32) (i : Nat), i < 32 → n ≤ 32 → (tl n x out).getLsbD i = if i < n then x.getLsbD (n - 1 - i) else out.getLsbD (i - n)
  | 0, x, out, i, _, _ => by simp [tl]
  | n + 1, x, out, i, hi, hn => by
    rw [tl, tl_bit n _ _ i hi (by omega), shl_or]
    by_cases h1 : i < n
    · rw [if_pos h1, if_pos (by omega), BitVec.getLsbD_ushiftRight]; congr 1; omega
    · rw [if_neg h1]
      simp only [BitVec.getLsbD_or, BitVec.getLsbD_shiftLeft, BitVec.getLsbD_and, one_bit]
      by_cases h2 : i = n
      · subst h2; simp
      · rw [if_neg (by omega)]
        have h3 : i - n ≠ 0 := by omega
        have h4 : ¬ i - n < 1 := by omega
        simp [h3, h4, show i - n < 32 by omega, show i - n - 1 = i - (n + 1) by omega]
def rv (x : BitVec 32) : BitVec 32 := tl 32 x 0#32
theorem rv_bit (x : BitVec 32) (i : Nat) (hi : i < 32) : (rv x).getLsbD i = x.getLsbD (31 - i) := by
  unfold rv; rw [tl_bit 32 x _ i hi (by omega), if_pos hi]
theorem rv_rv (x : BitVec 32) : rv (rv x) = x := by
  apply BitVec.eq_of_getLsbD_eq
  intro i hi
  rw [rv_bit _ i hi, rv_bit _ _ (by omega)]; congr 1; omega
theorem rv_xor (x y : BitVec 32) : rv (x ^^^ y) = rv x ^^^ rv y := by
  apply BitVec.eq_of_getLsbD_eq
  intro i hi
  rw [BitVec.getLsbD_xor, rv_bit _ i hi, rv_bit _ i hi, rv_bit _ i hi, BitVec.getLsbD_xor]
theorem rv_shl (x : BitVec 32) : rv (x <<< 1) = rv x >>> 1 := by
  apply BitVec.eq_of_getLsbD_eq
  intro i hi
  rw [rv_bit _ i hi, BitVec.getLsbD_shiftLeft, BitVec.getLsbD_ushiftRight]
  by_cases h : i = 31
  · subst h; rw [BitVec.getLsbD_of_ge (rv x) _ (by omega)]; simp
  · rw [rv_bit _ _ (by omega)]
    have h1 : ¬ 31 - i < 1 := by omega
    simp [h1, show 31 - i < 32 by omega]; congr 1; omega
/-- One step of the document's. -/
def rstep (r : BitVec 32) (bit : Bool) : BitVec 32 := (r <<< 1) ^^^ (if r.getLsbD 31 = bit then 0#32 else 0x04C11DB7#32)
def bitv (b : Bool) : BitVec 32 := if b then 1#32 else 0#32
theorem rv_rstep (r : BitVec 32) (bit : Bool) : rv (rstep r bit) = bit1 (rv r ^^^ bitv bit) := by
  have h0 : rv 0#32 = 0#32 := by decide +kernel
  have hp : rv 0x04C11DB7#32 = poly := by decide +kernel
  have hl : (rv r).getLsbD 0 = r.getLsbD 31 := rv_bit r 0 (by omega)
  unfold rstep bit1
  rw [rv_xor, rv_shl, BitVec.getLsbD_xor, hl, BitVec.ushiftRight_xor_distrib]
  have hb : bitv bit >>> 1 = 0#32 := by cases bit <;> decide
  rw [hb, BitVec.xor_zero]
  refine congrArg (fun z => (rv r >>> 1) ^^^ z) ?_
  have t0 : (bitv true).getLsbD 0 = true := by decide
  have f0 : (bitv false).getLsbD 0 = false := by decide
  generalize r.getLsbD 31 = m
  cases bit
  · rw [f0]
    cases m
    · rw [if_pos rfl]; exact h0
    · rw [if_neg (by decide)]; exact hp
  · rw [t0]
    cases m
    · rw [if_neg (by decide)]; exact hp
    · rw [if_pos rfl]; exact h0
/-- So many steps, with a number's bits, the lowest first. -/
def fold : Nat → BitVec 32 → Int → BitVec 32
  | 0, r, _ => r
  | n + 1, r, y => fold n (rstep r (decide (y % 2 = 1))) (y / 2)
theorem ofInt_split (y : Int) (h0 : 0 ≤ y) (h1 : y < 256) : BitVec.ofInt 32 y = bitv (decide (y % 2 = 1)) ^^^ (BitVec.ofInt 32 (y / 2) <<< 1) := by
  have : ∀ n : Fin 256, BitVec.ofInt 32 (n.val : Int) = bitv (decide ((n.val : Int) % 2 = 1)) ^^^ (BitVec.ofInt 32 ((n.val : Int) / 2) <<< 1) := by decide +kernel
  have h := this ⟨y.toNat, by omega⟩
  simpa [Int.toNat_of_nonneg h0] using h
theorem bit1_shl (z : Int) (h0 : 0 ≤ z) (h1 : z < 128) : bit1 (BitVec.ofInt 32 z <<< 1) = BitVec.ofInt 32 z := by
  have : ∀ n : Fin 128, bit1 (BitVec.ofInt 32 (n.val : Int) <<< 1) = BitVec.ofInt 32 (n.val : Int) := by decide +kernel
  have h := this ⟨z.toNat, by omega⟩
  simpa [Int.toNat_of_nonneg h0] using h
theorem rv_step1 (r : BitVec 32) (y : Int) (h0 : 0 ≤ y) (h1 : y < 256) : bit1 (rv r ^^^ BitVec.ofInt 32 y) = rv (rstep r (decide (y % 2 = 1))) ^^^ BitVec.ofInt 32 (y / 2) := by
  rw [ofInt_split y h0 h1, ← BitVec.xor_assoc, bit1_xor, bit1_shl (y / 2) (by omega) (by omega), rv_rstep]
theorem rv_fold8 (r : BitVec 32) (y : Int) (h0 : 0 ≤ y) (h1 : y < 256) : rv (fold 8 r y) = L (rv r ^^^ BitVec.ofInt 32 y) := by
  unfold L b4
  rw [rv_step1 r y h0 h1, rv_step1 _ (y / 2) (by omega) (by omega), rv_step1 _ (y / 2 / 2) (by omega) (by omega), rv_step1 _ (y / 2 / 2 / 2) (by omega) (by omega),
    rv_step1 _ (y / 2 / 2 / 2 / 2) (by omega) (by omega), rv_step1 _ (y / 2 / 2 / 2 / 2 / 2) (by omega) (by omega), rv_step1 _ (y / 2 / 2 / 2 / 2 / 2 / 2) (by omega) (by omega), rv_step1 _ (y / 2 / 2 / 2 / 2 / 2 / 2 / 2) (by omega) (by omega)]
  rw [show y / 2 / 2 / 2 / 2 / 2 / 2 / 2 / 2 = 0 by omega, show BitVec.ofInt 32 0 = 0#32 from rfl, BitVec.xor_zero]
  rfl
end Go.Proofs.YtdbmildhfnpokaaDoor.Ext
