/- The document's sums, numbers and texts, in plain words. -/
import Derived.Test.YtojagnoobaleaaaDoorFrT
import Derived.Test.YtojagnoobaleaaaDoorXpm
namespace Go.Proofs.YtojagnoobaleaaaDoor.Ext
open Go.RowKit Go.Proofs.YtojagnoobaleaaaDoor.Xp Go.Proofs.YtojagnoobaleaaaDoorW.PrintWords Go.Proofs.YtojagnoobaleaaaDoorW.PrintLast Go.Proofs.YtojagnoobaleaaaDoorW.PrintMore
set_option linter.unusedVariables false
set_option linter.unusedSimpArgs false
theorem bind_s {α β : Type} (x : α) (f : α → Option β) : (some x).bind f = f x := Eq.trans (Eq.refl _) (Eq.refl _)
theorem strOf_size (l : List Int) : (strOfNums l).size = l.length := by simp [strOfNums, ByteArray.size]
theorem gl_nat (l : List Int) (hl : ∀ x ∈ l, 0 ≤ x ∧ x < 256) (h : (gl 0 0 l).2.2 = 0) : 0 ≤ (gl 0 0 l).1 ∧ 1 ≤ (gl 0 0 l).2.1 := by
  obtain ⟨m, r, _, _, h3⟩ := gl_ok l 0 0 hl h
  have := put_pos m
  rw [h3]; simp; omega

namespace Ref

def poly : BitVec 32 := 0xEDB88320#32
/-- One bit's step. -/
def bit1 (c : BitVec 32) : BitVec 32 := (c >>> 1) ^^^ (if c.getLsbD 0 then poly else 0#32)

theorem bit1_xor (a b : BitVec 32) : bit1 (a ^^^ b) = bit1 a ^^^ bit1 b := by
  unfold bit1
  rw [BitVec.ushiftRight_xor_distrib, BitVec.getLsbD_xor]
  generalize a >>> 1 = A
  generalize b >>> 1 = C
  have h1 : ∀ x y p : BitVec 32, (x ^^^ y) ^^^ p = (x ^^^ p) ^^^ y := fun x y p => by rw [BitVec.xor_assoc, BitVec.xor_comm y p, ← BitVec.xor_assoc]
  have h2 : ∀ x y p : BitVec 32, x ^^^ y = (x ^^^ p) ^^^ (y ^^^ p) := fun x y p => by
    rw [BitVec.xor_comm y p, ← BitVec.xor_assoc, BitVec.xor_assoc x p p, BitVec.xor_self, BitVec.xor_zero]
  cases a.getLsbD 0 <;> cases b.getLsbD 0
  · simp
  · simp [BitVec.xor_assoc]
  · simp only [Bool.xor_false, if_true, Bool.false_eq_true, if_false, BitVec.xor_zero]; exact h1 _ _ _
  · simp only [Bool.xor_true, Bool.not_true, Bool.false_eq_true, if_false, if_true, BitVec.xor_zero]; exact h2 _ _ _
theorem bit1_zero : bit1 0#32 = 0#32 := by decide
theorem bit1_even (c : BitVec 32) (h : c.getLsbD 0 = false) : bit1 c = c >>> 1 := by unfold bit1; rw [h]; simp
theorem bit1_zero_inv (a : BitVec 32) (h : bit1 a = 0#32) : a = 0#32 := by
  cases hb : a.getLsbD 0 with
  | true =>
    unfold bit1 at h
    rw [hb] at h
    have h31 := congrArg (fun x : BitVec 32 => x.getLsbD 31) h
    simp [poly] at h31
  | false =>
    rw [bit1_even a hb] at h
    apply BitVec.eq_of_getLsbD_eq
    intro i hi
    cases i with
    | zero => simpa using hb
    | succ i =>
      have hh := congrArg (fun x : BitVec 32 => x.getLsbD i) h
      simp [BitVec.getLsbD_ushiftRight] at hh
      rw [Nat.add_comm 1 i] at hh
      simpa using hh
def b4 (c : BitVec 32) : BitVec 32 := bit1 (bit1 (bit1 (bit1 c)))
theorem b4_xor (a b : BitVec 32) : b4 (a ^^^ b) = b4 a ^^^ b4 b := by simp only [b4, bit1_xor]
theorem b4_zero_inv (a : BitVec 32) (h : b4 a = 0#32) : a = 0#32 := bit1_zero_inv _ (bit1_zero_inv _ (bit1_zero_inv _ (bit1_zero_inv _ h)))
theorem b4_even (c : BitVec 32) (h0 : c.getLsbD 0 = false) (h1 : c.getLsbD 1 = false) (h2 : c.getLsbD 2 = false) (h3 : c.getLsbD 3 = false) : b4 c = c >>> 4 := by
  have e1 : bit1 (c >>> 1) = c >>> 2 := by
    rw [bit1_even (c >>> 1) (by rw [BitVec.getLsbD_ushiftRight]; exact h1), ← BitVec.shiftRight_add]
  have e2 : bit1 (c >>> 2) = c >>> 3 := by
    rw [bit1_even (c >>> 2) (by rw [BitVec.getLsbD_ushiftRight]; exact h2), ← BitVec.shiftRight_add]
  have e3 : bit1 (c >>> 3) = c >>> 4 := by
    rw [bit1_even (c >>> 3) (by rw [BitVec.getLsbD_ushiftRight]; exact h3), ← BitVec.shiftRight_add]
  unfold b4
  rw [bit1_even c h0, e1, e2, e3]
theorem T_b4 : ∀ n : Fin 16, b4 (BitVec.ofNat 32 n.val) = T (BitVec.ofNat 32 n.val) := by decide +kernel
theorem half_eq (c : BitVec 32) : half c = b4 c := by
  have hc : c = (c &&& ~~~15#32) ^^^ (c &&& 15#32) := by
    apply BitVec.eq_of_getLsbD_eq
    intro i hi
    simp only [BitVec.getLsbD_xor, BitVec.getLsbD_and, BitVec.getLsbD_not, hi, decide_true, Bool.true_and]
    cases c.getLsbD i <;> cases (15#32).getLsbD i <;> rfl
  have hi : b4 (c &&& ~~~15#32) = c >>> 4 := by
    rw [b4_even _ (by simp) (by simp) (by simp) (by simp)]
    apply BitVec.eq_of_getLsbD_eq
    intro i hi
    simp only [BitVec.getLsbD_ushiftRight, BitVec.getLsbD_and, BitVec.getLsbD_not]
    by_cases h : 4 + i < 32
    · have h15 : (15#32).getLsbD (4 + i) = false := by
        have : ∀ j : Fin 28, (15#32).getLsbD (4 + j.val) = false := by decide
        exact this ⟨i, by omega⟩
      rw [h15]; simp [h]
    · rw [BitVec.getLsbD_of_ge c (4 + i) (by omega)]; simp
  have hl : b4 (c &&& 15#32) = T (c &&& 15#32) := by
    have hlt : (c &&& 15#32).toNat < 16 := by rw [BitVec.toNat_and]; exact Nat.lt_of_le_of_lt Nat.and_le_right (by decide)
    have := T_b4 ⟨(c &&& 15#32).toNat, hlt⟩
    simpa using this
  show (c >>> 4) ^^^ T (c &&& 15#32) = b4 c
  rw [← hi, ← hl, ← b4_xor, ← hc]

/-- What a byte does to the state that it has been xored into. -/
def L (c : BitVec 32) : BitVec 32 := b4 (b4 c)
theorem byte_L (c : BitVec 32) (x : Int) : byte c x = L (c ^^^ BitVec.ofInt 32 x) := by unfold byte L; rw [half_eq, half_eq]
theorem L_xor (a b : BitVec 32) : L (a ^^^ b) = L a ^^^ L b := by simp only [L, b4_xor]
theorem L_zero_inv (a : BitVec 32) (h : L a = 0#32) : a = 0#32 := b4_zero_inv _ (b4_zero_inv _ h)
theorem xor_eq_zero {a b : BitVec 32} (h : a ^^^ b = 0#32) : a = b := by
  have := congrArg (· ^^^ b) h
  simpa [BitVec.xor_assoc] using this
theorem L_inj {a b : BitVec 32} (h : L a = L b) : a = b := by
  apply xor_eq_zero; apply L_zero_inv; rw [L_xor, h, BitVec.xor_self]
theorem xor_cancel {a b c : BitVec 32} (h : a ^^^ b = a ^^^ c) : b = c := by
  have := congrArg (a ^^^ ·) h
  simpa [← BitVec.xor_assoc] using this
theorem xor_cancel_r {a b c : BitVec 32} (h : b ^^^ a = c ^^^ a) : b = c := xor_cancel (a := a) (by rwa [BitVec.xor_comm a b, BitVec.xor_comm a c])
theorem run_inj : ∀ (l : List Int) {a b : BitVec 32}, run a l = run b l → a = b
  | [], _, _, h => h
  | x :: l, a, b, h => by
    have := run_inj l (a := byte a x) (b := byte b x) h
    rw [byte_L, byte_L] at this
    exact xor_cancel_r (L_inj this)
theorem ofInt_inj {x y : Int} (hx0 : 0 ≤ x) (hx : x < 4294967296) (hy0 : 0 ≤ y) (hy : y < 4294967296) (h : BitVec.ofInt 32 x = BitVec.ofInt 32 y) : x = y := by
  rw [← B_ofInt x hx0 hx, ← B_ofInt y hy0 hy, h]
theorem byte_inj {c : BitVec 32} {x y : Int} (hx0 : 0 ≤ x) (hx : x < 256) (hy0 : 0 ≤ y) (hy : y < 256) (h : byte c x = byte c y) : x = y := by
  rw [byte_L, byte_L] at h
  exact ofInt_inj hx0 (by omega) hy0 (by omega) (xor_cancel (L_inj h))
/-- No byte but nought is left as it is. -/
theorem L_fix : ∀ d : Fin 256, L (BitVec.ofNat 32 d.val) = BitVec.ofNat 32 d.val → d.val = 0 := by decide +kernel
theorem ofInt_byte (x : Int) (h0 : 0 ≤ x) (h : x < 256) : (BitVec.ofInt 32 x).toNat < 256 := by
  have := B_ofInt x h0 (by omega); unfold B at this; omega
theorem swap_inj {c : BitVec 32} {x y : Int} (hx0 : 0 ≤ x) (hx : x < 256) (hy0 : 0 ≤ y) (hy : y < 256) (h : byte (byte c x) y = byte (byte c y) x) : x = y := by
  simp only [byte_L] at h
  have h1 := L_inj h
  rw [L_xor, L_xor, BitVec.xor_assoc, BitVec.xor_assoc] at h1
  have h2 := xor_cancel h1
  generalize hX : BitVec.ofInt 32 x = X at h2
  generalize hY : BitVec.ofInt 32 y = Y at h2
  have h3 : L (X ^^^ Y) = X ^^^ Y := by
    rw [L_xor]
    apply BitVec.eq_of_getLsbD_eq
    intro i hi
    have hh := congrArg (fun z : BitVec 32 => z.getLsbD i) h2
    simp only [BitVec.getLsbD_xor] at hh ⊢
    revert hh
    generalize (L X).getLsbD i = p
    generalize (L Y).getLsbD i = q
    generalize X.getLsbD i = r
    generalize Y.getLsbD i = s
    revert p q r s
    decide
  have hlt : (X ^^^ Y).toNat < 256 := by
    rw [BitVec.toNat_xor]
    exact Nat.xor_lt_two_pow (n := 8) (by rw [← hX]; exact ofInt_byte x hx0 hx) (by rw [← hY]; exact ofInt_byte y hy0 hy)
  have h4 := L_fix ⟨(X ^^^ Y).toNat, hlt⟩ (by simpa using h3)
  have h5 : X ^^^ Y = 0#32 := BitVec.eq_of_toNat_eq (by simpa using h4)
  have h6 := xor_eq_zero h5
  rw [← hX, ← hY] at h6
  exact ofInt_inj hx0 (by omega) hy0 (by omega) h6

/-! ### four bytes -/
theorem L_shift (w : BitVec 32) (hw : (w <<< 8) >>> 8 = w) : L (w <<< 8) = w := by
  have e1 : b4 (w <<< 8) = (w <<< 8) >>> 4 := b4_even _ (by simp) (by simp) (by simp) (by simp)
  have e2 : b4 ((w <<< 8) >>> 4) = (w <<< 8) >>> 8 := by
    rw [b4_even _ (by simp) (by simp) (by simp) (by simp), ← BitVec.shiftRight_add]
  unfold L
  rw [e1, e2, hw]
theorem low255 (i : Nat) : (255#32).getLsbD i = decide (i < 8) := by
  have h : (255#32) = BitVec.ofNat 32 (2 ^ 8 - 1) := rfl
  rw [h, BitVec.getLsbD_ofNat, Nat.testBit_two_pow_sub_one]
  by_cases h8 : i < 8
  · have : i < 32 := by omega
    simp [h8, this]
  · simp [h8]
theorem L_step (u X : BitVec 32) : L (u ^^^ X) = L (u ^^^ (X &&& 255#32)) ^^^ (X >>> 8) := by
  have hX : X = (X &&& 255#32) ^^^ ((X >>> 8) <<< 8) := by
    apply BitVec.eq_of_getLsbD_eq
    intro i hi
    simp only [BitVec.getLsbD_xor, BitVec.getLsbD_and, low255, BitVec.getLsbD_shiftLeft, BitVec.getLsbD_ushiftRight, hi, decide_true, Bool.true_and]
    by_cases h8 : i < 8
    · simp [h8]
    · rw [show 8 + (i - 8) = i by omega]; simp [h8]
  have hs : L ((X >>> 8) <<< 8) = X >>> 8 := by
    apply L_shift
    apply BitVec.eq_of_getLsbD_eq
    intro i hi
    simp only [BitVec.getLsbD_shiftLeft, BitVec.getLsbD_ushiftRight]
    by_cases h : 8 + i < 32
    · rw [show 8 + (8 + i - 8) = 8 + i by omega]; simp [h]
    · rw [BitVec.getLsbD_of_ge X (8 + i) (by omega)]; simp [h]
  have h1 : L (u ^^^ X) = L ((u ^^^ (X &&& 255#32)) ^^^ ((X >>> 8) <<< 8)) := by rw [BitVec.xor_assoc, ← hX]
  rw [h1, L_xor, hs]
def L4 (c : BitVec 32) : BitVec 32 := L (L (L (L c)))
theorem L4_inj {a b : BitVec 32} (h : L4 a = L4 b) : a = b := L_inj (L_inj (L_inj (L_inj h)))
/-- A number's four bytes, the lowest first. -/
def four (a : Int) : List Int := [a % 256, (a / 256) % 256, (a / 65536) % 256, (a / 16777216) % 256]
theorem four_range (a : Int) : ∀ x ∈ four a, 0 ≤ x ∧ x < 256 := by
  intro x hx
  simp only [four, List.mem_cons, List.not_mem_nil, or_false] at hx
  rcases hx with rfl | rfl | rfl | rfl <;> omega
theorem ofInt_and (X : BitVec 32) (k : Nat) : BitVec.ofInt 32 ((B X / (2 ^ k : Nat)) % 256) = (X >>> k) &&& 255#32 := by
  apply B_inj
  have h : (B X / (2 ^ k : Nat)) % 256 = ((X.toNat / 2 ^ k % 256 : Nat) : Int) := by unfold B; simp
  rw [h, B_ofInt _ (by omega) (by omega)]
  unfold B
  rw [BitVec.toNat_and, BitVec.toNat_ushiftRight, Nat.shiftRight_eq_div_pow, show (255#32).toNat = 2 ^ 8 - 1 from rfl, Nat.and_two_pow_sub_one_eq_mod]
theorem run_four (s : BitVec 32) (a : Int) (h0 : 0 ≤ a) (h1 : a < 4294967296) : run s (four a) = L4 (s ^^^ BitVec.ofInt 32 a) := by
  generalize hX : BitVec.ofInt 32 a = X
  have ha : a = B X := by rw [← hX, B_ofInt a h0 h1]
  have k0 : BitVec.ofInt 32 (a % 256) = X &&& 255#32 := by
    have := ofInt_and X 0; rw [ha]; simpa using this
  have k1 : BitVec.ofInt 32 ((a / 256) % 256) = (X >>> 8) &&& 255#32 := by have := ofInt_and X 8; rw [ha]; simpa using this
  have k2 : BitVec.ofInt 32 ((a / 65536) % 256) = (X >>> 8 >>> 8) &&& 255#32 := by have := ofInt_and X 16; rw [ha, ← BitVec.shiftRight_add]; simpa using this
  have k3 : BitVec.ofInt 32 ((a / 16777216) % 256) = (X >>> 8 >>> 8 >>> 8) &&& 255#32 := by have := ofInt_and X 24; rw [ha, ← BitVec.shiftRight_add, ← BitVec.shiftRight_add]; simpa using this
  have hz : X >>> 8 >>> 8 >>> 8 >>> 8 = 0#32 := by
    rw [← BitVec.shiftRight_add, ← BitVec.shiftRight_add, ← BitVec.shiftRight_add]
    apply BitVec.eq_of_getLsbD_eq
    intro i hi
    rw [BitVec.getLsbD_ushiftRight, BitVec.getLsbD_of_ge X _ (by omega)]; simp
  simp only [run, four, List.foldl, byte_L, k0, k1, k2, k3]
  unfold L4
  rw [L_step s X, L_step _ (X >>> 8), L_step _ (X >>> 8 >>> 8), L_step _ (X >>> 8 >>> 8 >>> 8), hz, BitVec.xor_zero]
theorem not_eq_xor (x : BitVec 32) : ~~~x = BitVec.allOnes 32 ^^^ x := by rw [BitVec.allOnes_xor]
theorem not_inj {x y : BitVec 32} (h : ~~~x = ~~~y) : x = y := by have := congrArg (~~~ ·) h; simpa using this
theorem more_range (a : Int) (l : List Int) : 0 ≤ more a l ∧ more a l < 4294967296 := B_range _
/-- More, once more: a sum is as good as the bytes that it is of. -/
theorem more_more (a : Int) (l m : List Int) : more (more a l) m = more a (l ++ m) := by
  unfold more
  rw [ofInt_B, BitVec.not_not, run_append]
theorem ofInt_xor (a b : Int) (ha0 : 0 ≤ a) (ha : a < 4294967296) (hb0 : 0 ≤ b) (hb : b < 4294967296) : BitVec.ofInt 32 (bits .xor .u32 a b) = BitVec.ofInt 32 a ^^^ BitVec.ofInt 32 b := by
  have h := xorB (BitVec.ofInt 32 a) (BitVec.ofInt 32 b)
  rw [B_ofInt a ha0 ha, B_ofInt b hb0 hb] at h
  rw [h, ofInt_B]
theorem xor_range (a b : Int) (ha0 : 0 ≤ a) (ha : a < 4294967296) (hb0 : 0 ≤ b) (hb : b < 4294967296) : 0 ≤ bits .xor .u32 a b ∧ bits .xor .u32 a b < 4294967296 := by
  have h := xorB (BitVec.ofInt 32 a) (BitVec.ofInt 32 b)
  rw [B_ofInt a ha0 ha, B_ofInt b hb0 hb] at h
  rw [h]; exact B_range _

/-- The bits the other way round, one by one. -/
def tl : Nat → BitVec 32 → BitVec 32 → BitVec 32
  | 0, _, out => out
  | n + 1, x, out => tl n (x >>> 1) ((out <<< 1) + (x &&& 1#32))
theorem one_bit (i : Nat) : (1#32).getLsbD i = decide (i = 0) := by
  have h : (1#32) = BitVec.ofNat 32 (2 ^ 1 - 1) := rfl
  rw [h, BitVec.getLsbD_ofNat, Nat.testBit_two_pow_sub_one]
  by_cases h0 : i = 0
  · subst h0; decide
  · have : ¬ i < 1 := by omega
    simp [h0, this]
theorem shl_or (x out : BitVec 32) : (out <<< 1) + (x &&& 1#32) = (out <<< 1) ||| (x &&& 1#32) := by
  apply BitVec.add_eq_or_of_and_eq_zero
  apply BitVec.eq_of_getLsbD_eq
  intro i hi
  simp only [BitVec.getLsbD_and, BitVec.getLsbD_shiftLeft, one_bit, hi, decide_true, Bool.true_and]
  by_cases h : i = 0
  · subst h; simp
  · simp [h]
theorem tl_bit : ∀ (n : Nat) (x out : BitVec 32) (i : Nat), i < 32 → n ≤ 32 → (tl n x out).getLsbD i = if i < n then x.getLsbD (n - 1 - i) else out.getLsbD (i - n)
  | 0, x, out, i, _, _ => by simp [tl]
  | n + 1, x, out, i, hi, hn => by
    rw [tl, tl_bit n _ _ i hi (by omega), shl_or]
    by_cases h1 : i < n
    · rw [if_pos h1, if_pos (by omega), BitVec.getLsbD_ushiftRight]; congr 1; omega
    · rw [if_neg h1]
      simp only [BitVec.getLsbD_or, BitVec.getLsbD_shiftLeft, BitVec.getLsbD_and, one_bit]
      by_cases h2 : i = n
      · subst h2; simp
      · rw [if_neg (by omega)]
        have h3 : i - n ≠ 0 := by omega
        have h4 : ¬ i - n < 1 := by omega
        simp [h3, h4, show i - n < 32 by omega, show i - n - 1 = i - (n + 1) by omega]
def rv (x : BitVec 32) : BitVec 32 := tl 32 x 0#32
theorem rv_bit (x : BitVec 32) (i : Nat) (hi : i < 32) : (rv x).getLsbD i = x.getLsbD (31 - i) := by
  unfold rv; rw [tl_bit 32 x _ i hi (by omega), if_pos hi]
theorem rv_rv (x : BitVec 32) : rv (rv x) = x := by
  apply BitVec.eq_of_getLsbD_eq
  intro i hi
  rw [rv_bit _ i hi, rv_bit _ _ (by omega)]; congr 1; omega
theorem rv_xor (x y : BitVec 32) : rv (x ^^^ y) = rv x ^^^ rv y := by
  apply BitVec.eq_of_getLsbD_eq
  intro i hi
  rw [BitVec.getLsbD_xor, rv_bit _ i hi, rv_bit _ i hi, rv_bit _ i hi, BitVec.getLsbD_xor]
theorem rv_shl (x : BitVec 32) : rv (x <<< 1) = rv x >>> 1 := by
  apply BitVec.eq_of_getLsbD_eq
  intro i hi
  rw [rv_bit _ i hi, BitVec.getLsbD_shiftLeft, BitVec.getLsbD_ushiftRight]
  by_cases h : i = 31
  · subst h; rw [BitVec.getLsbD_of_ge (rv x) _ (by omega)]; simp
  · rw [rv_bit _ _ (by omega)]
    have h1 : ¬ 31 - i < 1 := by omega
    simp [h1, show 31 - i < 32 by omega]; congr 1; omega
/-- One step of the document's. -/
def rstep (r : BitVec 32) (bit : Bool) : BitVec 32 := (r <<< 1) ^^^ (if r.getLsbD 31 = bit then 0#32 else 0x04C11DB7#32)
def bitv (b : Bool) : BitVec 32 := if b then 1#32 else 0#32
theorem rv_rstep (r : BitVec 32) (bit : Bool) : rv (rstep r bit) = bit1 (rv r ^^^ bitv bit) := by
  have h0 : rv 0#32 = 0#32 := by decide +kernel
  have hp : rv 0x04C11DB7#32 = poly := by decide +kernel
  have hl : (rv r).getLsbD 0 = r.getLsbD 31 := rv_bit r 0 (by omega)
  unfold rstep bit1
  rw [rv_xor, rv_shl, BitVec.getLsbD_xor, hl, BitVec.ushiftRight_xor_distrib]
  have hb : bitv bit >>> 1 = 0#32 := by cases bit <;> decide
  rw [hb, BitVec.xor_zero]
  refine congrArg (fun z => (rv r >>> 1) ^^^ z) ?_
  have t0 : (bitv true).getLsbD 0 = true := by decide
  have f0 : (bitv false).getLsbD 0 = false := by decide
  generalize r.getLsbD 31 = m
  cases bit
  · rw [f0]
    cases m
    · rw [if_pos rfl]; exact h0
    · rw [if_neg (by decide)]; exact hp
  · rw [t0]
    cases m
    · rw [if_neg (by decide)]; exact hp
    · rw [if_pos rfl]; exact h0
/-- So many steps, with a number's bits, the lowest first. -/
def fold : Nat → BitVec 32 → Int → BitVec 32
  | 0, r, _ => r
  | n + 1, r, y => fold n (rstep r (decide (y % 2 = 1))) (y / 2)
theorem ofInt_split (y : Int) (h0 : 0 ≤ y) (h1 : y < 256) : BitVec.ofInt 32 y = bitv (decide (y % 2 = 1)) ^^^ (BitVec.ofInt 32 (y / 2) <<< 1) := by
  have : ∀ n : Fin 256, BitVec.ofInt 32 (n.val : Int) = bitv (decide ((n.val : Int) % 2 = 1)) ^^^ (BitVec.ofInt 32 ((n.val : Int) / 2) <<< 1) := by decide +kernel
  have h := this ⟨y.toNat, by omega⟩
  simpa [Int.toNat_of_nonneg h0] using h
theorem bit1_shl (z : Int) (h0 : 0 ≤ z) (h1 : z < 128) : bit1 (BitVec.ofInt 32 z <<< 1) = BitVec.ofInt 32 z := by
  have : ∀ n : Fin 128, bit1 (BitVec.ofInt 32 (n.val : Int) <<< 1) = BitVec.ofInt 32 (n.val : Int) := by decide +kernel
  have h := this ⟨z.toNat, by omega⟩
  simpa [Int.toNat_of_nonneg h0] using h
theorem rv_step1 (r : BitVec 32) (y : Int) (h0 : 0 ≤ y) (h1 : y < 256) : bit1 (rv r ^^^ BitVec.ofInt 32 y) = rv (rstep r (decide (y % 2 = 1))) ^^^ BitVec.ofInt 32 (y / 2) := by
  rw [ofInt_split y h0 h1, ← BitVec.xor_assoc, bit1_xor, bit1_shl (y / 2) (by omega) (by omega), rv_rstep]
theorem rv_fold8 (r : BitVec 32) (y : Int) (h0 : 0 ≤ y) (h1 : y < 256) : rv (fold 8 r y) = L (rv r ^^^ BitVec.ofInt 32 y) := by
  unfold L b4
  rw [rv_step1 r y h0 h1, rv_step1 _ (y / 2) (by omega) (by omega), rv_step1 _ (y / 2 / 2) (by omega) (by omega), rv_step1 _ (y / 2 / 2 / 2) (by omega) (by omega),
    rv_step1 _ (y / 2 / 2 / 2 / 2) (by omega) (by omega), rv_step1 _ (y / 2 / 2 / 2 / 2 / 2) (by omega) (by omega), rv_step1 _ (y / 2 / 2 / 2 / 2 / 2 / 2) (by omega) (by omega), rv_step1 _ (y / 2 / 2 / 2 / 2 / 2 / 2 / 2) (by omega) (by omega)]
  rw [show y / 2 / 2 / 2 / 2 / 2 / 2 / 2 / 2 = 0 by omega, show BitVec.ofInt 32 0 = 0#32 from rfl, BitVec.xor_zero]
  rfl


theorem B_shr1 (x : BitVec 32) : (Int.tdiv (B x) 2) % (4294967296 : Int) = B (x >>> 1) := by
  have h := B_range x
  rw [Int.tdiv_eq_ediv_of_nonneg h.1]
  unfold B at *
  rw [BitVec.toNat_ushiftRight, Nat.shiftRight_eq_div_pow]; omega
theorem B_shl1 (x : BitVec 32) : (B x * (2 : Int)) % (4294967296 : Int) = B (x <<< 1) := by
  unfold B
  rw [BitVec.toNat_shiftLeft, Nat.shiftLeft_eq]; omega
theorem B_in (x o : BitVec 32) : (((B o * (2 : Int)) % (4294967296 : Int)) + Int.tmod (B x) 2) % (4294967296 : Int) = B ((o <<< 1) + (x &&& 1#32)) := by
  have h := B_range x
  rw [Int.tmod_eq_emod_of_nonneg h.1, B_shl1]
  unfold B
  rw [BitVec.toNat_add, BitVec.toNat_and, show (1#32).toNat = 2 ^ 1 - 1 from rfl, Nat.and_two_pow_sub_one_eq_mod]; omega
theorem turned_l0 : ∀ (n k : Nat) (x o : BitVec 32) (i : Int), i = 32 - n → n ≤ 32 → n < k → transeptref02_turned.l0 k (B x) (B o) i = some (B (tl n x o))
  | 0, k, x, o, i, hi, hn, hk => by
    obtain ⟨k, rfl⟩ : ∃ m, k = m + 1 := ⟨k - 1, by omega⟩
    simp only [transeptref02_turned.l0]; rw [if_neg (by omega)]; rfl
  | n + 1, k, x, o, i, hi, hn, hk => by
    obtain ⟨k, rfl⟩ : ∃ m, k = m + 1 := ⟨k - 1, by omega⟩
    simp only [transeptref02_turned.l0]; rw [if_pos (by omega), B_shr1, B_in, w64 _ (by omega) (by omega), turned_l0 n k _ _ _ (by omega) (by omega) (by omega)]; rfl
theorem turned_f (k : Nat) (x : BitVec 32) (hk : 32 < k) : transeptref02_turned.f k (B x) = some (B (rv x)) := by
  unfold transeptref02_turned.f rv
  exact turned_l0 32 k x 0#32 0 (by omega) (by omega) hk
theorem B_not (x : BitVec 32) : ((4294967295 : Int) - B x) % (4294967296 : Int) = B (~~~ x) := by
  unfold B; rw [BitVec.toNat_not]; have := x.isLt; omega
theorem rstep_B (r : BitVec 32) (y : Int) (h0 : 0 ≤ y) :
    (if B r / (2147483648 : Int) = (Int.tmod y 2) % (4294967296 : Int) then (B r * (2 : Int)) % (4294967296 : Int) else Go.bits .xor .u32 ((B r * (2 : Int)) % (4294967296 : Int)) 79764919) = B (rstep r (decide (y % 2 = 1))) := by
  have hm : (B r / 2147483648 = 1 ↔ r.getLsbD 31 = true) ∧ (B r / 2147483648 = 0 ↔ r.getLsbD 31 = false) := by
    have h2 : r.getLsbD 31 = decide (2 ^ 31 ≤ r.toNat) := by
      rw [← BitVec.msb_eq_getLsbD_last, BitVec.msb_eq_decide]
    have := r.isLt
    unfold B
    rw [h2]
    constructor
    · rw [decide_eq_true_iff]; omega
    · rw [decide_eq_false_iff_not]; omega
  have hr := B_range r
  rw [Int.tmod_eq_emod_of_nonneg h0, B_shl1]
  unfold rstep
  have hc : (B r / 2147483648 = y % 2 % 4294967296) ↔ (r.getLsbD 31 = decide (y % 2 = 1)) := by
    rcases (by omega : y % 2 = 0 ∨ y % 2 = 1) with hy | hy
    · rw [hy]; simp only [Int.zero_ne_one, decide_false]; exact hm.2
    · rw [hy]; simp only [decide_true]; exact hm.1
  by_cases h : B r / 2147483648 = y % 2 % 4294967296
  · rw [if_pos h, if_pos (hc.1 h), BitVec.xor_zero]
  · rw [if_neg h, if_neg (fun hh => h (hc.2 hh)), show (79764919 : Int) = B 0x04C11DB7#32 from by decide, xorB]
theorem more_l1 : ∀ (d k : Nat) (x1 : ByteArray) (r : BitVec 32) (x6 y j : Int), j = 8 - d → d ≤ 8 → 0 ≤ y → y < 256 →
    transeptref02_More.l1 (k + d + 1) x1 (B r) x6 y j = transeptref02_More.l0 k x1 (B (fold d r y)) (wrap64 (x6 + 1))
  | 0, k, x1, r, x6, y, j, hj, hd, h0, h1 => by
    simp only [transeptref02_More.l1]; rw [if_neg (by omega)]; rfl
  | d + 1, k, x1, r, x6, y, j, hj, hd, h0, h1 => by
    have e := rstep_B r y h0
    rw [show k + (d + 1) + 1 = (k + d + 1) + 1 by omega]
    simp only [transeptref02_More.l1]
    rw [if_pos (by omega), Int.tdiv_eq_ediv_of_nonneg h0, w64 _ (by omega) (by omega), show y / 2 % 256 = y / 2 by omega]
    by_cases h : B r / 2147483648 = (Int.tmod y 2) % 4294967296
    · rw [if_pos h] at e ⊢; rw [e]; exact more_l1 d k x1 _ x6 (y / 2) (j + 1) (by omega) (by omega) (by omega) (by omega)
    · rw [if_neg h] at e ⊢; rw [e]; exact more_l1 d k x1 _ x6 (y / 2) (j + 1) (by omega) (by omega) (by omega) (by omega)
theorem bt_str (l : List Int) (hl : Bytes l) (i : Nat) (hi : i < l.length) : bt (strOfNums l) i = l[i] := by
  have hs : (strOfNums l).size = l.length := by simp [strOfNums, ByteArray.size]
  have hx := hl l[i] (List.getElem_mem hi)
  unfold bt
  rw [dif_pos (by simp [hs, hi])]
  simp only [strOfNums, ByteArray.getElem_eq_getElem_data, List.getElem_toArray, List.getElem_map, Int.toNat_natCast]
  rw [UInt8.toNat_ofNat']; omega
theorem more_l0 (l : List Int) (hl : Bytes l) (hn : l.length ≤ 2000000) : ∀ (d k : Nat) (r : BitVec 32) (i : Nat), i + d = l.length →
    transeptref02_More.l0 (k + d * 10 + 40) (strOfNums l) (B r) i = some (B (~~~ (run (rv r) (l.drop i))))
  | 0, k, r, i, hi => by
    have hs : (strOfNums l).size = l.length := by simp [strOfNums, ByteArray.size]
    rw [show k + 0 * 10 + 40 = (k + 39) + 1 by omega]
    simp only [transeptref02_More.l0]
    rw [if_neg (by omega), turned_f (k + 39) r (by omega)]
    simp only [Option.bind_some]
    rw [B_not, List.drop_eq_nil_of_le (by omega)]; rfl
  | d + 1, k, r, i, hi => by
    have hs : (strOfNums l).size = l.length := by simp [strOfNums, ByteArray.size]
    have hx := hl l[i] (List.getElem_mem (by omega))
    rw [show k + (d + 1) * 10 + 40 = ((k + d * 10 + 40) + 8 + 1) + 1 by omega]
    simp only [transeptref02_More.l0]
    rw [if_pos (by omega), if_pos (by omega), bt_str l hl i (by omega), more_l1 8 (k + d * 10 + 40) _ r i l[i] 0 (by omega) (by omega) hx.1 hx.2, w64 _ (by omega) (by omega),
      show ((i : Int) + 1) = ((i + 1 : Nat) : Int) by omega, more_l0 l hl hn d k _ (i + 1) (by omega), rv_fold8 _ _ hx.1 hx.2, List.drop_eq_getElem_cons (by omega : i < l.length)]
    rw [show run (rv r) (l[i] :: l.drop (i + 1)) = run (byte (rv r) l[i]) (l.drop (i + 1)) from rfl, byte_L]
theorem ref_more (l : List Int) (hl : Bytes l) (hn : l.length ≤ 2000000) (a : Int) (h0 : 0 ≤ a) (h1 : a < 4294967296) (k : Nat) (hk : l.length * 10 + 80 ≤ k) :
    transeptref02_More.f k a (strOfNums l) = some (more a l) := by
  unfold transeptref02_More.f more
  have ha : a = B (BitVec.ofInt 32 a) := (B_ofInt a h0 h1).symm
  rw [show (4294967295 - a) % 4294967296 = B (~~~ (BitVec.ofInt 32 a)) from by rw [← B_not, ← ha], turned_f k _ (by omega)]
  simp only [Option.bind_some]
  obtain ⟨m, rfl⟩ : ∃ m, k = m + l.length * 10 + 40 := ⟨k - (l.length * 10 + 40), by omega⟩
  have := more_l0 l hl hn l.length m (rv (~~~ (BitVec.ofInt 32 a))) 0 (by omega)
  rw [rv_rv] at this
  exact this

end Ref
theorem gl_u64 : ∀ (l : List Int) (i : Nat) (a : Int), Bytes l → i ≤ 9 → 0 ≤ a → a < 2 ^ (7 * i) → 0 ≤ (gl i a l).1 ∧ (gl i a l).1 < 18446744073709551616
  | [], i, a, _, _, _, _ => by simp [gl]
  | c :: l, i, a, hl, hi, h0, h1 => by
    have hc := hl c (by simp)
    rw [gl]
    split
    · simp
    · rename_i hb
      have h9 : i = 9 → c ≤ 1 := fun h => by have := fun h2 => hb (.inl ⟨h, h2⟩); omega
      obtain ⟨s1, s2, s3⟩ := step_or i a c hi h9 h0 h1 hc.1 hc.2
      obtain ⟨p1, p2, p3, p4⟩ := pow7 i hi
      split
      · rename_i hs
        rw [Int.emod_eq_of_lt hc.1 hs] at s2 s3
        refine ⟨s2, ?_⟩
        rw [p3] at s3
        by_cases hi9 : i = 9
        · subst hi9
          have := h9 rfl
          have e : (2 : Int) ^ (7 * 9) = 9223372036854775808 := by decide
          rw [e] at h1 ⊢; omega
        · have := p2 (by omega)
          have e : (2 : Int) ^ 56 = 72057594037927936 := by decide
          rw [e] at this; omega
      · rename_i hs
        have hi9 : i ≠ 9 := fun h => by have := h9 h; omega
        rw [show c % 128 = c - 128 by omega] at s2 s3
        exact gl_u64 l (i + 1) _ (fun x hx => hl x (by simp [hx])) (by omega) s2 s3
theorem strOf_cut (b : List Int) (lo hi : Nat) : (strOfNums b).extract lo hi = strOfNums ((b.take hi).drop lo) := by
  apply ByteArray.ext
  apply Array.ext'
  simp [strOfNums, List.map_drop, List.map_take, List.take_drop]
  by_cases h : lo ≤ hi
  · rw [show lo + (hi - lo) = hi by omega]
  · rw [show hi - lo = 0 by omega, List.drop_eq_nil_of_le, List.drop_eq_nil_of_le] <;> simp <;> omega
theorem bt_str (l : List Int) (hl : Bytes l) (i : Nat) (hi : i < l.length) : bt (strOfNums l) i = l[i] := by
  have hs : (strOfNums l).size = l.length := strOf_size l
  have hx := hl l[i] (List.getElem_mem hi)
  unfold bt
  rw [dif_pos (by simp [hs, hi])]
  simp only [strOfNums, ByteArray.getElem_eq_getElem_data, List.getElem_toArray, List.getElem_map, Int.toNat_natCast]
  rw [UInt8.toNat_ofNat']; omega
def bad (i : Nat) (c : Int) : Bool := decide ((i = 9 ∧ 1 < c) ∨ (0 < i ∧ c = 0))
theorem begins_l0 (b : List Int) (hb : Bytes b) (i : Nat) (hi : i < b.length) (h9 : i ≤ 9) (hp : ∀ j, (h : j < i) → 128 ≤ b[j]'(by omega)) :
    ∀ (d k j : Nat), j + d = i → d + 2 ≤ k → transeptref01_begins.l0 k (strOfNums (b.take (i + 1))) j = some (!bad i b[i])
  | 0, k, j, hj, hk => by
    obtain ⟨k, rfl⟩ : ∃ m, k = m + 1 + 1 := ⟨k - 2, by omega⟩
    obtain rfl : j = i := by omega
    have hsz : (strOfNums (b.take (j + 1))).size = j + 1 := by rw [strOf_size, List.length_take]; omega
    have hbt : bt (strOfNums (b.take (j + 1))) j = b[j] := by
      rw [bt_str _ (hb.take _) j (by rw [List.length_take]; omega), List.getElem_take]
    have hend : transeptref01_begins.l0 (k + 1) (strOfNums (b.take (j + 1))) (wrap64 ((j : Int) + 1)) = some true := by
      rw [w64 _ (by omega) (by omega)]
      simp only [transeptref01_begins.l0]; rw [if_neg (by omega)]
    have hx := hb b[j] (List.getElem_mem hi)
    rw [show k + 1 + 1 = (k + 1) + 1 from rfl, transeptref01_begins.l0]
    rw [hend, hbt, w64 ((j : Int) + 1) (by omega) (by omega)]
    rw [if_pos (by omega), if_pos (by omega), if_neg (by omega), if_neg (c := (j : Int) + 1 < _) (by omega)]
    simp only [ite_self]
    unfold bad
    generalize b[j] = c at *
    by_cases e9 : j = 9
    · subst e9
      by_cases e1 : c > 1
      · simp [e1]
      · by_cases e0 : c = 0
        · simp [e0]
        · have : ¬ 1 < c := e1
          simp [e0, this]
    · rw [if_neg (by omega)]
      by_cases e0 : 0 < j
      · by_cases ec : c = 0
        · simp [e0, ec]
        · simp [e9, ec]
      · simp [e9, e0]
  | d + 1, k, j, hj, hk => by
    obtain ⟨k, rfl⟩ : ∃ m, k = m + 1 := ⟨k - 1, by omega⟩
    have hsz : (strOfNums (b.take (i + 1))).size = i + 1 := by rw [strOf_size, List.length_take]; omega
    have hbt : bt (strOfNums (b.take (i + 1))) j = b[j]'(by omega) := by
      rw [bt_str _ (hb.take _) j (by rw [List.length_take]; omega), List.getElem_take]
    have hc := hp j (by omega)
    have ih := begins_l0 b hb i hi h9 hp d k (j + 1) (by omega) (by omega)
    rw [transeptref01_begins.l0, hbt, w64 ((j : Int) + 1) (by omega) (by omega), show ((j : Int) + 1) = ((j + 1 : Nat) : Int) by omega, ih]
    rw [if_pos (by omega), if_pos (by omega), if_neg (by omega), if_neg (by omega), if_neg (c := b[j]'_ = 0) (by omega), if_neg (c := b[j]'_ < 128) (by omega)]
    simp
theorem ref_get_l0 (b : List Int) (hb : Bytes b) (hn : b.length ≤ 2000000) : ∀ (d i k : Nat) (a : Int), i + d = b.length → (d = 0 ∨ i ≤ 9) → (∀ j, (h : j < i) → (h2 : j < b.length) → 128 ≤ b[j]) → 0 ≤ a → (i ≤ 9 → a < 2 ^ (7 * i)) → d + 13 ≤ k →
    transeptref01_Get.l0 k (strOfNums b) a (if i ≤ 9 then 2 ^ (7 * i) else 0) i = some (gl i a (b.drop i))
  | 0, i, k, a, hi, h9, hp, h0, h1, hk => by
    obtain ⟨k, rfl⟩ : ∃ m, k = m + 1 := ⟨k - 1, by omega⟩
    simp only [transeptref01_Get.l0]
    rw [if_neg (by rw [strOf_size]; omega), List.drop_eq_nil_of_le (by omega), strOf_size]
    simp only [gl]; congr 3; omega
  | d + 1, i, k, a, hi, h9, hp, h0, h1, hk => by
    obtain ⟨k, rfl⟩ : ∃ m, k = m + 1 := ⟨k - 1, by omega⟩
    have hi9 : i ≤ 9 := by omega
    have h1' := h1 hi9
    have hc := hb b[i] (List.getElem_mem (by omega))
    have hbg : transeptref01_begins.f k (strOfNums (b.take (i + 1))) = some (!bad i b[i]) :=
      begins_l0 b hb i (by omega) hi9 (fun j h => hp j h (by omega)) i k 0 (by omega) (by omega)
    simp only [transeptref01_Get.l0]
    rw [if_pos (by rw [strOf_size]; omega), w64 ((i : Int) + 1) (by omega) (by omega), if_pos (by omega), if_pos (by rw [strOf_size]; omega), strOf_cut, show ((i : Int) + 1).toNat = i + 1 by omega, List.drop_zero, hbg]
    simp only [bind_s]
    rw [bt_str b hb i (by omega), List.drop_eq_getElem_cons (by omega : i < b.length), if_pos hi9]
    have hp2 := hp
    generalize hcx : b[i] = c at *
    rw [gl]
    cases hbad : bad i c with
    | true =>
      have hbad' : (i = 9 ∧ 1 < c) ∨ (0 < i ∧ c = 0) := by simpa [bad] using hbad
      rw [if_pos hbad']; simp
    | false =>
      have hbad' : ¬ ((i = 9 ∧ 1 < c) ∨ (0 < i ∧ c = 0)) := by simpa [bad] using hbad
      have hle : i = 9 → c ≤ 1 := fun h => by have := fun h2 => hbad' (.inl ⟨h, h2⟩); omega
      obtain ⟨s1, s2, s3⟩ := step_or i a c hi9 hle h0 h1' hc.1 hc.2
      obtain ⟨p1, p2, p3, p4⟩ := pow7 i hi9
      have hP63 : (2 : Int) ^ 63 = 9223372036854775808 := by decide
      have hP56 : (2 : Int) ^ 56 = 72057594037927936 := by decide
      have hm0 : 0 ≤ c % 128 * 2 ^ (7 * i) := Int.mul_nonneg (by omega) (by omega)
      have hm1 : a + c % 128 * 2 ^ (7 * i) < 18446744073709551616 := by
        by_cases e9 : i = 9
        · have := hle e9
          have hm : c % 128 * 2 ^ (7 * i) ≤ 1 * 2 ^ (7 * i) := Int.mul_le_mul_of_nonneg_right (by omega) (by omega)
          rw [hP63] at p1; omega
        · have := p2 (by omega)
          rw [p3] at s3; rw [hP56] at this; omega
      rw [if_neg hbad']
      simp only [Bool.not_false, if_true]
      rw [if_pos (by omega), Int.tmod_eq_emod_of_nonneg hc.1, u64w (c % 128) (by omega) (by omega), u64w _ hm0 (by omega), u64w _ s2 hm1]
      by_cases hs : c < 128
      · rw [if_pos hs, if_pos hs, Int.emod_eq_of_lt hc.1 hs]
      · rw [if_neg hs, if_neg hs]
        have e9 : i ≠ 9 := fun h => by have := hle h; omega
        have hp8 := p2 (by omega)
        rw [hP56] at hp8
        have ht : IntKind.u64.wrap (2 ^ (7 * i) * 128) = if i + 1 ≤ 9 then 2 ^ (7 * (i + 1)) else 0 := by
          rw [if_pos (by omega), p3, u64w _ (by omega) (by omega), Int.mul_comm]
        rw [ht, show ((i : Int) + 1) = ((i + 1 : Nat) : Int) by omega]
        rw [show c % 128 = c - 128 by omega] at s2 s3 ⊢
        exact ref_get_l0 b hb hn d (i + 1) k _ (by omega) (by omega) (fun j h h2 => by
          by_cases hj : j = i
          · subst hj; rw [hcx]; omega
          · exact hp2 j (by omega) h2) s2 (fun _ => s3) (by omega)
theorem ref_get (b : List Int) (hb : Bytes b) (hn : b.length ≤ 2000000) (k : Nat) (hk : b.length + 13 ≤ k) : transeptref01_Get.f k (strOfNums b) = some (gl 0 0 b) := by
  unfold transeptref01_Get.f
  have := ref_get_l0 b hb hn b.length 0 k 0 (by omega) (by omega) (fun j h => by omega) (by omega) (fun _ => by simp) hk
  simpa using this

end Go.Proofs.YtojagnoobaleaaaDoor.Ext
