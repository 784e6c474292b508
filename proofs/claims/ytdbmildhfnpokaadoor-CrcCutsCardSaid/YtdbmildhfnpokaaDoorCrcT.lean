/- What a CRC is, in plain words on numbers of 32 bits: it is linear, and what it does can be undone. -/
import Derived.Test.YtdbmildhfnpokaaDoorCrcM
namespace Go.Proofs.YtdbmildhfnpokaaDoor.Ext

def poly : BitVec 32 := 0xEDB88320#32
/-- One bit's step. -/
def bit1 (c : BitVec 32) : BitVec 32 := (c >>> 1) ^^^ (if c.getLsbD 0 then poly else 0#32)

theorem bit1_xor (a b : BitVec 32) : bit1 (a ^^^ b) = bit1 a ^^^ bit1 b := by
  unfold bit1
  rw [BitVec.ushiftRight_xor_distrib, BitVec.getLsbD_xor]
  generalize a >>> 1 = A
  generalize b >>> 1 = C
  have h1 : ∀ x y p : BitVec 32, (x ^^^ y) ^^^ p = (x ^^^ p) ^^^ y := fun x y p => by rw [BitVec.xor_assoc, BitVec.xor_comm y p, ← BitVec.xor_assoc]
  have h2 : ∀ x y p : BitVec 32, x ^^^ y = (x ^^^ p) ^^^ (y ^^^ p) := fun x y p => by
    rw [BitVec.xor_comm y p, ← BitVec.xor_assoc, BitVec.xor_assoc x p p, BitVec.xor_self, BitVec.xor_zero]
  cases a.getLsbD 0 <;> cases b.getLsbD 0
  · simp
  · simp [BitVec.xor_assoc]
  · simp only [Bool.xor_false, if_true, Bool.false_eq_true, if_false, BitVec.xor_zero]; exact h1 _ _ _
  · simp only [Bool.xor_true, Bool.not_true, Bool.false_eq_true, if_false, if_true, BitVec.xor_zero]; exact h2 _ _ _
theorem bit1_zero : bit1 0#32 = 0#32 := by decide
theorem bit1_even (c : BitVec 32) (h : c.getLsbD 0 = false) : bit1 c = c >>> 1 := by unfold bit1; rw [h]; simp
theorem bit1_zero_inv (a : BitVec 32) (h : bit1 a = 0#32) : a = 0#32 := by
  cases hb : a.getLsbD 0 with
  | true =>
    unfold bit1 at h
    rw [hb] at h
    have h31 := congrArg (fun x : BitVec 32 => x.getLsbD 31) h
    simp [poly] at h31
  | false =>
    rw [bit1_even a hb] at h
    apply BitVec.eq_of_getLsbD_eq
    intro i hi
    cases i with
    | zero => simpa using hb
    | succ i =>
      have hh := congrArg (fun x : BitVec 32 => x.getLsbD i) h
      simp [BitVec.getLsbD_ushiftRight] at hh
      rw [Nat.add_comm 1 i] at hh
      simpa using hh
def b4 (c : BitVec 32) : BitVec 32 := bit1 (bit1 (bit1 (bit1 c)))
theorem b4_xor (a b : BitVec 32) : b4 (a ^^^ b) = b4 a ^^^ b4 b := by simp only [b4, bit1_xor]
theorem b4_zero_inv (a : BitVec 32) (h : b4 a = 0#32) : a = 0#32 := bit1_zero_inv _ (bit1_zero_inv _ (bit1_zero_inv _ (bit1_zero_inv _ h)))
theorem b4_even (c : BitVec 32) (h0 : c.getLsbD 0 = false) (h1 : c.getLsbD 1 = false) (h2 : c.getLsbD 2 = false) (h3 : c.getLsbD 3 = false) : b4 c = c >>> 4 := by
  have e1 : bit1 (c >>> 1) = c >>> 2 := by
    rw [bit1_even (c >>> 1) (by rw [BitVec.getLsbD_ushiftRight]; exact h1), ← BitVec.shiftRight_add]
  have e2 : bit1 (c >>> 2) = c >>> 3 := by
    rw [bit1_even (c >>> 2) (by rw [BitVec.getLsbD_ushiftRight]; exact h2), ← BitVec.shiftRight_add]
  have e3 : bit1 (c >>> 3) = c >>> 4 := by
    rw [bit1_even (c >>> 3) (by rw [BitVec.getLsbD_ushiftRight]; exact h3), ← BitVec.shiftRight_add]
  unfold b4
  rw [bit1_even c h0, e1, e2, e3]
theorem T_b4 : ∀ n : Fin 16, b4 (BitVec.ofNat 32 n.val) = T (BitVec.ofNat 32 n.val) := by decide +kernel
theorem half_eq (c : BitVec 32) : half c = b4 c := by
  have hc : c = (c &&& ~~~15#32) ^^^ (c &&& 15#32) := by
    apply BitVec.eq_of_getLsbD_eq
    intro i hi
    simp only [BitVec.getLsbD_xor, BitVec.getLsbD_and, BitVec.getLsbD_not, hi, decide_true, Bool.true_and]
    cases c.getLsbD i <;> cases (15#32).getLsbD i <;> rfl
  have hi : b4 (c &&& ~~~15#32) = c >>> 4 := by
    rw [b4_even _ (by simp) (by simp) (by simp) (by simp)]
    apply BitVec.eq_of_getLsbD_eq
    intro i hi
    simp only [BitVec.getLsbD_ushiftRight, BitVec.getLsbD_and, BitVec.getLsbD_not]
    by_cases h : 4 + i < 32
    · have h15 : (15#32).getLsbD (4 + i) = false := by
        have : ∀ j : Fin 28, (15#32).getLsbD (4 + j.val) = false := by decide
        exact this ⟨i, by omega⟩
      rw [h15]; simp [h]
    · rw [BitVec.getLsbD_of_ge c (4 + i) (by omega)]; simp
  have hl : b4 (c &&& 15#32) = T (c &&& 15#32) := by
    have hlt : (c &&& 15#32).toNat < 16 := by rw [BitVec.toNat_and]; exact Nat.lt_of_le_of_lt Nat.and_le_right (by decide)
    have := T_b4 ⟨(c &&& 15#32).toNat, hlt⟩
    simpa using this
  show (c >>> 4) ^^^ T (c &&& 15#32) = b4 c
  rw [← hi, ← hl, ← b4_xor, ← hc]

/-- What a byte does to the state that it has been xored into. -/
def L (c : BitVec 32) : BitVec 32 := b4 (b4 c)
theorem byte_L (c : BitVec 32) (x : Int) : byte c x = L (c ^^^ BitVec.ofInt 32 x) := by unfold byte L; rw [half_eq, half_eq]
theorem L_xor (a b : BitVec 32) : L (a ^^^ b) = L a ^^^ L b := by simp only [L, b4_xor]
theorem L_zero_inv (a : BitVec 32) (h : L a = 0#32) : a = 0#32 := b4_zero_inv _ (b4_zero_inv _ h)
theorem xor_eq_zero {a b : BitVec 32} (h : a ^^^ b = 0#32) : a = b := by
  have := congrArg (· ^^^ b) h
  simpa [BitVec.xor_assoc] using this
theorem L_inj {a b : BitVec 32} (h : L a = L b) : a = b := by
  apply xor_eq_zero; apply L_zero_inv; rw [L_xor, h, BitVec.xor_self]
theorem xor_cancel {a b c : BitVec 32} (h : a ^^^ b = a ^^^ c) : b = c := by
  have := congrArg (a ^^^ ·) h
  simpa [← BitVec.xor_assoc] using this
theorem xor_cancel_r {a b c : BitVec 32} (h : b ^^^ a = c ^^^ a) : b = c := xor_cancel (a := a) (by rwa [BitVec.xor_comm a b, BitVec.xor_comm a c])
theorem run_inj : ∀ (l : List Int) {a b : BitVec 32}, run a l = run b l → a = b
  | [], _, _, h => h
  | x :: l, a, b, h => by
    have := run_inj l (a := byte a x) (b := byte b x) h
    rw [byte_L, byte_L] at this
    exact xor_cancel_r (L_inj this)
theorem ofInt_inj {x y : Int} (hx0 : 0 ≤ x) (hx : x < 4294967296) (hy0 : 0 ≤ y) (hy : y < 4294967296) (h : BitVec.ofInt 32 x = BitVec.ofInt 32 y) : x = y := by
  rw [← B_ofInt x hx0 hx, ← B_ofInt y hy0 hy, h]
theorem byte_inj {c : BitVec 32} {x y : Int} (hx0 : 0 ≤ x) (hx : x < 256) (hy0 : 0 ≤ y) (hy : y < 256) (h : byte c x = byte c y) : x = y := by
  rw [byte_L, byte_L] at h
  exact ofInt_inj hx0 (by omega) hy0 (by omega) (xor_cancel (L_inj h))
/-- No byte but nought is left as it is. -/
theorem L_fix : ∀ d : Fin 256, L (BitVec.ofNat 32 d.val) = BitVec.ofNat 32 d.val → d.val = 0 := by decide +kernel
theorem ofInt_byte (x : Int) (h0 : 0 ≤ x) (h : x < 256) : (BitVec.ofInt 32 x).toNat < 256 := by
  have := B_ofInt x h0 (by omega); unfold B at this; omega
theorem swap_inj {c : BitVec 32} {x y : Int} (hx0 : 0 ≤ x) (hx : x < 256) (hy0 : 0 ≤ y) (hy : y < 256) (h : byte (byte c x) y = byte (byte c y) x) : x = y := by
  simp only [byte_L] at h
  have h1 := L_inj h
  rw [L_xor, L_xor, BitVec.xor_assoc, BitVec.xor_assoc] at h1
  have h2 := xor_cancel h1
  generalize hX : BitVec.ofInt 32 x = X at h2
  generalize hY : BitVec.ofInt 32 y = Y at h2
  have h3 : L (X ^^^ Y) = X ^^^ Y := by
    rw [L_xor]
    apply BitVec.eq_of_getLsbD_eq
    intro i hi
    have hh := congrArg (fun z : BitVec 32 => z.getLsbD i) h2
    simp only [BitVec.getLsbD_xor] at hh ⊢
    revert hh
    generalize (L X).getLsbD i = p
    generalize (L Y).getLsbD i = q
    generalize X.getLsbD i = r
    generalize Y.getLsbD i = s
    revert p q r s
    decide
  have hlt : (X ^^^ Y).toNat < 256 := by
    rw [BitVec.toNat_xor]
    exact Nat.xor_lt_two_pow (n := 8) (by rw [← hX]; exact ofInt_byte x hx0 hx) (by rw [← hY]; exact ofInt_byte y hy0 hy)
  have h4 := L_fix ⟨(X ^^^ Y).toNat, hlt⟩ (by simpa using h3)
  have h5 : X ^^^ Y = 0#32 := BitVec.eq_of_toNat_eq (by simpa using h4)
  have h6 := xor_eq_zero h5
  rw [← hX, ← hY] at h6
  exact ofInt_inj hx0 (by omega) hy0 (by omega) h6

/-! ### four bytes -/
theorem L_shift (w : BitVec 32) (hw : (w <<< 8) >>> 8 = w) : L (w <<< 8) = w := by
  have e1 : b4 (w <<< 8) = (w <<< 8) >>> 4 := b4_even _ (by simp) (by simp) (by simp) (by simp)
  have e2 : b4 ((w <<< 8) >>> 4) = (w <<< 8) >>> 8 := by
    rw [b4_even _ (by simp) (by simp) (by simp) (by simp), ← BitVec.shiftRight_add]
  unfold L
  rw [e1, e2, hw]
theorem low255 (i : Nat) : (255#32).getLsbD i = decide (i < 8) := by
  have h : (255#32) = BitVec.ofNat 32 (2 ^ 8 - 1) := rfl
  rw [h, BitVec.getLsbD_ofNat, Nat.testBit_two_pow_sub_one]
  by_cases h8 : i < 8
  · have : i < 32 := by omega
    simp [h8, this]
  · simp [h8]
theorem L_step (u X : BitVec 32) : L (u ^^^ X) = L (u ^^^ (X &&& 255#32)) ^^^ (X >>> 8) := by
  have hX : X = (X &&& 255#32) ^^^ ((X >>> 8) <<< 8) := by
    apply BitVec.eq_of_getLsbD_eq
    intro i hi
    simp only [BitVec.getLsbD_xor, BitVec.getLsbD_and, low255, BitVec.getLsbD_shiftLeft, BitVec.getLsbD_ushiftRight, hi, decide_true, Bool.true_and]
    by_cases h8 : i < 8
    · simp [h8]
    · rw [show 8 + (i - 8) = i by omega]; simp [h8]
  have hs : L ((X >>> 8) <<< 8) = X >>> 8 := by
    apply L_shift
    apply BitVec.eq_of_getLsbD_eq
    intro i hi
    simp only [BitVec.getLsbD_shiftLeft, BitVec.getLsbD_ushiftRight]
    by_cases h : 8 + i < 32
    · rw [show 8 + (8 + i - 8) = 8 + i by omega]; simp [h]
    · rw [BitVec.getLsbD_of_ge X (8 + i) (by omega)]; simp [h]
  have h1 : L (u ^^^ X) = L ((u ^^^ (X &&& 255#32)) ^^^ ((X >>> 8) <<< 8)) := by rw [BitVec.xor_assoc, ← hX]
  rw [h1, L_xor, hs]
def L4 (c : BitVec 32) : BitVec 32 := L (L (L (L c)))
theorem L4_inj {a b : BitVec 32} (h : L4 a = L4 b) : a = b := L_inj (L_inj (L_inj (L_inj h)))
/-- A number's four bytes, the lowest first. -/
def four (a : Int) : List Int := [a % 256, (a / 256) % 256, (a / 65536) % 256, (a / 16777216) % 256]
theorem four_range (a : Int) : ∀ x ∈ four a, 0 ≤ x ∧ x < 256 := by
  intro x hx
  simp only [four, List.mem_cons, List.not_mem_nil, or_false] at hx
  rcases hx with rfl | rfl | rfl | rfl <;> omega
theorem ofInt_and (X : BitVec 32) (k : Nat) : BitVec.ofInt 32 ((B X / (2 ^ k : Nat)) % 256) = (X >>> k) &&& 255#32 := by
  apply B_inj
  have h : (B X / (2 ^ k : Nat)) % 256 = ((X.toNat / 2 ^ k % 256 : Nat) : Int) := by unfold B; simp
  rw [h, B_ofInt _ (by omega) (by omega)]
  unfold B
  rw [BitVec.toNat_and, BitVec.toNat_ushiftRight, Nat.shiftRight_eq_div_pow, show (255#32).toNat = 2 ^ 8 - 1 from rfl, Nat.and_two_pow_sub_one_eq_mod]
theorem run_four (s : BitVec 32) (a : Int) (h0 : 0 ≤ a) (h1 : a < 4294967296) : run s (four a) = L4 (s ^^^ BitVec.ofInt 32 a) := by
  generalize hX : BitVec.ofInt 32 a = X
  have ha : a = B X := by rw [← hX, B_ofInt a h0 h1]
  have k0 : BitVec.ofInt 32 (a % 256) = X &&& 255#32 := by
    have := ofInt_and X 0; rw [ha]; simpa using this
  have k1 : BitVec.ofInt 32 ((a / 256) % 256) = (X >>> 8) &&& 255#32 := by have := ofInt_and X 8; rw [ha]; simpa using this
  have k2 : BitVec.ofInt 32 ((a / 65536) % 256) = (X >>> 8 >>> 8) &&& 255#32 := by have := ofInt_and X 16; rw [ha, ← BitVec.shiftRight_add]; simpa using this
  have k3 : BitVec.ofInt 32 ((a / 16777216) % 256) = (X >>> 8 >>> 8 >>> 8) &&& 255#32 := by have := ofInt_and X 24; rw [ha, ← BitVec.shiftRight_add, ← BitVec.shiftRight_add]; simpa using this
  have hz : X >>> 8 >>> 8 >>> 8 >>> 8 = 0#32 := by
    rw [← BitVec.shiftRight_add, ← BitVec.shiftRight_add, ← BitVec.shiftRight_add]
    apply BitVec.eq_of_getLsbD_eq
    intro i hi
    rw [BitVec.getLsbD_ushiftRight, BitVec.getLsbD_of_ge X _ (by omega)]; simp
  simp only [run, four, List.foldl, byte_L, k0, k1, k2, k3]
  unfold L4
  rw [L_step s X, L_step _ (X >>> 8), L_step _ (X >>> 8 >>> 8), L_step _ (X >>> 8 >>> 8 >>> 8), hz, BitVec.xor_zero]
theorem not_eq_xor (x : BitVec 32) : ~~~x = BitVec.allOnes 32 ^^^ x := by rw [BitVec.allOnes_xor]
theorem not_inj {x y : BitVec 32} (h : ~~~x = ~~~y) : x = y := by have := congrArg (~~~ ·) h; simpa using this
theorem more_range (a : Int) (l : List Int) : 0 ≤ more a l ∧ more a l < 4294967296 := B_range _
/-- More, once more: a sum is as good as the bytes that it is of. -/
theorem more_more (a : Int) (l m : List Int) : more (more a l) m = more a (l ++ m) := by
  unfold more
  rw [ofInt_B, BitVec.not_not, run_append]
theorem ofInt_xor (a b : Int) (ha0 : 0 ≤ a) (ha : a < 4294967296) (hb0 : 0 ≤ b) (hb : b < 4294967296) : BitVec.ofInt 32 (bits .xor .u32 a b) = BitVec.ofInt 32 a ^^^ BitVec.ofInt 32 b := by
  have h := xorB (BitVec.ofInt 32 a) (BitVec.ofInt 32 b)
  rw [B_ofInt a ha0 ha, B_ofInt b hb0 hb] at h
  rw [h, ofInt_B]
theorem xor_range (a b : Int) (ha0 : 0 ≤ a) (ha : a < 4294967296) (hb0 : 0 ≤ b) (hb : b < 4294967296) : 0 ≤ bits .xor .u32 a b ∧ bits .xor .u32 a b < 4294967296 := by
  have h := xorB (BitVec.ofInt 32 a) (BitVec.ofInt 32 b)
  rw [B_ofInt a ha0 ha, B_ofInt b hb0 hb] at h
  rw [h]; exact B_range _
end Go.Proofs.YtdbmildhfnpokaaDoor.Ext
