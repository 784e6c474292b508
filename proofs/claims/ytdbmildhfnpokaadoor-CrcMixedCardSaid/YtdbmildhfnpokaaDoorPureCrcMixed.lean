/- The sum of bytes that are mixed of three is mixed of the three's sums. No condition. -/
import Derived.Test.YtdbmildhfnpokaaDoorXax11
import Derived.Test.YtdbmildhfnpokaaDoorPure
namespace Go.Proofs.YtdbmildhfnpokaaDoor.Pure
open Go.RowKit Go.Proofs.YtdbmildhfnpokaaDoor.Xa Go.Proofs.YtdbmildhfnpokaaDoor.Ext Go.Proofs.YtdbmildhfnpokaaDoorW.PrintWords Go.Proofs.YtdbmildhfnpokaaDoorW.PrintLast

theorem xor8 (x y : Int) (hx : 0 ≤ x ∧ x < 256) (hy : 0 ≤ y ∧ y < 256) :
    (0 ≤ bits .xor .u8 x y ∧ bits .xor .u8 x y < 256) ∧ BitVec.ofInt 32 (bits .xor .u8 x y) = BitVec.ofInt 32 x ^^^ BitVec.ofInt 32 y := by
  obtain ⟨a, rfl⟩ := Int.eq_ofNat_of_zero_le hx.1
  obtain ⟨b, rfl⟩ := Int.eq_ofNat_of_zero_le hy.1
  have ha : a < 256 := by omega
  have hb : b < 256 := by omega
  have hl : a ^^^ b < 2 ^ 8 := Nat.xor_lt_two_pow (by omega) (by omega)
  have e : bits .xor .u8 (a : Int) (b : Int) = ((a ^^^ b : Nat) : Int) := by
    simp only [bits]
    have h1 : (BitVec.ofInt IntKind.u8.bits (a : Int) ^^^ BitVec.ofInt IntKind.u8.bits (b : Int)).toNat = a ^^^ b := by
      rw [BitVec.toNat_xor, BitVec.ofInt_natCast, BitVec.ofInt_natCast, BitVec.toNat_ofNat, BitVec.toNat_ofNat]
      rw [show (2 : Nat) ^ IntKind.u8.bits = 256 from rfl, Nat.mod_eq_of_lt ha, Nat.mod_eq_of_lt hb]
    rw [h1, IntKind.wrap_u8]; omega
  rw [e]
  refine ⟨by omega, ?_⟩
  rw [BitVec.ofInt_natCast, BitVec.ofInt_natCast, BitVec.ofInt_natCast, BitVec.ofNat_xor]
/-- Three rows, mixed. -/
def X3 : List Int → List Int → List Int → List Int
  | x :: l, y :: m, z :: n => bits .xor .u8 (bits .xor .u8 x y) z :: X3 l m n
  | _, _, _ => []
theorem X3_bytes : ∀ {l m n : List Int}, Bytes l → Bytes m → Bytes n → Bytes (X3 l m n)
  | [], _, _, _, _, _ => by intro x hx; simp [X3] at hx
  | _ :: _, [], _, _, _, _ => by intro x hx; simp [X3] at hx
  | _ :: _, _ :: _, [], _, _, _ => by intro x hx; simp [X3] at hx
  | x :: l, y :: m, z :: n, hl, hm, hn => by
    intro u hu
    simp only [X3, List.mem_cons] at hu
    rcases hu with rfl | hu
    · exact (xor8 _ _ (xor8 x y (hl x (by simp)) (hm y (by simp))).1 (hn z (by simp))).1
    · exact X3_bytes (l := l) (m := m) (n := n) (fun a h => hl a (by simp [h])) (fun a h => hm a (by simp [h])) (fun a h => hn a (by simp [h])) u hu
theorem X3_run : ∀ {l m n : List Int} (a b c : BitVec 32), l.length = m.length → l.length = n.length → Bytes l → Bytes m → Bytes n →
    run (a ^^^ b ^^^ c) (X3 l m n) = run a l ^^^ run b m ^^^ run c n
  | [], [], [], _, _, _, _, _, _, _, _ => rfl
  | [], _ :: _, _, _, _, _, h, _, _, _, _ => by simp at h
  | [], _, _ :: _, _, _, _, _, h, _, _, _ => by simp at h
  | _ :: _, [], _, _, _, _, h, _, _, _, _ => by simp at h
  | _ :: _, _ :: _, [], _, _, _, _, h, _, _, _ => by simp at h
  | x :: l, y :: m, z :: n, a, b, c, h1, h2, hl, hm, hn => by
    have hx := hl x (by simp)
    have hy := hm y (by simp)
    have hz := hn z (by simp)
    have e1 := xor8 x y hx hy
    have e2 := xor8 _ z e1.1 hz
    have key : byte (a ^^^ b ^^^ c) (bits .xor .u8 (bits .xor .u8 x y) z) = byte a x ^^^ byte b y ^^^ byte c z := by
      rw [byte_L, byte_L, byte_L, byte_L, e2.2, e1.2, ← L_xor, ← L_xor]
      congr 1
      apply BitVec.eq_of_getLsbD_eq
      intro i hi
      simp only [BitVec.getLsbD_xor]
      generalize a.getLsbD i = p1
      generalize b.getLsbD i = p2
      generalize c.getLsbD i = p3
      generalize (BitVec.ofInt 32 x).getLsbD i = p4
      generalize (BitVec.ofInt 32 y).getLsbD i = p5
      generalize (BitVec.ofInt 32 z).getLsbD i = p6
      revert p1 p2 p3 p4 p5 p6; decide
    show run (byte (a ^^^ b ^^^ c) (bits .xor .u8 (bits .xor .u8 x y) z)) (X3 l m n) = run (byte a x) l ^^^ run (byte b y) m ^^^ run (byte c z) n
    rw [key]
    exact X3_run _ _ _ (by simpa using h1) (by simpa using h2) (fun a h => hl a (by simp [h])) (fun a h => hm a (by simp [h])) (fun a h => hn a (by simp [h]))
theorem X3_len : ∀ {l m n : List Int}, l.length = m.length → l.length = n.length → (X3 l m n).length = l.length
  | [], _, _, _, _ => by simp [X3]
  | _ :: _, [], _, h, _ => by simp at h
  | _ :: _, _ :: _, [], _, h => by simp at h
  | x :: l, y :: m, z :: n, h1, h2 => by simp only [X3, List.length_cons]; rw [X3_len (by simpa using h1) (by simpa using h2)]
theorem X3_snoc : ∀ {l m n : List Int} (x y z : Int), l.length = m.length → l.length = n.length → X3 (l ++ [x]) (m ++ [y]) (n ++ [z]) = X3 l m n ++ [bits .xor .u8 (bits .xor .u8 x y) z]
  | [], [], [], _, _, _, _, _ => rfl
  | [], _ :: _, _, _, _, _, h, _ => by simp at h
  | [], _, _ :: _, _, _, _, _, h => by simp at h
  | _ :: _, [], _, _, _, _, h, _ => by simp at h
  | _ :: _, _ :: _, [], _, _, _, _, h => by simp at h
  | u :: l, v :: m, w :: n, x, y, z, h1, h2 => by
    simp only [List.cons_append, X3]
    rw [X3_snoc x y z (by simpa using h1) (by simpa using h2)]
theorem sum3 (l m n : List Int) (h1 : l.length = m.length) (h2 : l.length = n.length) (hl : Bytes l) (hm : Bytes m) (hn : Bytes n) :
    more 0 (X3 l m n) = bits .xor .u32 (bits .xor .u32 (more 0 l) (more 0 m)) (more 0 n) := by
  have h := X3_run (~~~ (BitVec.ofInt 32 0)) (~~~ (BitVec.ofInt 32 0)) (~~~ (BitVec.ofInt 32 0)) h1 h2 hl hm hn
  rw [BitVec.xor_assoc, BitVec.xor_self, BitVec.xor_zero] at h
  unfold more
  rw [xorB, xorB, h]
  congr 1
  simp only [not_eq_xor]
  apply BitVec.eq_of_getLsbD_eq
  intro i hi
  simp only [BitVec.getLsbD_xor]
  generalize (run _ l).getLsbD i = p1
  generalize (run _ m).getLsbD i = p2
  generalize (run _ n).getLsbD i = p3
  generalize (BitVec.allOnes 32).getLsbD i = p4
  revert p1 p2 p3 p4; decide
theorem rd_get (l : List Int) (i : Nat) (h : i < l.length) : rd l (i : Int) = l[i] := by
  unfold rd; simp [h]
theorem mixed_l0 (l m n : List Int) (N : Nat) (hl : N ≤ l.length) (hm : N ≤ m.length) (hn : N ≤ n.length) (bl : Bytes l) (bm : Bytes m) (bn : Bytes n) (hN : N ≤ 500) :
    ∀ (d k i : Nat), i + d = N → d < k → transeptlaw02_CrcMixed.l0 k l m n true N (X3 (l.take i) (m.take i) (n.take i) ++ List.replicate d 0) i = some true
  | 0, k, i, hi, hk => by
    obtain ⟨k, rfl⟩ : ∃ j, k = j + 1 := ⟨k - 1, by omega⟩
    obtain rfl : i = N := by omega
    have e := sum3 (l.take i) (m.take i) (n.take i) (by rw [List.length_take, List.length_take]; omega) (by rw [List.length_take, List.length_take]; omega) (bl.take _) (bm.take _) (bn.take _)
    have e0 := sum_f (X3 (l.take i) (m.take i) (n.take i)) (X3_bytes (bl.take _) (bm.take _) (bn.take _)) (by rw [X3_len, List.length_take] <;> (try rw [List.length_take, List.length_take]) <;> omega)
    have e1 := sum_f (l.take i) (bl.take _) (by rw [List.length_take]; omega)
    have e2 := sum_f (m.take i) (bm.take _) (by rw [List.length_take]; omega)
    have e3 := sum_f (n.take i) (bn.take _) (by rw [List.length_take]; omega)
    simp only [transeptlaw02_CrcMixed.l0]
    rw [if_neg (by omega)]
    simp only [if_true]
    unfold crc_Sum.f
    simp only [Int.toNat_natCast, List.replicate_zero, List.append_nil]
    rw [e0, Option.bind_some, if_pos (by omega), if_pos (by omega), e1, Option.bind_some, if_pos (by omega), e2, Option.bind_some, if_pos (by omega), e3, Option.bind_some]
    simp [e]
  | d + 1, k, i, hi, hk => by
    obtain ⟨k, rfl⟩ : ∃ j, k = j + 1 := ⟨k - 1, by omega⟩
    have hlen : (X3 (l.take i) (m.take i) (n.take i)).length = i := by
      rw [X3_len, List.length_take] <;> (try rw [List.length_take, List.length_take]) <;> omega
    simp only [transeptlaw02_CrcMixed.l0]
    rw [if_pos (by omega), if_pos (by omega), if_pos (by omega), if_pos (by omega), if_pos (by omega), if_pos (by rw [List.length_append, hlen]; simp; omega)]
    rw [Int.toNat_natCast, List.set_append_right _ _ (by omega), hlen, Nat.sub_self, List.replicate_succ, List.set_cons_zero, w64 _ (by omega) (by omega),
      rd_get l i (by omega), rd_get m i (by omega), rd_get n i (by omega)]
    have := mixed_l0 l m n N hl hm hn bl bm bn hN d k (i + 1) (by omega) (by omega)
    rw [List.take_succ_eq_append_getElem (by omega : i < l.length), List.take_succ_eq_append_getElem (by omega : i < m.length), List.take_succ_eq_append_getElem (by omega : i < n.length),
      X3_snoc _ _ _ (by rw [List.length_take, List.length_take]; omega) (by rw [List.length_take, List.length_take]; omega), List.append_assoc] at this
    exact this
theorem CrcMixed : transeptlaw02_CrcMixed.Pure := by
  intro l0 l1 l2 _ _ w0 _ _ w1 _ _ w2
  refine ⟨1000, ?_⟩
  unfold transeptlaw02_CrcMixed.f transeptlaw02_shown.f
  obtain ⟨a1, a2, a3⟩ := mn_le (l0.length : Int) (l1.length : Int)
  obtain ⟨b1, b2, b3⟩ := mn_le (mn (l0.length : Int) (l1.length : Int)) (l2.length : Int)
  obtain ⟨c1, c2, c3⟩ := mn_le (mn (mn (l0.length : Int) (l1.length : Int)) (l2.length : Int)) 500
  have hk : 0 ≤ mn (mn (mn (l0.length : Int) (l1.length : Int)) (l2.length : Int)) 500 := by omega
  generalize mn (mn (mn (l0.length : Int) (l1.length : Int)) (l2.length : Int)) 500 = n at *
  obtain ⟨N, rfl⟩ := Int.eq_ofNat_of_zero_le hk
  simp only [Option.bind_some]
  rw [if_pos hk, if_pos (by omega)]
  have := mixed_l0 l0 l1 l2 N (by omega) (by omega) (by omega) (bytes_wf w0) (bytes_wf w1) (bytes_wf w2) (by omega) N 1000 0 (by omega) (by omega)
  simpa [X3] using this
end Go.Proofs.YtdbmildhfnpokaaDoor.Pure
