/- Bytes have the sum that the document says. No condition. -/
import Derived.Test.YtdbmildhfnpokaaDoorXax7
import Derived.Test.YtdbmildhfnpokaaDoorCrcRef
namespace Go.Proofs.YtdbmildhfnpokaaDoor.Pure
open Go.RowKit Go.Proofs.YtdbmildhfnpokaaDoor.Xa Go.Proofs.YtdbmildhfnpokaaDoor.Ext Go.Proofs.YtdbmildhfnpokaaDoorW.PrintWords Go.Proofs.YtdbmildhfnpokaaDoorW.PrintLast

theorem B_shr1 (x : BitVec 32) : (Int.tdiv (B x) 2) % (4294967296 : Int) = B (x >>> 1) := by
  have h := B_range x
  rw [Int.tdiv_eq_ediv_of_nonneg h.1]
  unfold B at *
  rw [BitVec.toNat_ushiftRight, Nat.shiftRight_eq_div_pow]; omega
theorem B_shl1 (x : BitVec 32) : (B x * (2 : Int)) % (4294967296 : Int) = B (x <<< 1) := by
  unfold B
  rw [BitVec.toNat_shiftLeft, Nat.shiftLeft_eq]; omega
theorem B_in (x o : BitVec 32) : (((B o * (2 : Int)) % (4294967296 : Int)) + Int.tmod (B x) 2) % (4294967296 : Int) = B ((o <<< 1) + (x &&& 1#32)) := by
  have h := B_range x
  rw [Int.tmod_eq_emod_of_nonneg h.1, B_shl1]
  unfold B
  rw [BitVec.toNat_add, BitVec.toNat_and, show (1#32).toNat = 2 ^ 1 - 1 from rfl, Nat.and_two_pow_sub_one_eq_mod]; omega
theorem turned_l0 : ∀ (n k : Nat) (x o : BitVec 32) (i : Int), i = 32 - n → n ≤ 32 → n < k → transeptref02_turned.l0 k (B x) (B o) i = some (B (tl n x o))
  | 0, k, x, o, i, hi, hn, hk => by
    obtain ⟨k, rfl⟩ : ∃ m, k = m + 1 := ⟨k - 1, by omega⟩
    simp only [transeptref02_turned.l0]; rw [if_neg (by omega)]; rfl
  | n + 1, k, x, o, i, hi, hn, hk => by
    obtain ⟨k, rfl⟩ : ∃ m, k = m + 1 := ⟨k - 1, by omega⟩
    simp only [transeptref02_turned.l0]; rw [if_pos (by omega), B_shr1, B_in, w64 _ (by omega) (by omega), turned_l0 n k _ _ _ (by omega) (by omega) (by omega)]; rfl
theorem turned_f (k : Nat) (x : BitVec 32) (hk : 32 < k) : transeptref02_turned.f k (B x) = some (B (rv x)) := by
  unfold transeptref02_turned.f rv
  exact turned_l0 32 k x 0#32 0 (by omega) (by omega) hk
theorem B_not (x : BitVec 32) : ((4294967295 : Int) - B x) % (4294967296 : Int) = B (~~~ x) := by
  unfold B; rw [BitVec.toNat_not]; have := x.isLt; omega
theorem rstep_B (r : BitVec 32) (y : Int) (h0 : 0 ≤ y) :
    (if B r / (2147483648 : Int) = (Int.tmod y 2) % (4294967296 : Int) then (B r * (2 : Int)) % (4294967296 : Int) else Go.bits .xor .u32 ((B r * (2 : Int)) % (4294967296 : Int)) 79764919) = B (rstep r (decide (y % 2 = 1))) := by
  have hm : (B r / 2147483648 = 1 ↔ r.getLsbD 31 = true) ∧ (B r / 2147483648 = 0 ↔ r.getLsbD 31 = false) := by
    have h2 : r.getLsbD 31 = decide (2 ^ 31 ≤ r.toNat) := by
      rw [← BitVec.msb_eq_getLsbD_last, BitVec.msb_eq_decide]
    have := r.isLt
    unfold B
    rw [h2]
    constructor
    · rw [decide_eq_true_iff]; omega
    · rw [decide_eq_false_iff_not]; omega
  have hr := B_range r
  rw [Int.tmod_eq_emod_of_nonneg h0, B_shl1]
  unfold rstep
  have hc : (B r / 2147483648 = y % 2 % 4294967296) ↔ (r.getLsbD 31 = decide (y % 2 = 1)) := by
    rcases (by omega : y % 2 = 0 ∨ y % 2 = 1) with hy | hy
    · rw [hy]; simp only [Int.zero_ne_one, decide_false]; exact hm.2
    · rw [hy]; simp only [decide_true]; exact hm.1
  by_cases h : B r / 2147483648 = y % 2 % 4294967296
  · rw [if_pos h, if_pos (hc.1 h), BitVec.xor_zero]
  · rw [if_neg h, if_neg (fun hh => h (hc.2 hh)), show (79764919 : Int) = B 0x04C11DB7#32 from by decide, xorB]
theorem more_l1 : ∀ (d k : Nat) (x1 : ByteArray) (r : BitVec 32) (x6 y j : Int), j = 8 - d → d ≤ 8 → 0 ≤ y → y < 256 →
    transeptref02_More.l1 (k + d + 1) x1 (B r) x6 y j = transeptref02_More.l0 k x1 (B (fold d r y)) (wrap64 (x6 + 1))
  | 0, k, x1, r, x6, y, j, hj, hd, h0, h1 => by
    simp only [transeptref02_More.l1]; rw [if_neg (by omega)]; rfl
  | d + 1, k, x1, r, x6, y, j, hj, hd, h0, h1 => by
    have e := rstep_B r y h0
    rw [show k + (d + 1) + 1 = (k + d + 1) + 1 by omega]
    simp only [transeptref02_More.l1]
    rw [if_pos (by omega), Int.tdiv_eq_ediv_of_nonneg h0, w64 _ (by omega) (by omega), show y / 2 % 256 = y / 2 by omega]
    by_cases h : B r / 2147483648 = (Int.tmod y 2) % 4294967296
    · rw [if_pos h] at e ⊢; rw [e]; exact more_l1 d k x1 _ x6 (y / 2) (j + 1) (by omega) (by omega) (by omega) (by omega)
    · rw [if_neg h] at e ⊢; rw [e]; exact more_l1 d k x1 _ x6 (y / 2) (j + 1) (by omega) (by omega) (by omega) (by omega)
theorem bt_str (l : List Int) (hl : Bytes l) (i : Nat) (hi : i < l.length) : bt (strOfNums l) i = l[i] := by
  have hs : (strOfNums l).size = l.length := by simp [strOfNums, ByteArray.size]
  have hx := hl l[i] (List.getElem_mem hi)
  unfold bt
  rw [dif_pos (by simp [hs, hi])]
  simp only [strOfNums, ByteArray.getElem_eq_getElem_data, List.getElem_toArray, List.getElem_map, Int.toNat_natCast]
  rw [UInt8.toNat_ofNat']; omega
theorem more_l0 (l : List Int) (hl : Bytes l) (hn : l.length ≤ 100000) : ∀ (d k : Nat) (r : BitVec 32) (i : Nat), i + d = l.length →
    transeptref02_More.l0 (k + d * 10 + 40) (strOfNums l) (B r) i = some (B (~~~ (run (rv r) (l.drop i))))
  | 0, k, r, i, hi => by
    have hs : (strOfNums l).size = l.length := by simp [strOfNums, ByteArray.size]
    rw [show k + 0 * 10 + 40 = (k + 39) + 1 by omega]
    simp only [transeptref02_More.l0]
    rw [if_neg (by omega), turned_f (k + 39) r (by omega)]
    simp only [Option.bind_some]
    rw [B_not, List.drop_eq_nil_of_le (by omega)]; rfl
  | d + 1, k, r, i, hi => by
    have hs : (strOfNums l).size = l.length := by simp [strOfNums, ByteArray.size]
    have hx := hl l[i] (List.getElem_mem (by omega))
    rw [show k + (d + 1) * 10 + 40 = ((k + d * 10 + 40) + 8 + 1) + 1 by omega]
    simp only [transeptref02_More.l0]
    rw [if_pos (by omega), if_pos (by omega), bt_str l hl i (by omega), more_l1 8 (k + d * 10 + 40) _ r i l[i] 0 (by omega) (by omega) hx.1 hx.2, w64 _ (by omega) (by omega),
      show ((i : Int) + 1) = ((i + 1 : Nat) : Int) by omega, more_l0 l hl hn d k _ (i + 1) (by omega), rv_fold8 _ _ hx.1 hx.2, List.drop_eq_getElem_cons (by omega : i < l.length)]
    rw [show run (rv r) (l[i] :: l.drop (i + 1)) = run (byte (rv r) l[i]) (l.drop (i + 1)) from rfl, byte_L]
theorem ref_more (l : List Int) (hl : Bytes l) (hn : l.length ≤ 100000) (a : Int) (h0 : 0 ≤ a) (h1 : a < 4294967296) (k : Nat) (hk : l.length * 10 + 80 ≤ k) :
    transeptref02_More.f k a (strOfNums l) = some (more a l) := by
  unfold transeptref02_More.f more
  have ha : a = B (BitVec.ofInt 32 a) := (B_ofInt a h0 h1).symm
  rw [show (4294967295 - a) % 4294967296 = B (~~~ (BitVec.ofInt 32 a)) from by rw [← B_not, ← ha], turned_f k _ (by omega)]
  simp only [Option.bind_some]
  obtain ⟨m, rfl⟩ : ∃ m, k = m + l.length * 10 + 40 := ⟨k - (l.length * 10 + 40), by omega⟩
  have := more_l0 l hl hn l.length m (rv (~~~ (BitVec.ofInt 32 a))) 0 (by omega)
  rw [rv_rv] at this
  exact this
theorem CrcTells : transeptlaw02_CrcTells.Pure := by
  intro l0 a1 hm hn hw w1
  obtain ⟨h10, h11⟩ := u32_bounds w1
  have hb := bytes_wf hw
  refine ⟨100000, ?_⟩
  unfold transeptlaw02_CrcTells.f transeptlaw02_shown.f
  simp only [Option.bind_some, List.nil_append, List.length_nil]
  obtain ⟨k1, k2, k3⟩ := mn_le (l0.length : Int) 1500
  have hk : 0 ≤ mn (l0.length : Int) 1500 := by omega
  generalize mn (l0.length : Int) 1500 = n at *
  have hlen : (l0.take n.toNat).length = n.toNat := by rw [List.length_take]; omega
  have hbb := hb.take n.toNat
  generalize l0.take n.toNat = b at *
  rw [if_pos hk, if_pos k1, if_pos (by omega), if_pos trivial]
  unfold crc_Sum.f transeptref02_Sum.f
  rw [sum_f b hbb (by omega), ref_more b hbb (by omega) 0 (by omega) (by omega) _ (by omega), ref_more b hbb (by omega) a1 h10 h11 _ (by omega), more_f a1 b h10 h11 hbb (by omega)]
  simp
end Go.Proofs.YtdbmildhfnpokaaDoor.Pure
