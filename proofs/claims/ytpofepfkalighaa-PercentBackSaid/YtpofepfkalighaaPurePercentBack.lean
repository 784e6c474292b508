/- A text without a percent sign is encoded and decoded as it was. No condition. -/
import Derived.Test.YtpofepfkalighaaXax13
import Derived.Test.YtpofepfkalighaaPctQ
namespace Go.Proofs.Ytpofepfkalighaa.Pure
open Go.RowKit Go.Proofs.Ytpofepfkalighaa.Xa Go.Proofs.Ytpofepfkalighaa.Ext Go.Proofs.YtpofepfkalighaaW.PrintWords Go.Proofs.YtpofepfkalighaaW.PrintLast
/-- Percent signs written with three bytes. -/
def esc (l : List UInt8) : List UInt8 := l.flatMap fun c => if c = 37 then [37, 50, 53] else [c]
theorem esc_cons (c : UInt8) (l : List UInt8) : esc (c :: l) = (if c = 37 then [37, 50, 53] else [c]) ++ esc l := by simp [esc]
theorem esc_snoc (c : UInt8) (l : List UInt8) : esc (l ++ [c]) = esc l ++ (if c = 37 then [37, 50, 53] else [c]) := by simp [esc]
theorem esc_len : ∀ l : List UInt8, (esc l).length ≤ 3 * l.length
  | [] => by simp [esc]
  | c :: l => by
    have := esc_len l
    rw [esc_cons]
    split <;> simp only [List.length_append, List.length_cons, List.length_nil] <;> omega
theorem val25 : 0 ≤ val (50 : UInt8).toNat ∧ 0 ≤ val (53 : UInt8).toNat ∧ (val (50 : UInt8).toNat * 16 + val (53 : UInt8).toNat).toNat.toUInt8 = 37 := by decide +kernel
theorem dec_esc : ∀ l : List UInt8, decL (esc l) = l
  | [] => rfl
  | c :: l => by
    rw [esc_cons]
    by_cases h : c = 37
    · subst h
      rw [if_pos rfl]
      show decL (37 :: 50 :: 53 :: esc l) = _
      rw [decL, if_pos ⟨rfl, val25.1, val25.2.1⟩, dec_esc l, val25.2.2]
    · rw [if_neg h]
      show decL (c :: esc l) = _
      rw [decL_eq, if_neg h, dec_esc l]
theorem back_l0 (n : Int) (l : List UInt8) (hl : l.length ≤ 1000) :
    ∀ (d k i : Nat), i + d = l.length → d < k → transeptlaw06_PercentBack.l0 k n (S l) true (S (esc (l.take i))) i = some true
  | 0, k, i, hi, hk => by
    obtain ⟨k, rfl⟩ : ∃ j, k = j + 1 := ⟨k - 1, by omega⟩
    rw [List.take_of_length_le (by omega)]
    have h1 := esc_len l
    have h2 := encL_len n (esc l)
    simp only [transeptlaw06_PercentBack.l0, S_size]
    rw [if_neg (by omega)]
    simp only [if_true]
    rw [dec_f _ (by omega)]
    simp only [Option.bind_some]
    rw [dec_esc, if_pos rfl, enc_f n _ (by omega)]
    simp only [Option.bind_some]
    rw [dec_f _ (by omega)]
    simp only [Option.bind_some]
    rw [dec_enc n _ (esc l) (Nat.le_refl _), dec_esc]
    simp
  | d + 1, k, i, hi, hk => by
    obtain ⟨k, rfl⟩ : ∃ j, k = j + 1 := ⟨k - 1, by omega⟩
    have h1 := esc_len (l.take i)
    have h2 : (l.take i).length = i := by rw [List.length_take]; omega
    have hs : esc (l.take (i + 1)) = esc (l.take i) ++ (if l[i] = 37 then [37, 50, 53] else [l[i]]) := by
      rw [List.take_succ_eq_append_getElem (by omega), esc_snoc]
    simp only [transeptlaw06_PercentBack.l0, S_size]
    rw [if_pos (by omega), if_pos (by omega), bt_S l i (by omega), w64 ((i : Int) + 1) (by omega) (by omega)]
    by_cases hc : l[i] = 37
    · rw [if_pos (by rw [hc]; rfl), if_pos (by omega)]
      rw [if_pos hc] at hs
      have he : S (esc (l.take i)) ++ (⟨#[37, 50, 53]⟩ : ByteArray) = S (esc (l.take (i + 1))) := by rw [hs, ← S_append]; rfl
      rw [he]
      exact back_l0 n l hl d k (i + 1) (by omega) (by omega)
    · rw [if_neg (fun h => hc (UInt8.toNat_inj.1 (by have : (37 : UInt8).toNat = 37 := rfl; omega)))]
      rw [if_neg hc] at hs
      have hx : (S l).extract ((i : Int)).toNat (((i : Int) + 1)).toNat = S [l[i]] := by
        rw [show ((i : Int) + 1).toNat = i + 1 by omega, show ((i : Int)).toNat = i by omega, S_extract, List.take_succ_eq_append_getElem (by omega), List.drop_append_of_le_length (by omega), List.drop_of_length_le (by omega)]
        rfl
      rw [if_pos (by omega), if_pos (by omega), hx, S_size, if_pos (by simp only [List.length_cons, List.length_nil]; omega), S_append, ← hs]
      exact back_l0 n l hl d k (i + 1) (by omega) (by omega)
theorem PercentBack : transeptlaw06_PercentBack.Pure := by
  intro a0 s _ _
  suffices h : ∀ K : Nat, K = 2000 → transeptlaw06_PercentBack.f K a0 s = some true from ⟨_, h _ rfl⟩
  intro K hK
  unfold transeptlaw06_PercentBack.f
  rw [shown_f]
  obtain ⟨k1, k2, k3⟩ := mn_le (s.size : Int) 1000
  have hk : 0 ≤ mn (s.size : Int) 1000 := by omega
  generalize mn (s.size : Int) 1000 = n at *
  simp only [Option.bind_some]
  rw [if_pos hk, if_pos k1]
  rw [← S_data s, S_extract, List.drop_zero]
  have hlen : (s.data.toList.take n.toNat).length ≤ 1000 := by rw [List.length_take]; omega
  generalize s.data.toList.take n.toNat = l at *
  exact back_l0 a0 l hlen l.length K 0 (by omega) (by omega)
end Go.Proofs.Ytpofepfkalighaa.Pure
