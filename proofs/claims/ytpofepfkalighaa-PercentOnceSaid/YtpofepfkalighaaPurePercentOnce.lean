/- What is encoded stays so. No condition. -/
import Derived.Test.YtpofepfkalighaaXax12
import Derived.Test.YtpofepfkalighaaPctQ
namespace Go.Proofs.Ytpofepfkalighaa.Pure
open Go.RowKit Go.Proofs.Ytpofepfkalighaa.Xa Go.Proofs.Ytpofepfkalighaa.Ext Go.Proofs.YtpofepfkalighaaW.PrintWords Go.Proofs.YtpofepfkalighaaW.PrintLast
theorem and_range (a : Int) : 0 ≤ bits .and .i64 a 65535 ∧ bits .and .i64 a 65535 ≤ 65535 := by
  simp only [bits]
  have h : ((BitVec.ofInt IntKind.i64.bits a &&& BitVec.ofInt IntKind.i64.bits 65535).toNat) ≤ 65535 := by
    rw [BitVec.toNat_and]
    exact Nat.le_trans Nat.and_le_right (by decide)
  generalize (BitVec.ofInt IntKind.i64.bits a &&& BitVec.ofInt IntKind.i64.bits 65535).toNat = n at *
  rw [IntKind.wrap_i64]; omega
theorem set_range (a : Int) : 1 ≤ wrap64 (1 + Int.tmod (bits .and .i64 a 65535) 5) ∧ wrap64 (1 + Int.tmod (bits .and .i64 a 65535) 5) ≤ 5 := by
  obtain ⟨h0, h1⟩ := and_range a
  rw [Int.tmod_eq_emod_of_nonneg h0, w64 _ (by omega) (by omega)]
  omega
theorem once_l0 (n : Int) (h0 : 1 ≤ n) (h1 : n ≤ 5) (l : List UInt8) (hl : l.length ≤ 1000) :
    ∀ (d k i : Nat), i + d = (encL n l).length → d < k → transeptlaw06_PercentOnce.l0 k n (S l) true (S (encL n l)) i = some true
  | 0, k, i, hi, hk => by
    obtain ⟨k, rfl⟩ : ∃ j, k = j + 1 := ⟨k - 1, by omega⟩
    have hle := encL_len n l
    simp only [transeptlaw06_PercentOnce.l0, S_size]
    rw [if_neg (by omega)]
    simp only [if_true]
    rw [enc_f n _ (by omega), dec_f _ (by omega), dec_f _ (by omega), encL_id n _ (encL_clean n h0 h1 l), dec_enc n l.length l (Nat.le_refl _)]
    simp
  | d + 1, k, i, hi, hk => by
    obtain ⟨k, rfl⟩ : ∃ j, k = j + 1 := ⟨k - 1, by omega⟩
    have hle := encL_len n l
    simp only [transeptlaw06_PercentOnce.l0, S_size]
    rw [if_pos (by omega), if_pos (by omega), bt_S _ i (by omega), w64 _ (by omega) (by omega)]
    unfold percent_In.f
    rw [encL_clean n h0 h1 l _ (List.getElem_mem (by omega))]
    simp only [Option.bind_some, Bool.false_eq_true, if_false]
    exact once_l0 n h0 h1 l hl d k (i + 1) (by omega) (by omega)
theorem PercentOnce : transeptlaw06_PercentOnce.Pure := by
  intro a0 s _ _
  suffices h : ∀ K : Nat, K = 5000 → transeptlaw06_PercentOnce.f K a0 s = some true from ⟨_, h _ rfl⟩
  intro K hK
  unfold transeptlaw06_PercentOnce.f
  rw [shown_f]
  obtain ⟨k1, k2, k3⟩ := mn_le (s.size : Int) 1000
  have hk : 0 ≤ mn (s.size : Int) 1000 := by omega
  generalize mn (s.size : Int) 1000 = n at *
  obtain ⟨r0, r1⟩ := set_range a0
  generalize wrap64 (1 + Int.tmod (bits .and .i64 a0 65535) 5) = q at *
  simp only [Option.bind_some]
  rw [if_pos hk, if_pos k1]
  rw [← S_data s, S_extract, List.drop_zero]
  have hlen : (s.data.toList.take n.toNat).length ≤ 1000 := by rw [List.length_take]; omega
  generalize s.data.toList.take n.toNat = l at *
  rw [enc_f q l (by omega)]
  simp only [Option.bind_some]
  have := encL_len q l
  exact once_l0 q r0 r1 l hlen (encL q l).length K 0 (by omega) (by omega)
end Go.Proofs.Ytpofepfkalighaa.Pure
