/- Each byte is written as itself, or as three. No condition. -/
import Derived.Test.YtpofepfkalighaaXax16
import Derived.Test.YtpofepfkalighaaPctQ
namespace Go.Proofs.Ytpofepfkalighaa.Pure
open Go.RowKit Go.Proofs.Ytpofepfkalighaa.Xa Go.Proofs.Ytpofepfkalighaa.Ext Go.Proofs.YtpofepfkalighaaW.PrintWords Go.Proofs.YtpofepfkalighaaW.PrintLast
theorem and_range (a : Int) : 0 ≤ bits .and .i64 a 65535 ∧ bits .and .i64 a 65535 ≤ 65535 := by
  simp only [bits]
  have h : ((BitVec.ofInt IntKind.i64.bits a &&& BitVec.ofInt IntKind.i64.bits 65535).toNat) ≤ 65535 := by
    rw [BitVec.toNat_and]
    exact Nat.le_trans Nat.and_le_right (by decide)
  generalize (BitVec.ofInt IntKind.i64.bits a &&& BitVec.ofInt IntKind.i64.bits 65535).toNat = n at *
  rw [IntKind.wrap_i64]; omega
theorem set_range (a : Int) : 1 ≤ wrap64 (1 + Int.tmod (bits .and .i64 a 65535) 5) ∧ wrap64 (1 + Int.tmod (bits .and .i64 a 65535) 5) ≤ 5 := by
  obtain ⟨h0, h1⟩ := and_range a
  rw [Int.tmod_eq_emod_of_nonneg h0, w64 _ (by omega) (by omega)]
  omega
def up : List UInt8 := [48, 49, 50, 51, 52, 53, 54, 55, 56, 57, 65, 66, 67, 68, 69, 70]
def lo : List UInt8 := [48, 49, 50, 51, 52, 53, 54, 55, 56, 57, 97, 98, 99, 100, 101, 102]
theorem cut_up : ∀ h : Fin 16, ((up.take (h.val + 1)).drop h.val) = [up.getD h.val 0] := by decide +kernel
theorem cut_lo : ∀ h : Fin 16, ((lo.take (h.val + 1)).drop h.val) = [lo.getD h.val 0] := by decide +kernel
theorem dec_up : ∀ j : Fin 256, decL [37, up.getD (j.val / 16) 0, up.getD (j.val % 16) 0] = [UInt8.ofNat j.val] := by decide +kernel
theorem dec_lo : ∀ j : Fin 256, decL [37, lo.getD (j.val / 16) 0, lo.getD (j.val % 16) 0] = [UInt8.ofNat j.val] := by decide +kernel
theorem ex_up (n : Int) (h0 : 0 ≤ n) (h1 : n < 16) : (⟨#[48, 49, 50, 51, 52, 53, 54, 55, 56, 57, 65, 66, 67, 68, 69, 70]⟩ : ByteArray).extract n.toNat ((n + 1) % 256).toNat = S [up.getD n.toNat 0] := by
  show (S up).extract _ _ = _
  rw [S_extract, show ((n + 1) % 256).toNat = n.toNat + 1 by omega]
  exact congrArg S (cut_up ⟨n.toNat, by omega⟩)
theorem ex_lo (n : Int) (h0 : 0 ≤ n) (h1 : n < 16) : (⟨#[48, 49, 50, 51, 52, 53, 54, 55, 56, 57, 97, 98, 99, 100, 101, 102]⟩ : ByteArray).extract n.toNat ((n + 1) % 256).toNat = S [lo.getD n.toNat 0] := by
  show (S lo).extract _ _ = _
  rw [S_extract, show ((n + 1) % 256).toNat = n.toNat + 1 by omega]
  exact congrArg S (cut_lo ⟨n.toNat, by omega⟩)
theorem str_one (n : Nat) : strOfNums [(n : Int)] = S [UInt8.ofNat n] := by
  apply ByteArray.ext
  simp [strOfNums, S]
theorem PercentBytes : transeptlaw06_PercentBytes.Pure := by
  intro a0 a1 a2 _ h1 h2
  obtain ⟨b0, b1⟩ := u8_bounds h1
  obtain ⟨d0, d1⟩ := u8_bounds h2
  obtain ⟨r0, r1⟩ := set_range a0
  unfold transeptlaw06_PercentBytes.f percent_In.f
  rw [shown_f, and15 a2 d0 d1]
  generalize wrap64 (1 + Int.tmod (bits .and .i64 a0 65535) 5) = q at *
  obtain ⟨j, rfl⟩ := Int.eq_ofNat_of_zero_le d0
  obtain ⟨c, rfl⟩ := Int.eq_ofNat_of_zero_le b0
  have t1 : ((j : Int) / 16).toNat = j / 16 := by omega
  have t2 : ((j : Int) % 16).toNat = j % 16 := by omega
  have hc : ((UInt8.ofNat c).toNat : Int) = (c : Int) := by rw [UInt8.toNat_ofNat']; omega
  have he : encL q [UInt8.ofNat c] = enc1 q (UInt8.ofNat c) := by simp [encL]
  have hl := enc1_len q (UInt8.ofNat c)
  have hd := dec_enc q 1 [UInt8.ofNat c] (by simp)
  rw [he] at hd
  have e37 : (⟨#[37]⟩ : ByteArray) = S [37] := rfl
  have ju := dec_up ⟨j, by omega⟩
  have jl := dec_lo ⟨j, by omega⟩
  simp only at ju jl
  simp only [Option.bind_some]
  rw [str_one c, str_one j, ex_up _ (by omega) (by omega), ex_up _ (by omega) (by omega), ex_lo _ (by omega) (by omega), ex_lo _ (by omega) (by omega), t1, t2, e37]
  simp only [S_append, S_size, List.cons_append, List.nil_append, List.length_cons, List.length_nil]
  rw [enc_f q _ (by simp), he]
  simp only [Option.bind_some, S_size]
  rw [if_pos (by omega), if_pos (by omega), if_pos (by omega), if_pos (by omega), if_pos (by omega), if_pos (by omega), if_pos (by omega), if_pos (by omega), if_pos (by omega), if_pos (by omega)]
  simp only [if_true]
  rw [dec_f _ (by omega), dec_f _ (by simp), dec_f _ (by simp), hd, ju, jl]
  simp only [Option.bind_some, S_toList, if_true]
  cases hin : inSet q c with
  | true =>
    have := enc1_true q (UInt8.ofNat c) (by rw [hc]; exact hin)
    rw [this]
    simp [decL]
  | false =>
    have := enc1_false q (UInt8.ofNat c) (by rw [hc]; exact hin)
    rw [this]
    simp [decL]
end Go.Proofs.Ytpofepfkalighaa.Pure
