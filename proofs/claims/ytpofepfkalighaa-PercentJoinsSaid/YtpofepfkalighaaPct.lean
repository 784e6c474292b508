/- Percent signs, in plain words. -/
import Derived.Test.YtpofepfkalighaaXax4
namespace Go.Proofs.Ytpofepfkalighaa.Pure
open Go.RowKit Go.Proofs.Ytpofepfkalighaa.Xa Go.Proofs.Ytpofepfkalighaa.Ext Go.Proofs.YtpofepfkalighaaW.PrintWords Go.Proofs.YtpofepfkalighaaW.PrintLast

theorem shown_f : transeptlaw06_shown.f = some true := by decide +kernel
theorem u8_bounds {a : Int} (h : (Lit.int .u8 a).wf = true) : 0 ≤ a ∧ a < 256 := by
  simp [Lit.wf, IntKind.min, IntKind.max, IntKind.bits, IntKind.signed] at h; omega
theorem mn_le (a b : Int) : mn a b ≤ a ∧ mn a b ≤ b ∧ (mn a b = a ∨ mn a b = b) := by unfold mn; split <;> omega
theorem w64 (n : Int) (h0 : -9223372036854775808 ≤ n) (h1 : n < 9223372036854775808) : wrap64 n = n := by unfold wrap64; omega
/-- A text out of a list of bytes. -/
def S (l : List UInt8) : ByteArray := ⟨l.toArray⟩
theorem S_data (s : ByteArray) : S s.data.toList = s := by apply ByteArray.ext; simp [S]
theorem S_list (l : List UInt8) : (S l).data.toList = l := by simp [S]
theorem S_size (l : List UInt8) : (S l).size = l.length := by simp [S, ByteArray.size]
theorem S_toList (l : List UInt8) : (S l).toList = l := by rw [ByteArray.toList_eq, S_list]
theorem S_append (l m : List UInt8) : S l ++ S m = S (l ++ m) := by apply ByteArray.ext; simp [S]
theorem S_extract (l : List UInt8) (a b : Nat) : (S l).extract a b = S ((l.take b).drop a) := by
  apply ByteArray.ext
  apply Array.ext'
  simp [S, List.take_drop]
  by_cases h : a ≤ b
  · rw [show a + (b - a) = b by omega]
  · rw [show b - a = 0 by omega, List.drop_eq_nil_of_le, List.drop_eq_nil_of_le] <;> simp <;> omega
theorem bt_S (l : List UInt8) (i : Nat) (h : i < l.length) : bt (S l) i = (l[i].toNat : Int) := by
  unfold bt
  rw [dif_pos (by rw [S_size]; simpa using h)]
  simp [S, ByteArray.getElem_eq_getElem_data]
theorem enc_f (n : Int) (l : List UInt8) (h : l.length ≤ 35184372088832) : percent_Encode.f n (S l) = some (S (encL n l)) := by
  unfold percent_Encode.f; rw [if_pos (by rw [S_size]; exact h), S_list]; rfl
theorem dec_f (l : List UInt8) (h : l.length ≤ 35184372088832) : percent_Decode.f (S l) = some (S (decL l)) := by
  unfold percent_Decode.f; rw [if_pos (by rw [S_size]; exact h), S_list]; rfl
theorem encL_append (n : Int) (a b : List UInt8) : encL n (a ++ b) = encL n a ++ encL n b := by simp [encL]
theorem encL_cons (n : Int) (c : UInt8) (l : List UInt8) : encL n (c :: l) = enc1 n c ++ encL n l := by simp [encL]
end Go.Proofs.Ytpofepfkalighaa.Pure
