/- Numbers and texts have the bytes that the document says, behind what was there. No condition. -/
import Derived.Test.YthbhggpajgokcaaXax15
import Derived.Test.YthbhggpajgokcaaNumQ
namespace Go.Proofs.Ythbhggpajgokcaa.Pure
open Go.RowKit Go.Proofs.Ythbhggpajgokcaa.Xa Go.Proofs.Ythbhggpajgokcaa.Ext Go.Proofs.YthbhggpajgokcaaW.PrintWords Go.Proofs.YthbhggpajgokcaaW.PrintLast

theorem strOf_append (a b : List Int) : strOfNums (a ++ b) = strOfNums a ++ strOfNums b := by
  apply ByteArray.ext
  simp [strOfNums]
theorem strOf_size (a : List Int) : (strOfNums a).size = a.length := by simp [strOfNums, ByteArray.size]
/-- The document's number. -/
theorem ref_put : ∀ (n k : Nat), (put n).length < k → n < 18446744073709551616 → transeptref01_Put.f k (n : Int) = some (strOfNums (put n)) := by
  intro n
  induction n using Nat.strongRecOn with
  | _ n ih =>
    intro k hk hn
    obtain ⟨k, rfl⟩ : ∃ m, k = m + 1 := ⟨k - 1, by omega⟩
    simp only [transeptref01_Put.f]
    by_cases hs : n < 128
    · rw [if_pos (by omega), put_small hs, show ((n : Int) % 256) = n by omega]
    · rw [put_great (by omega)] at hk
      simp only [List.length_cons] at hk
      rw [if_neg (by omega), Int.tmod_eq_emod_of_nonneg (by omega), Int.tdiv_eq_ediv_of_nonneg (by omega), u64w _ (by omega) (by omega), u64w _ (by omega) (by omega), show ((n : Int) / 128) = ((n / 128 : Nat) : Int) by omega, ih (n / 128) (by omega) k (by omega) (by omega)]
      simp only [Option.bind_some]
      have hl := put_len10 (n / 128) (by omega)
      rw [if_pos (by rw [strOf_size, strOf_size]; simp; omega), ← strOf_append, put_great (n := n) (by omega), show (((n : Int) % 128 + 128) % 256) = ((n % 128 + 128 : Nat) : Int) by omega]; rfl
theorem ref_put_f (k : Nat) (a : Int) (h0 : 0 ≤ a) (h1 : a < 18446744073709551616) (hk : 10 < k) : transeptref01_Put.f k a = some (strOfNums (put a.toNat)) := by
  have := put_len10 a.toNat (by omega)
  have h := ref_put a.toNat k (by omega) (by omega)
  rwa [Int.toNat_of_nonneg h0] at h
theorem ref_putText (k : Nat) (s : ByteArray) (hk : 10 < k) (hs : s.size ≤ 1000000) : transeptref01_PutText.f k s = some (strOfNums (put s.size) ++ s) := by
  unfold transeptref01_PutText.f
  have := put_len10 s.size (by omega)
  rw [u64w _ (by omega) (by omega), ref_put_f k _ (by omega) (by omega) hk]
  simp only [Option.bind_some, Int.toNat_natCast]
  rw [if_pos (by rw [strOf_size]; omega)]
theorem NumberWrites : transeptlaw01_NumberWrites.Pure := by
  intro l0 a1 a2 hm hn hw w1 w2
  obtain ⟨h10, h11⟩ := u64_bounds w1
  have hb := bytes_wf hw
  refine ⟨20, ?_⟩
  unfold transeptlaw01_NumberWrites.f
  rw [shown_f 20 (by omega)]
  simp only [Option.bind_some, List.nil_append, List.length_nil]
  obtain ⟨k1, k2, k3⟩ := mn_le (l0.length : Int) 100
  have hk : 0 ≤ mn (l0.length : Int) 100 := by omega
  generalize mn (l0.length : Int) 100 = n at *
  obtain ⟨j1, j2, j3⟩ := mn_le (a2.size : Int) 300
  have hj : 0 ≤ mn (a2.size : Int) 300 := by omega
  generalize mn (a2.size : Int) 300 = n1 at *
  have hs : (a2.extract 0 n1.toNat).size = n1.toNat := by rw [ByteArray.size_extract]; omega
  generalize a2.extract 0 n1.toNat = s at *
  have hlen : (l0.take n.toNat).length = n.toNat := by rw [List.length_take]; omega
  generalize l0.take n.toNat = b at *
  have hp := put_len10 a1.toNat (by omega)
  have hq := put_len10 s.size (by omega)
  rw [if_pos hk, if_pos k1, if_pos (by omega), if_pos hj, if_pos j1, if_pos (by omega), put_f 20 b a1 h10 h11 (by omega) (by omega), putText_f 20 s (by omega) (by omega) b (by omega), ref_put_f 20 a1 h10 h11 (by omega), ref_putText 20 s (by omega) (by omega)]
  simp only [Option.bind_some]
  rw [if_pos (by omega), if_pos trivial, if_pos (by rw [strOf_size, strOf_size]; omega), if_pos (by rw [strOf_append])]
  rw [if_pos (by rw [strOf_size, ByteArray.size_append, strOf_size]; omega), strOf_append, strOf_append, strOf_bytesOf, ByteArray.append_assoc]
  simp
end Go.Proofs.Ythbhggpajgokcaa.Pure
