/- What the printed functions on numbers and texts answer, in plain words. -/
import Derived.Test.YthbhggpajgokcaaXax12
import Derived.Test.YthbhggpajgokcaaXax2
import Derived.Test.YthbhggpajgokcaaNumP
namespace Go.Proofs.Ythbhggpajgokcaa.Pure
open Go.RowKit Go.Proofs.Ythbhggpajgokcaa.Xa Go.Proofs.Ythbhggpajgokcaa.Ext Go.Proofs.YthbhggpajgokcaaW.PrintWords Go.Proofs.YthbhggpajgokcaaW.PrintLast

theorem and_range (a : Int) : 0 ≤ bits .and .i64 a 65535 ∧ bits .and .i64 a 65535 ≤ 65535 := by
  simp only [bits]
  have h : ((BitVec.ofInt IntKind.i64.bits a &&& BitVec.ofInt IntKind.i64.bits 65535).toNat) ≤ 65535 := by
    rw [BitVec.toNat_and]
    exact Nat.le_trans Nat.and_le_right (by decide)
  generalize (BitVec.ofInt IntKind.i64.bits a &&& BitVec.ofInt IntKind.i64.bits 65535).toNat = n at *
  rw [IntKind.wrap_i64]; omega
theorem tmod_range (a b : Int) (ha : 0 ≤ a) (hb : 0 < b) : 0 ≤ Int.tmod a b ∧ Int.tmod a b < b := by
  rw [Int.tmod_eq_emod_of_nonneg ha]
  exact ⟨Int.emod_nonneg _ (by omega), Int.emod_lt_of_pos _ hb⟩
/-- Bytes of a text as numbers. -/
theorem bytesOf_bytes (s : ByteArray) : Bytes (bytesOf s) := by
  intro x hx
  simp only [bytesOf, List.mem_map] at hx
  obtain ⟨b, _, rfl⟩ := hx
  have := b.toNat_lt
  omega
theorem strOf_bytesOf (s : ByteArray) : strOfNums (bytesOf s) = s := by
  apply ByteArray.ext
  simp only [strOfNums, bytesOf, List.map_map]
  apply Array.ext'
  simp only []
  conv => rhs; rw [← List.map_id s.data.toList]
  apply List.map_congr_left
  intro b _
  simp
theorem bytesOf_len (s : ByteArray) : (bytesOf s).length = s.size := bytesOf_length s
theorem get_put (n : Nat) (r : List Int) (hn : n < 18446744073709551616) : gl 0 0 (put n ++ r) = ((n : Int), ((put n).length : Int), 0) := by
  have := gl_put n 0 0 r (fun h => absurd h (by omega)) (by omega) (by simpa using hn)
  simpa using this
theorem get_cut (n j : Nat) (hn : n < 18446744073709551616) (hj : j < (put n).length) : gl 0 0 ((put n).take j) = (0, (j : Int), 2) := by
  have := gl_cut n 0 j 0 (fun h => absurd h (by omega)) (by omega) (by simpa using hn) hj
  simpa using this
/-- A text that is there is read. -/
theorem text_ok (k : Nat) (hk : 0 < k) (s : ByteArray) (r : List Int) (hr : Bytes r) (hs : s.size ≤ 200) (hl : r.length ≤ 1000000) :
    number_Text.f k (put s.size ++ bytesOf s ++ r) 200 = some (s, ((put s.size ++ bytesOf s).length : Int), 0) := by
  obtain ⟨k, rfl⟩ : ∃ m, k = m + 1 := ⟨k - 1, by omega⟩
  have hp := put_len10 s.size (by omega)
  have hpp := put_pos s.size
  have hb : Bytes (put s.size ++ bytesOf s ++ r) := ((put_bytes _).append (bytesOf_bytes s)).append hr
  have hL : (put s.size ++ bytesOf s ++ r).length = (put s.size).length + s.size + r.length := by rw [List.length_append, List.length_append, bytesOf_len]
  unfold number_Text.f
  rw [get_f _ hb (by omega), List.append_assoc, get_put s.size _ (by omega)]
  simp only [Option.bind_some, if_true]
  rw [if_neg (by omega), u64w 200 (by omega) (by omega)]
  have hd : decide ((s.size : Int) > 200) = false := by simp; omega
  rw [hd]
  simp only [number_Text.j0]
  rw [← List.append_assoc, if_neg (by decide), w64 (s.size : Int) (by omega) (by omega), w64 _ (by omega) (by omega), w64 _ (by omega) (by omega), u64w _ (by omega) (by omega), if_neg (by omega), if_pos (by omega), if_pos (by omega), if_pos (by omega)]
  have ht : ((put s.size ++ bytesOf s ++ r).take (((put s.size).length : Int) + (s.size : Int)).toNat).drop (((put s.size).length : Int)).toNat = bytesOf s := by
    rw [show (((put s.size).length : Int) + (s.size : Int)).toNat = (put s.size ++ bytesOf s).length by rw [List.length_append, bytesOf_len]; omega, List.take_left, Int.toNat_natCast, List.drop_left]
  rw [ht, strOf_bytesOf, List.length_append, bytesOf_len]; simp
/-- A text that is cut off is cut off. -/
theorem text_cut (k : Nat) (hk : 0 < k) (s : ByteArray) (j : Nat) (hs : s.size ≤ 200) (hj : j < (put s.size ++ bytesOf s).length) :
    ∃ t, number_Text.f k ((put s.size ++ bytesOf s).take j) 200 = some (t, (j : Int), 2) := by
  obtain ⟨k, rfl⟩ : ∃ m, k = m + 1 := ⟨k - 1, by omega⟩
  have hp := put_len10 s.size (by omega)
  have hpp := put_pos s.size
  have hb : Bytes ((put s.size ++ bytesOf s).take j) := ((put_bytes _).append (bytesOf_bytes s)).take j
  have hL : ((put s.size ++ bytesOf s).take j).length = j := by rw [List.length_take]; omega
  have hLL : (put s.size ++ bytesOf s).length = (put s.size).length + s.size := by rw [List.length_append, bytesOf_len]
  unfold number_Text.f
  rw [get_f _ hb (by omega)]
  by_cases hc : j < (put s.size).length
  · rw [List.take_append_of_le_length (by omega), get_cut s.size j (by omega) hc]
    exact ⟨_, rfl⟩
  · have ht : (put s.size ++ bytesOf s).take j = put s.size ++ (bytesOf s).take (j - (put s.size).length) := by
      rw [List.take_append]; congr 1; exact List.take_of_length_le (by omega)
    rw [ht] at hL ⊢
    rw [get_put s.size _ (by omega)]
    simp only [Option.bind_some, if_true]
    rw [if_neg (by omega), u64w 200 (by omega) (by omega)]
    have hd : decide ((s.size : Int) > 200) = false := by simp; omega
    rw [hd]
    simp only [number_Text.j0]
    rw [if_neg (by decide), hL, w64 ((j : Int) - _) (by omega) (by omega), u64w _ (by omega) (by omega), if_pos (by omega)]
    exact ⟨_, rfl⟩
theorem putText_f (k : Nat) (s : ByteArray) (hk : 10 < k) (hs : s.size ≤ 1000000) (x0 : List Int) (hx : x0.length ≤ 1000000) : number_PutText.f k x0 s = some (x0 ++ put s.size ++ bytesOf s) := by
  unfold number_PutText.f
  have := put_len10 s.size (by omega)
  rw [u64w _ (by omega) (by omega), put_f k x0 _ (by omega) (by omega) hk (by omega)]
  simp only [Option.bind_some, Int.toNat_natCast]
  rw [if_pos (by rw [List.length_append]; omega)]
end Go.Proofs.Ythbhggpajgokcaa.Pure
