/- What must be in any case, in plain words; the document's numbers. -/
import Derived.Test.YtbldmicpnibnpaaXax7
import Derived.Test.YtbldmicpnibnpaaXax8
namespace Go.Proofs.Ytbldmicpnibnpaa.Pure
open Go.RowKit Go.Proofs.Ytbldmicpnibnpaa.Xa Go.Proofs.Ytbldmicpnibnpaa.Ext Go.Proofs.YtbldmicpnibnpaaW.PrintWords Go.Proofs.YtbldmicpnibnpaaW.PrintLast Go.Sort
set_option linter.unusedVariables false
set_option linter.unusedSimpArgs false
theorem bind_s {α β : Type} (x : α) (f : α → Option β) : (some x).bind f = f x := Eq.trans (Eq.refl _) (Eq.refl _)
def L3 : List S31 := [(⟨(⟨#[97]⟩ : ByteArray), (⟨#[49]⟩ : ByteArray)⟩ : S31), (⟨(⟨#[98]⟩ : ByteArray), (⟨#[50]⟩ : ByteArray)⟩ : S31), (⟨(⟨#[65]⟩ : ByteArray), (⟨#[51]⟩ : ByteArray)⟩ : S31)]
theorem b1 : field_values.f 20 L3 ⟨#[97]⟩ = some [⟨#[49]⟩, ⟨#[51]⟩] := by kernel_rfl
theorem b1b : field_values.f 18 L3 ⟨#[98]⟩ = some [⟨#[50]⟩] := by kernel_rfl
theorem b1c : field_values.f 19 L3 ⟨#[97]⟩ = some [⟨#[49]⟩, ⟨#[51]⟩] := by kernel_rfl
theorem b2 : Lib.join [[49], [51]] [44, 32] = [49, 44, 32, 51] := by simp [Lib.join, List.intercalate]
theorem b3 : strings_Join.f [⟨#[49]⟩, ⟨#[51]⟩] ⟨#[44, 32]⟩ = some ⟨#[49, 44, 32, 51]⟩ := by
  unfold strings_Join.f joinB
  have h : Lib.join (([⟨#[49]⟩, ⟨#[51]⟩] : List ByteArray).map (·.data.toList)) (⟨#[44, 32]⟩ : ByteArray).data.toList = [49, 44, 32, 51] := b2
  rw [h, if_pos ⟨by decide, by decide⟩]
theorem b4 : strings_Join.f [⟨#[50]⟩] ⟨#[44, 32]⟩ = some ⟨#[50]⟩ := by
  unfold strings_Join.f joinB
  have h : Lib.join (([⟨#[50]⟩] : List ByteArray).map (·.data.toList)) (⟨#[44, 32]⟩ : ByteArray).data.toList = [50] := by simp [Lib.join, List.intercalate]
  rw [h, if_pos ⟨by decide, by decide⟩]
theorem a3 : (strKeys (nD L3)) = [[97], [98]] := by decide +kernel
theorem a6 : [[97], [98]].mergeSort leS = [[97], [98]] := List.mergeSort_of_pairwise (by decide)
theorem a9 : namesF L3 = [⟨#[97]⟩, ⟨#[98]⟩] := by unfold namesF; rw [a3, a6]; rfl
theorem a10 : field_Names.f L3 = some [⟨#[97]⟩, ⟨#[98]⟩] := by
  unfold field_Names.f
  rw [if_pos (by decide), a9]
theorem g20 : field_Get.f 20 L3 ⟨#[97]⟩ = some (⟨#[49, 44, 32, 51]⟩, true) := by unfold field_Get.f; rw [b1, bind_s, b3, bind_s]; rfl
theorem g19 : field_Get.f 19 L3 ⟨#[97]⟩ = some (⟨#[49, 44, 32, 51]⟩, true) := by unfold field_Get.f; rw [b1c, bind_s, b3, bind_s]; rfl
theorem g18 : field_Get.f 18 L3 ⟨#[98]⟩ = some (⟨#[50]⟩, true) := by unfold field_Get.f; rw [b1b, bind_s, b4, bind_s]; rfl
theorem o20 : field_Only.f 20 L3 ⟨#[97]⟩ = some (⟨#[]⟩, false) := by unfold field_Only.f; rw [b1, bind_s]; rfl
theorem c20 : ∃ r, field_Combined.f 20 L3 = some r ∧ r.length = 2 := by
  refine ⟨[⟨⟨#[97]⟩, ⟨#[49, 44, 32, 51]⟩⟩, ⟨⟨#[98]⟩, ⟨#[50]⟩⟩], ?_, rfl⟩
  unfold field_Combined.f
  rw [a10, bind_s, field_Combined.l0, if_pos (by decide), if_pos (by decide), if_pos (by decide)]
  rw [show rdOf ByteArray.empty [⟨#[97]⟩, ⟨#[98]⟩] 0 = ⟨#[97]⟩ from rfl, g19, bind_s, if_pos (by decide), show wrap64 (0 + 1) = 1 by unfold wrap64; omega, field_Combined.l0, if_pos (by decide), if_pos (by decide), if_pos (by decide)]
  rw [show rdOf ByteArray.empty [⟨#[97]⟩, ⟨#[98]⟩] 1 = ⟨#[98]⟩ from rfl, g18, bind_s, if_pos (by decide), show wrap64 (1 + 1) = 2 by unfold wrap64; omega, field_Combined.l0, if_neg (by decide)]
  rfl
theorem n12 : field_Number.f ⟨#[49, 50]⟩ 9 = some (9, true) := by decide +kernel
theorem shown20 : transeptlaw10_shown.f 20 = some true := by
  obtain ⟨r, h1, h2⟩ := c20
  unfold transeptlaw10_shown.f
  rw [bind_s]
  show (field_Get.f 20 L3 _).bind _ = _
  rw [g20, bind_s]
  show (field_Only.f 20 L3 _).bind _ = _
  rw [o20, bind_s, n12, bind_s]
  rw [if_pos (by decide +kernel), if_pos rfl, if_neg (by decide)]
  show (field_Combined.f 20 L3).bind _ = _
  rw [h1, bind_s, if_pos (by omega), if_pos rfl]
theorem shown_f (k : Nat) (h : 20 ≤ k) : transeptlaw10_shown.f k = some true := at_rounds (g := fun k => transeptlaw10_shown.f k) (fun k => transeptlaw10_shown.mono k) h shown20
theorem bt_at (s : ByteArray) (I : Nat) (h : I < s.size) : bt s (I : Int) = ((s.data.toList.getD I 0).toNat : Int) := by
  rw [← rd_bytesOf]
  have h1 : I < s.data.size := h
  simp only [Go.Proofs.YtbldmicpnibnpaaW.PrintWords.rd, bytesOf, Int.toNat_natCast, List.getD_eq_getElem?_getD, List.getElem?_map, Array.getElem?_toList]
  rw [Array.getElem?_eq_getElem h1]
  rfl
theorem w64 (a : Int) (h0 : 0 ≤ a) (h1 : a < 9223372036854775808) : wrap64 a = a := by unfold wrap64; omega
theorem num_from (s : ByteArray) (most : Int) (h9 : s.size ≤ 9) : ∀ (d I k : Nat) (N : Int), I + d = s.size → d < k → 0 ≤ N → N < 10 ^ I →
    transeptref10_Number.l0 k s most N (I : Int) = some (match digs (s.data.toList.drop I) N with | none => (0, false) | some n => (mn n most, true))
  | 0, I, k + 1, N, h, _, _, _ => by
    rw [transeptref10_Number.l0, if_neg (by omega), List.drop_eq_nil_of_le (by rw [Array.length_toList]; show s.size ≤ I; omega)]
    rfl
  | d + 1, I, k + 1, N, h, hk, h0, hN => by
    have hI : I < s.size := by omega
    rw [transeptref10_Number.l0, if_pos (by omega), if_pos (by omega), bt_at s I hI, drop_byte s I hI, digs]
    generalize s.data.toList.getD I 0 = c
    have hc := c.toNat_lt
    by_cases h1 : (c.toNat : Int) < 48
    · rw [if_pos h1, if_pos (.inl (by omega))]
    rw [if_neg h1]
    by_cases h2 : (c.toNat : Int) > 57
    · rw [if_pos h2, if_pos (.inr (by omega))]
    rw [if_neg h2, if_neg (by omega)]
    have hp := pow_next N I ((c.toNat : Int) - 48) hN (by omega)
    have hq := pow_le9 (I + 1) (by omega)
    rw [w64 (10 * N) (by omega) (by omega), show ((c.toNat : Int) - 48) % 256 = (c.toNat : Int) - 48 by omega, w64 _ (by omega) (by omega), w64 ((I : Int) + 1) (by omega) (by omega), show ((I : Int) + 1) = ((I + 1 : Nat) : Int) by omega]
    exact num_from s most h9 d (I + 1) k _ (by omega) (by omega) (by omega) hp
theorem num_ref (s : ByteArray) (most : Int) (k : Nat) (hk : 20 ≤ k) : transeptref10_Number.f k s most = some (numF s most) := by
  obtain ⟨k, rfl⟩ : ∃ j, k = j + 1 := ⟨k - 1, by omega⟩
  unfold transeptref10_Number.f numF
  by_cases h0 : s.size = 0
  · have : s.toList = [] := by rw [ByteArray.toList_eq]; exact List.length_eq_zero_iff.1 (by rw [Array.length_toList]; exact h0)
    rw [if_pos this, if_pos (.inl h0), transeptref10_Number.j0, if_pos rfl]
  · have : ¬ s.toList = [] := by
      rw [ByteArray.toList_eq]; intro h; apply h0; show s.data.size = 0; rw [← Array.length_toList, h]; rfl
    rw [if_neg this, transeptref10_Number.j0]
    by_cases h9 : 9 < s.size
    · rw [if_pos (by rw [decide_eq_true_eq]; omega), if_pos (.inr h9)]
    · rw [if_neg (by rw [decide_eq_true_eq]; omega), if_neg (by omega)]
      have := num_from s most (by omega) s.size 0 k 0 (by omega) (by omega) (by omega) (by decide)
      rw [show ((0 : Nat) : Int) = 0 from rfl, List.drop_zero] at this
      exact this
end Go.Proofs.Ytbldmicpnibnpaa.Pure
