/- What must be in any case, in plain words; the document's numbers. -/
import Derived.Test.YtbldmicpnibnpaaDoorXax7
namespace Go.Proofs.YtbldmicpnibnpaaDoor.Pure
open Go.RowKit Go.Proofs.YtbldmicpnibnpaaDoor.Xa Go.Proofs.YtbldmicpnibnpaaDoor.Ext Go.Proofs.YtbldmicpnibnpaaDoorW.PrintWords Go.Proofs.YtbldmicpnibnpaaDoorW.PrintLast Go.Sort
set_option linter.unusedVariables false
set_option linter.unusedSimpArgs false
theorem bind_s {α β : Type} (x : α) (f : α → Option β) : (some x).bind f = f x := Eq.trans (Eq.refl _) (Eq.refl _)
def L3 : List S31 := [(⟨(⟨#[97]⟩ : ByteArray), (⟨#[49]⟩ : ByteArray)⟩ : S31), (⟨(⟨#[98]⟩ : ByteArray), (⟨#[50]⟩ : ByteArray)⟩ : S31), (⟨(⟨#[65]⟩ : ByteArray), (⟨#[51]⟩ : ByteArray)⟩ : S31)]
theorem b1 : field_values.f 20 L3 ⟨#[97]⟩ = some [⟨#[49]⟩, ⟨#[51]⟩] := by kernel_rfl
theorem b1b : field_values.f 18 L3 ⟨#[98]⟩ = some [⟨#[50]⟩] := by kernel_rfl
theorem b1c : field_values.f 19 L3 ⟨#[97]⟩ = some [⟨#[49]⟩, ⟨#[51]⟩] := by kernel_rfl
theorem b2 : Lib.join [[49], [51]] [44, 32] = [49, 44, 32, 51] := by simp [Lib.join, List.intercalate]
theorem b3 : strings_Join.f [⟨#[49]⟩, ⟨#[51]⟩] ⟨#[44, 32]⟩ = some ⟨#[49, 44, 32, 51]⟩ := by
  unfold strings_Join.f joinB
  have h : Lib.join (([⟨#[49]⟩, ⟨#[51]⟩] : List ByteArray).map (·.data.toList)) (⟨#[44, 32]⟩ : ByteArray).data.toList = [49, 44, 32, 51] := b2
  rw [h, if_pos ⟨by decide, by decide⟩]
theorem b4 : strings_Join.f [⟨#[50]⟩] ⟨#[44, 32]⟩ = some ⟨#[50]⟩ := by
  unfold strings_Join.f joinB
  have h : Lib.join (([⟨#[50]⟩] : List ByteArray).map (·.data.toList)) (⟨#[44, 32]⟩ : ByteArray).data.toList = [50] := by simp [Lib.join, List.intercalate]
  rw [h, if_pos ⟨by decide, by decide⟩]
theorem a3 : (strKeys (nD L3)) = [[97], [98]] := by decide +kernel
theorem a6 : [[97], [98]].mergeSort leS = [[97], [98]] := List.mergeSort_of_pairwise (by decide)
theorem a9 : namesF L3 = [⟨#[97]⟩, ⟨#[98]⟩] := by unfold namesF; rw [a3, a6]; rfl
theorem a10 : field_Names.f L3 = some [⟨#[97]⟩, ⟨#[98]⟩] := by
  unfold field_Names.f
  rw [if_pos (by decide), a9]
theorem g20 : field_Get.f 20 L3 ⟨#[97]⟩ = some (⟨#[49, 44, 32, 51]⟩, true) := by unfold field_Get.f; rw [b1, bind_s, b3, bind_s]; rfl
theorem g19 : field_Get.f 19 L3 ⟨#[97]⟩ = some (⟨#[49, 44, 32, 51]⟩, true) := by unfold field_Get.f; rw [b1c, bind_s, b3, bind_s]; rfl
theorem g18 : field_Get.f 18 L3 ⟨#[98]⟩ = some (⟨#[50]⟩, true) := by unfold field_Get.f; rw [b1b, bind_s, b4, bind_s]; rfl
theorem o20 : field_Only.f 20 L3 ⟨#[97]⟩ = some (⟨#[]⟩, false) := by unfold field_Only.f; rw [b1, bind_s]; rfl
theorem c20 : ∃ r, field_Combined.f 20 L3 = some r ∧ r.length = 2 := by
  refine ⟨[⟨⟨#[97]⟩, ⟨#[49, 44, 32, 51]⟩⟩, ⟨⟨#[98]⟩, ⟨#[50]⟩⟩], ?_, rfl⟩
  unfold field_Combined.f
  rw [a10, bind_s, field_Combined.l0, if_pos (by decide), if_pos (by decide), if_pos (by decide)]
  rw [show rdOf ByteArray.empty [⟨#[97]⟩, ⟨#[98]⟩] 0 = ⟨#[97]⟩ from rfl, g19, bind_s, if_pos (by decide), show wrap64 (0 + 1) = 1 by unfold wrap64; omega, field_Combined.l0, if_pos (by decide), if_pos (by decide), if_pos (by decide)]
  rw [show rdOf ByteArray.empty [⟨#[97]⟩, ⟨#[98]⟩] 1 = ⟨#[98]⟩ from rfl, g18, bind_s, if_pos (by decide), show wrap64 (1 + 1) = 2 by unfold wrap64; omega, field_Combined.l0, if_neg (by decide)]
  rfl
theorem n12 : field_Number.f ⟨#[49, 50]⟩ 9 = some (9, true) := by decide +kernel
theorem shown20 : transeptlaw10_shown.f 20 = some true := by
  obtain ⟨r, h1, h2⟩ := c20
  unfold transeptlaw10_shown.f
  rw [bind_s]
  show (field_Get.f 20 L3 _).bind _ = _
  rw [g20, bind_s]
  show (field_Only.f 20 L3 _).bind _ = _
  rw [o20, bind_s, n12, bind_s]
  rw [if_pos (by decide +kernel), if_pos rfl, if_neg (by decide)]
  show (field_Combined.f 20 L3).bind _ = _
  rw [h1, bind_s, if_pos (by omega), if_pos rfl]
theorem shown_f (k : Nat) (h : 20 ≤ k) : transeptlaw10_shown.f k = some true := at_rounds (g := fun k => transeptlaw10_shown.f k) (fun k => transeptlaw10_shown.mono k) h shown20
theorem w64 (a : Int) (h0 : 0 ≤ a) (h1 : a < 9223372036854775808) : wrap64 a = a := by unfold wrap64; omega
end Go.Proofs.YtbldmicpnibnpaaDoor.Pure
