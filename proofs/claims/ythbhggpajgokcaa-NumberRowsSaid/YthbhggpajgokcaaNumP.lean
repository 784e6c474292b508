/- What the printed functions of this seat answer, in plain words. -/
import Derived.Test.YthbhggpajgokcaaXax4
import Derived.Test.YthbhggpajgokcaaNum
namespace Go.Proofs.Ythbhggpajgokcaa.Pure
open Go.RowKit Go.Proofs.Ythbhggpajgokcaa.Xa Go.Proofs.Ythbhggpajgokcaa.Ext Go.Proofs.YthbhggpajgokcaaW.PrintWords Go.Proofs.YthbhggpajgokcaaW.PrintLast
theorem shown20 : transeptlaw01_shown.f 20 = some true := by decide +kernel
theorem shown_f (k : Nat) (hk : 20 ≤ k) : transeptlaw01_shown.f k = some true := at_rounds (g := fun k => transeptlaw01_shown.f k) (fun k => transeptlaw01_shown.mono k) hk shown20
theorem put_l0 : ∀ (n k : Nat) (x0 : List Int), (put n).length < k → x0.length + (put n).length ≤ 140737488355328 → number_Put.l0 k x0 (n : Int) = some (x0 ++ put n) := by
  intro n
  induction n using Nat.strongRecOn with
  | _ n ih =>
    intro k x0 hk hx
    obtain ⟨k, rfl⟩ : ∃ m, k = m + 1 := ⟨k - 1, by omega⟩
    have hp := put_pos n
    simp only [number_Put.l0]
    by_cases hs : n < 128
    · rw [if_neg (by omega), if_pos (by omega), put_small hs, show ((n : Int) % 256) = n by omega]
    · rw [if_pos (by omega), if_pos (by omega), show ((n : Int) / 128) = ((n / 128 : Nat) : Int) by omega]
      rw [put_great (by omega)] at hk hx
      simp only [List.length_cons] at hk hx
      rw [ih (n / 128) (by omega) k _ (by omega) (by simp; omega), put_great (n := n) (by omega), or128 _ (by omega) (by omega)]
      rw [show ((n : Int) % 256 % 128 + 128) = ((n % 128 + 128 : Nat) : Int) by omega]; simp
theorem put_f (k : Nat) (x0 : List Int) (a : Int) (h0 : 0 ≤ a) (h1 : a < 18446744073709551616) (hk : 10 < k) (hx : x0.length ≤ 140737488355000) : number_Put.f k x0 a = some (x0 ++ put a.toNat) := by
  unfold number_Put.f
  have := put_len10 a.toNat (by omega)
  have h := put_l0 a.toNat k x0 (by omega) (by omega)
  rwa [Int.toNat_of_nonneg h0] at h
end Go.Proofs.Ythbhggpajgokcaa.Pure
