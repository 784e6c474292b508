/- Decoded nothing is longer. No condition. -/
import Derived.Test.YtpofepfkalighaaXax17
import Derived.Test.YtpofepfkalighaaPct
namespace Go.Proofs.Ytpofepfkalighaa.Pure
open Go.RowKit Go.Proofs.Ytpofepfkalighaa.Xa Go.Proofs.Ytpofepfkalighaa.Ext Go.Proofs.YtpofepfkalighaaW.PrintWords Go.Proofs.YtpofepfkalighaaW.PrintLast
/-- How many percent signs. -/
def signs : List UInt8 → Nat
  | [] => 0
  | c :: l => (if c = 37 then 1 else 0) + signs l
theorem decL_less : ∀ l : List UInt8, ∃ m : Nat, (decL l).length + 2 * m = l.length ∧ m ≤ signs l ∧ (signs l = 0 → decL l = l)
  | [] => ⟨0, rfl, by simp [signs], fun _ => rfl⟩
  | [c] => ⟨0, rfl, by omega, fun _ => rfl⟩
  | [c, a] => ⟨0, rfl, by omega, fun _ => rfl⟩
  | c :: a :: b :: r => by
    rw [decL]
    split
    · rename_i h
      obtain ⟨m, h1, h2, _⟩ := decL_less r
      refine ⟨m + 1, by simp only [List.length_cons]; omega, ?_, ?_⟩
      · simp only [signs, if_pos h.1]; omega
      · intro hs; simp only [signs, if_pos h.1] at hs; omega
    · obtain ⟨m, h1, h2, h3⟩ := decL_less (a :: b :: r)
      refine ⟨m, by simp only [List.length_cons] at *; omega, by rw [signs]; omega, fun hs => ?_⟩
      rw [signs] at hs
      rw [h3 (by omega)]
theorem signs_drop (l : List UInt8) (i : Nat) (h : i < l.length) : signs (l.drop i) = (if l[i] = 37 then 1 else 0) + signs (l.drop (i + 1)) := by
  rw [List.drop_eq_getElem_cons h, signs]
theorem less_l0 (l t : List UInt8) (hl : l.length ≤ 1000) (m : Nat) (h1 : t.length + 2 * m = l.length) (h2 : m ≤ signs l) (h3 : signs l = 0 → t = l) :
    ∀ (d k i g : Nat), i + d = l.length → d < k → g + signs (l.drop i) = signs l → g ≤ i → transeptlaw06_PercentLess.l0 k (S l) true (S t) g i = some true
  | 0, k, i, g, hi, hk, hg, _ => by
    obtain ⟨k, rfl⟩ : ∃ j, k = j + 1 := ⟨k - 1, by omega⟩
    rw [List.drop_eq_nil_of_le (by omega)] at hg
    simp only [signs] at hg
    simp only [transeptlaw06_PercentLess.l0, S_size]
    rw [if_neg (by omega)]
    simp only [if_true]
    rw [w64 _ (by omega) (by omega), show ((l.length : Int) - (t.length : Int)) = ((2 * m : Nat) : Int) by omega]
    rw [if_pos (by omega), if_pos (by rw [Int.tmod_eq_emod_of_nonneg (by omega)]; omega), Int.tdiv_eq_ediv_of_nonneg (by omega), w64 _ (by omega) (by omega), if_pos (by omega)]
    by_cases hz : (g : Int) > 0
    · rw [if_pos hz]
    · rw [if_neg hz, h3 (by omega)]; simp
  | d + 1, k, i, g, hi, hk, hg, hgi => by
    obtain ⟨k, rfl⟩ : ∃ j, k = j + 1 := ⟨k - 1, by omega⟩
    rw [signs_drop l i (by omega)] at hg
    simp only [transeptlaw06_PercentLess.l0, S_size]
    rw [if_pos (by omega), if_pos (by omega), bt_S l i (by omega), w64 ((i : Int) + 1) (by omega) (by omega)]
    by_cases hc : l[i] = 37
    · rw [if_pos (by rw [hc]; rfl), w64 _ (by omega) (by omega)]
      rw [if_pos hc] at hg
      exact less_l0 l t hl m h1 h2 h3 d k (i + 1) (g + 1) (by omega) (by omega) (by omega) (by omega)
    · rw [if_neg (fun h => hc (UInt8.toNat_inj.1 (by have : (37 : UInt8).toNat = 37 := rfl; omega)))]
      rw [if_neg hc] at hg
      exact less_l0 l t hl m h1 h2 h3 d k (i + 1) g (by omega) (by omega) (by omega) (by omega)
theorem PercentLess : transeptlaw06_PercentLess.Pure := by
  intro s _
  suffices h : ∀ K : Nat, K = 2000 → transeptlaw06_PercentLess.f K s = some true from ⟨_, h _ rfl⟩
  intro K hK
  unfold transeptlaw06_PercentLess.f
  rw [shown_f]
  obtain ⟨k1, k2, k3⟩ := mn_le (s.size : Int) 1000
  have hk : 0 ≤ mn (s.size : Int) 1000 := by omega
  generalize mn (s.size : Int) 1000 = n at *
  simp only [Option.bind_some]
  rw [if_pos hk, if_pos k1]
  rw [← S_data s, S_extract, List.drop_zero]
  have hlen : (s.data.toList.take n.toNat).length ≤ 1000 := by rw [List.length_take]; omega
  generalize s.data.toList.take n.toNat = l at *
  rw [dec_f l (by omega)]
  simp only [Option.bind_some]
  obtain ⟨m, h1, h2, h3⟩ := decL_less l
  exact less_l0 l (decL l) hlen m h1 h2 h3 l.length K 0 0 (by omega) (by omega) (by simp) (by omega)
end Go.Proofs.Ytpofepfkalighaa.Pure
