/- Texts behind one another are encoded one behind the other. No condition. -/
import Derived.Test.YtpofepfkalighaaXax14
import Derived.Test.YtpofepfkalighaaPctQ
namespace Go.Proofs.Ytpofepfkalighaa.Pure
open Go.RowKit Go.Proofs.Ytpofepfkalighaa.Xa Go.Proofs.Ytpofepfkalighaa.Ext Go.Proofs.YtpofepfkalighaaW.PrintWords Go.Proofs.YtpofepfkalighaaW.PrintLast
theorem decL_append (b : List UInt8) : ∀ a : List UInt8, (∀ i (hi : i < a.length), a.length ≤ i + 2 → a[i] ≠ 37) → decL (a ++ b) = decL a ++ decL b
  | [], _ => rfl
  | [c], h => by
    have h0 : c ≠ 37 := h 0 (by simp) (by simp)
    show decL (c :: b) = _
    rw [decL_eq, if_neg h0]; rfl
  | [c, a], h => by
    have h0 : c ≠ 37 := h 0 (by simp) (by simp)
    have h1 : a ≠ 37 := h 1 (by simp) (by simp)
    show decL (c :: a :: b) = _
    rw [decL_eq, if_neg h0, decL_eq, if_neg h1]; rfl
  | c :: a :: e :: r, h => by
    show decL (c :: a :: e :: (r ++ b)) = _
    rw [decL, decL]
    split
    · rw [decL_append b r (fun i hi hz => by
        have := h (i + 3) (by simp only [List.length_cons]; omega) (by simp only [List.length_cons]; omega)
        simpa using this)]
      rfl
    · have := decL_append b (a :: e :: r) (fun i hi hz => by
        simp only [List.length_cons] at hi hz
        have := h (i + 1) (by simp only [List.length_cons]; omega) (by simp only [List.length_cons]; omega)
        simpa using this)
      show c :: decL ((a :: e :: r) ++ b) = _
      rw [this]; rfl
theorem joins_l0 (n : Int) (a b : List UInt8) (ha : a.length ≤ 500) (hb : b.length ≤ 500) :
    ∀ (d k i : Nat) (o : Bool), i + d = a.length → d < k → (o = false → ∀ j (hj : j < a.length), a.length ≤ j + 2 → j < i → a[j] ≠ 37) →
      transeptlaw06_PercentJoins.l0 k n (S a) (S b) true o i = some true
  | 0, k, i, o, hi, hk, ho => by
    obtain ⟨k, rfl⟩ : ∃ j, k = j + 1 := ⟨k - 1, by omega⟩
    have e1 := encL_len n a
    have e2 := encL_len n b
    have e3 := decL_len a
    have e4 := decL_len b
    have e5 : (a ++ b).length = a.length + b.length := List.length_append
    simp only [transeptlaw06_PercentJoins.l0, S_size, S_append]
    rw [if_neg (by omega)]
    simp only [if_true]
    rw [if_pos (by omega), enc_f n _ (by omega), enc_f n _ (by omega), enc_f n _ (by omega)]
    simp only [Option.bind_some, S_size, S_append, S_toList, encL_append, if_true]
    rw [if_pos (by omega)]
    cases o with
    | true => simp
    | false =>
      simp only [Bool.false_eq_true, if_false]
      rw [dec_f _ (by omega), dec_f _ (by omega), dec_f _ (by omega)]
      simp only [Option.bind_some, S_size, S_append, S_toList]
      rw [if_pos (by omega), decL_append b a (fun j hj hz => ho rfl j hj hz (by omega))]
      simp
  | d + 1, k, i, o, hi, hk, ho => by
    obtain ⟨k, rfl⟩ : ∃ j, k = j + 1 := ⟨k - 1, by omega⟩
    simp only [transeptlaw06_PercentJoins.l0, S_size]
    rw [if_pos (by omega), w64 ((i : Int) + 1) (by omega) (by omega)]
    cases o with
    | true =>
      simp only [if_true]
      exact joins_l0 n a b ha hb d k (i + 1) true (by omega) (by omega) (fun h => by cases h)
    | false =>
      simp only [Bool.false_eq_true, if_false]
      rw [if_pos (by omega), bt_S a i (by omega)]
      refine joins_l0 n a b ha hb d k (i + 1) _ (by omega) (by omega) (fun h j hj hz hji => ?_)
      by_cases e : j = i
      · subst e
        intro h37
        rw [h37] at h
        exact absurd h (by decide)
      · exact ho rfl j hj hz (by omega)
theorem PercentJoins : transeptlaw06_PercentJoins.Pure := by
  intro a0 s t _ _ _
  suffices h : ∀ K : Nat, K = 1000 → transeptlaw06_PercentJoins.f K a0 s t = some true from ⟨_, h _ rfl⟩
  intro K hK
  unfold transeptlaw06_PercentJoins.f
  rw [shown_f]
  obtain ⟨k1, k2, k3⟩ := mn_le (s.size : Int) 500
  have hk : 0 ≤ mn (s.size : Int) 500 := by omega
  generalize mn (s.size : Int) 500 = n at *
  obtain ⟨m1, m2, m3⟩ := mn_le (t.size : Int) 500
  have hm : 0 ≤ mn (t.size : Int) 500 := by omega
  generalize mn (t.size : Int) 500 = m at *
  simp only [Option.bind_some]
  rw [if_pos hk, if_pos k1, if_pos hm, if_pos m1]
  rw [← S_data s, S_extract, List.drop_zero, ← S_data t, S_extract, List.drop_zero]
  have hlen : (s.data.toList.take n.toNat).length ≤ 500 := by rw [List.length_take]; omega
  generalize s.data.toList.take n.toNat = a at *
  have hlen2 : (t.data.toList.take m.toNat).length ≤ 500 := by rw [List.length_take]; omega
  generalize t.data.toList.take m.toNat = b at *
  have hx : mx 0 (wrap64 (((S a).size : Int) - 2)) = ((a.length - 2 : Nat) : Int) := by
    rw [S_size, w64 _ (by omega) (by omega)]; unfold mx; split <;> omega
  rw [hx]
  exact joins_l0 a0 a b hlen hlen2 (a.length - (a.length - 2)) K _ false (by omega) (by omega) (fun _ j hj hz hji => absurd hji (by omega))
end Go.Proofs.Ytpofepfkalighaa.Pure
