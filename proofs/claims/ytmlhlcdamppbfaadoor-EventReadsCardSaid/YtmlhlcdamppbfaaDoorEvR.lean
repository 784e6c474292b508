/- The document's answers for an event's writing, in plain words. -/
import Derived.Test.YtmlhlcdamppbfaaDoorXax12
import Derived.Test.YtmlhlcdamppbfaaDoorEvP
namespace Go.Proofs.YtmlhlcdamppbfaaDoor.Pure
open Go.RowKit Go.Proofs.YtmlhlcdamppbfaaDoor.Xa Go.Proofs.YtmlhlcdamppbfaaDoor.Ext Go.Proofs.YtmlhlcdamppbfaaDoorW.PrintWords Go.Proofs.YtmlhlcdamppbfaaDoorW.PrintLast
set_option linter.unusedVariables false
set_option linter.unusedSimpArgs false
theorem strOf_append (a b : List Int) : strOfNums (a ++ b) = strOfNums a ++ strOfNums b := by
  apply ByteArray.ext
  simp [strOfNums]
theorem strOf_size (a : List Int) : (strOfNums a).size = a.length := by simp [strOfNums, ByteArray.size]
/-- The document's number. -/
theorem ref_put : ∀ (n k : Nat), (put n).length < k → n < 18446744073709551616 → transeptref01_Put.f k (n : Int) = some (strOfNums (put n)) := by
  intro n
  induction n using Nat.strongRecOn with
  | _ n ih =>
    intro k hk hn
    obtain ⟨k, rfl⟩ : ∃ m, k = m + 1 := ⟨k - 1, by omega⟩
    simp only [transeptref01_Put.f]
    by_cases hs : n < 128
    · rw [if_pos (by omega), put_small hs, show ((n : Int) % 256) = n by omega]
    · rw [put_great (by omega)] at hk
      simp only [List.length_cons] at hk
      rw [if_neg (by omega), Int.tmod_eq_emod_of_nonneg (by omega), Int.tdiv_eq_ediv_of_nonneg (by omega), u64w _ (by omega) (by omega), u64w _ (by omega) (by omega), show ((n : Int) / 128) = ((n / 128 : Nat) : Int) by omega, ih (n / 128) (by omega) k (by omega) (by omega)]
      simp only [bind_s]
      have hl := put_len10 (n / 128) (by omega)
      rw [if_pos (by rw [strOf_size, strOf_size]; simp; omega), ← strOf_append, put_great (n := n) (by omega), show (((n : Int) % 128 + 128) % 256) = ((n % 128 + 128 : Nat) : Int) by omega]; rfl
theorem ref_put_f (k : Nat) (a : Int) (h0 : 0 ≤ a) (h1 : a < 18446744073709551616) (hk : 10 < k) : transeptref01_Put.f k a = some (strOfNums (put a.toNat)) := by
  have := put_len10 a.toNat (by omega)
  have h := ref_put a.toNat k (by omega) (by omega)
  rwa [Int.toNat_of_nonneg h0] at h
theorem ref_putText (k : Nat) (s : ByteArray) (hk : 10 < k) (hs : s.size ≤ 1000000) : transeptref01_PutText.f k s = some (strOfNums (textB s)) := by
  unfold transeptref01_PutText.f
  have := put_len10 s.size (by omega)
  rw [u64w _ (by omega) (by omega), ref_put_f k _ (by omega) (by omega) hk]
  simp only [bind_s, Int.toNat_natCast]
  rw [if_pos (by rw [strOf_size]; omega), textB, strOf_append, strOf_bytesOf]
/-- A kind's fields, as letters; its numbers' letters. -/
def shp : List ByteArray := [⟨#[45]⟩, ⟨#[116]⟩, ⟨#[116]⟩, ⟨#[116, 116, 116, 116, 52, 51, 51]⟩, ⟨#[116, 116]⟩, ⟨#[]⟩, ⟨#[116, 116]⟩, ⟨#[115]⟩, ⟨#[]⟩, ⟨#[116, 116]⟩, ⟨#[115]⟩, ⟨#[116]⟩, ⟨#[116]⟩, ⟨#[]⟩, ⟨#[52]⟩]
def lets : List ByteArray := [⟨#[]⟩, ⟨#[]⟩, ⟨#[]⟩, ⟨#[52, 51, 51]⟩, ⟨#[]⟩, ⟨#[]⟩, ⟨#[]⟩, ⟨#[115]⟩, ⟨#[]⟩, ⟨#[]⟩, ⟨#[115]⟩, ⟨#[]⟩, ⟨#[]⟩, ⟨#[]⟩, ⟨#[52]⟩]
theorem shape20 : ∀ K : Fin 15, 1 ≤ K.val → transeptref05_Shape.f 20 (K.val : Int) = some (shp.getD K.val ⟨#[]⟩) := by decide +kernel
theorem split20 : ∀ K : Fin 15, 1 ≤ K.val → transeptref05_split.f 20 (shp.getD K.val ⟨#[]⟩) = some (T0 (K.val : Int), lets.getD K.val ⟨#[]⟩) := by decide +kernel
theorem shape_dash : ∀ K : Fin 15, 1 ≤ K.val → (shp.getD K.val ⟨#[]⟩).data.toList ≠ [45] := by decide +kernel
theorem shape_k (k K : Nat) (hk : 20 ≤ k) (h1 : 1 ≤ K) (h2 : K ≤ 14) : transeptref05_Shape.f k (K : Int) = some (shp.getD K ⟨#[]⟩) :=
  at_rounds (g := fun k => transeptref05_Shape.f k (K : Int)) (fun k => transeptref05_Shape.mono _ k) hk (shape20 ⟨K, by omega⟩ h1)
theorem split_k (k K : Nat) (hk : 20 ≤ k) (h1 : 1 ≤ K) (h2 : K ≤ 14) : transeptref05_split.f k (shp.getD K ⟨#[]⟩) = some (T0 (K : Int), lets.getD K ⟨#[]⟩) :=
  at_rounds (g := fun k => transeptref05_split.f k (shp.getD K ⟨#[]⟩)) (fun k => transeptref05_split.mono _ k) hk (split20 ⟨K, by omega⟩ h1)
theorem shape_no (k : Nat) (a : Int) (h : ¬ (1 ≤ a ∧ a ≤ 14)) : transeptref05_Shape.f (k + 1 + 1 + 1) a = some ⟨#[45]⟩ := by
  have n : ∀ m : Int, 1 ≤ m → m ≤ 14 → a ≠ m := fun m h1 h2 e => h (by omega)
  have b : ∀ m : Int, 1 ≤ m → m ≤ 14 → (a == m) = false := fun m h1 h2 => by rw [beq_eq_false_iff_ne]; exact n m h1 h2
  unfold transeptref05_Shape.f
  rw [if_neg (n 1 (by omega) (by omega)), if_neg (n 2 (by omega) (by omega)), if_neg (n 11 (by omega) (by omega)), b 12 (by omega) (by omega)]
  rw [transeptref05_Shape.j0, if_neg (by decide), if_neg (n 3 (by omega) (by omega)), if_neg (n 4 (by omega) (by omega)), if_neg (n 6 (by omega) (by omega)), b 9 (by omega) (by omega)]
  rw [transeptref05_Shape.j1, if_neg (by decide), if_neg (n 7 (by omega) (by omega)), b 10 (by omega) (by omega)]
  rw [transeptref05_Shape.j2, if_neg (by decide), if_neg (n 14 (by omega) (by omega)), if_neg (n 5 (by omega) (by omega)), if_neg (n 8 (by omega) (by omega)), if_neg (n 13 (by omega) (by omega))]
theorem most_tab : ∀ (K : Fin 15) (i : Fin 3), if (i.val : Int) < ((lets.getD K.val ⟨#[]⟩).size : Int) then transeptref05_most.f (bt (lets.getD K.val ⟨#[]⟩) (i.val : Int)) = some (TN (K.val : Int) i.val - 1) ∧ 0 < TN (K.val : Int) i.val else TN (K.val : Int) i.val = 0 := by decide +kernel
theorem right_l1 (k : Nat) (L : ByteArray) (xs : List Int) (i : Nat) (m : Int) (hi : i < 3) (hx : xs.length = 3) (hm : if (i : Int) < (L.size : Int) then transeptref05_most.f (bt L (i : Int)) = some (m - 1) ∧ 0 < m else m = 0) :
    transeptref05_Right.l1 (k + 1) L xs (i : Int) = if numOk m (rd xs (i : Int)) then transeptref05_Right.l1 k L xs ((i + 1 : Nat) : Int) else some false := by
  rw [transeptref05_Right.l1, if_pos (show (i : Int) < 3 by omega), w64 ((i : Int) + 1) (by omega) (by omega), show ((i : Int) + 1) = ((i + 1 : Nat) : Int) by omega]
  generalize rd xs (i : Int) = x
  by_cases hl : (i : Int) < (L.size : Int)
  · rw [if_pos hl] at hm
    obtain ⟨h1, h2⟩ := hm
    rw [if_pos hl, if_pos (show (0 : Int) ≤ i by omega), h1, bind_s, if_pos (show (i : Int) < (xs.length : Int) by omega)]
    by_cases h0 : x < 0
    · rw [if_pos h0, numOk_F (.inl h0)]; rfl
    · rw [if_neg h0]
      by_cases h3 : x > m - 1
      · rw [if_pos h3, numOk_F (.inr (by split <;> omega))]; rfl
      · rw [if_neg h3, numOk_T ⟨by omega, by split <;> omega⟩]; rfl
  · rw [if_neg hl] at hm
    subst hm
    rw [if_neg hl, if_pos (show (0 : Int) ≤ i by omega), if_pos (show (i : Int) < (xs.length : Int) by omega)]
    by_cases h0 : x < 0
    · rw [if_pos h0, numOk_F (.inl h0)]; rfl
    · rw [if_neg h0]
      by_cases h3 : x > 0
      · rw [if_pos h3, numOk_F (.inr (by split <;> omega))]; rfl
      · rw [if_neg h3, numOk_T ⟨by omega, by split <;> omega⟩]; rfl
theorem right_l0 (k : Nat) (T : Int) (L : ByteArray) (ts : List ByteArray) (i : Nat) (hi : i < 4) (hx : ts.length = 4) (a0 a1 a2 : Int) (a3 a4 a5 a6 : ByteArray) (a7 a8 a9 : Int) :
    transeptref05_Right.l0 (k + 1) T L ts (i : Int) a0 a1 a2 a3 a4 a5 a6 a7 a8 a9 = if textOk T (i : Int) (rdOf ByteArray.empty ts (i : Int)) then transeptref05_Right.l0 k T L ts ((i + 1 : Nat) : Int) a0 a1 a2 a3 a4 a5 a6 a7 a8 a9 else some false := by
  rw [transeptref05_Right.l0, if_pos (show (i : Int) < 4 by omega), w64 ((i : Int) + 1) (by omega) (by omega), show ((i : Int) + 1) = ((i + 1 : Nat) : Int) by omega, if_pos (show (0 : Int) ≤ i by omega), if_pos (show (i : Int) < (ts.length : Int) by omega)]
  generalize rdOf ByteArray.empty ts (i : Int) = s
  by_cases h0 : (s.size : Int) > 4096
  · rw [if_pos h0, textOk_c h0]; rfl
  · rw [if_neg h0]
    by_cases h1 : (i : Int) ≥ T
    · rw [if_pos h1]
      by_cases h2 : s.toList = []
      · rw [if_pos h2, textOk_b ⟨by omega, by simp [h2]⟩]; rfl
      · rw [if_neg h2, textOk_d h1 (.inr (by simpa using h2))]; rfl
    · rw [if_neg h1, textOk_a (by omega) (by omega)]; rfl
theorem rdOf4 (a b c d : ByteArray) : rdOf ByteArray.empty [a, b, c, d] ((0 : Nat) : Int) = a ∧ rdOf ByteArray.empty [a, b, c, d] ((1 : Nat) : Int) = b ∧ rdOf ByteArray.empty [a, b, c, d] ((2 : Nat) : Int) = c ∧ rdOf ByteArray.empty [a, b, c, d] ((3 : Nat) : Int) = d := ⟨rfl, rfl, rfl, rfl⟩
theorem rd3 (a b c : Int) : rd [a, b, c] ((0 : Nat) : Int) = a ∧ rd [a, b, c] ((1 : Nat) : Int) = b ∧ rd [a, b, c] ((2 : Nat) : Int) = c := ⟨rfl, rfl, rfl⟩
/-- The document's answer to whether an event may be is the program's. -/
theorem ref_right (k : Nat) (n : Ev) : transeptref05_Right.f (k + 40) n.1 n.2.1 n.2.2.1 n.2.2.2.1 n.2.2.2.2.1 n.2.2.2.2.2.1 n.2.2.2.2.2.2.1 n.2.2.2.2.2.2.2.1 n.2.2.2.2.2.2.2.2.1 n.2.2.2.2.2.2.2.2.2 = some (right n) := by
  obtain ⟨a0, a1, a2, a3, a4, a5, a6, a7, a8, a9⟩ := n
  show transeptref05_Right.f (k + 40) a0 a1 a2 a3 a4 a5 a6 a7 a8 a9 = some (rightF a0 a2 a3 a4 a5 a6 a7 a8 a9)
  unfold transeptref05_Right.f
  by_cases hk : 1 ≤ a0 ∧ a0 ≤ 14
  · obtain ⟨K, rfl⟩ := Int.eq_ofNat_of_zero_le (show 0 ≤ a0 by omega)
    have hK1 : 1 ≤ K := by omega
    have hK2 : K ≤ 14 := by omega
    rw [shape_k (k + 40) K (by omega) hK1 hK2, bind_s, if_neg (by rw [ByteArray.toList_eq]; exact shape_dash ⟨K, by omega⟩ hK1)]
    have hj : ∀ b : Bool, transeptref05_Right.j0 (k + 40) (shp.getD K ⟨#[]⟩) b (K : Int) a1 a2 a3 a4 a5 a6 a7 a8 a9 = if b then some false else some ((textOk (T0 (K : Int)) 0 a3 && textOk (T0 (K : Int)) 1 a4 && textOk (T0 (K : Int)) 2 a5 && textOk (T0 (K : Int)) 3 a6) && (numOk (TN (K : Int) 0) a7 && numOk (TN (K : Int) 1) a8 && numOk (TN (K : Int) 2) a9)) := fun b => by
      rw [show k + 40 = (k + 30 + 1 + 1 + 1 + 1 + 1 + 1 + 1 + 1 + 1) + 1 from rfl, transeptref05_Right.j0]
      cases b with
      | true => rfl
      | false =>
        rw [if_neg (by decide), split_k _ K (by omega) hK1 hK2, bind_s]
        obtain ⟨r0, r1, r2, r3⟩ := rdOf4 a3 a4 a5 a6
        obtain ⟨q0, q1, q2⟩ := rd3 a7 a8 a9
        have s0 := right_l0 (k + 30 + 1 + 1 + 1 + 1 + 1 + 1 + 1 + 1) (T0 (K : Int)) (lets.getD K ⟨#[]⟩) [a3, a4, a5, a6] 0 (by omega) rfl (K : Int) a1 a2 a3 a4 a5 a6 a7 a8 a9
        have s1 := right_l0 (k + 30 + 1 + 1 + 1 + 1 + 1 + 1 + 1) (T0 (K : Int)) (lets.getD K ⟨#[]⟩) [a3, a4, a5, a6] 1 (by omega) rfl (K : Int) a1 a2 a3 a4 a5 a6 a7 a8 a9
        have s2 := right_l0 (k + 30 + 1 + 1 + 1 + 1 + 1 + 1) (T0 (K : Int)) (lets.getD K ⟨#[]⟩) [a3, a4, a5, a6] 2 (by omega) rfl (K : Int) a1 a2 a3 a4 a5 a6 a7 a8 a9
        have s3 := right_l0 (k + 30 + 1 + 1 + 1 + 1 + 1) (T0 (K : Int)) (lets.getD K ⟨#[]⟩) [a3, a4, a5, a6] 3 (by omega) rfl (K : Int) a1 a2 a3 a4 a5 a6 a7 a8 a9
        have s4 : transeptref05_Right.l0 (k + 30 + 1 + 1 + 1 + 1 + 1) (T0 (K : Int)) (lets.getD K ⟨#[]⟩) [a3, a4, a5, a6] ((3 + 1 : Nat) : Int) (K : Int) a1 a2 a3 a4 a5 a6 a7 a8 a9 = transeptref05_Right.l1 (k + 30 + 1 + 1 + 1 + 1) (lets.getD K ⟨#[]⟩) [a7, a8, a9] ((0 : Nat) : Int) := by
          rw [transeptref05_Right.l0, if_neg (by decide)]; rfl
        have u0 := right_l1 (k + 30 + 1 + 1 + 1) (lets.getD K ⟨#[]⟩) [a7, a8, a9] 0 (TN (K : Int) 0) (by omega) rfl (most_tab ⟨K, by omega⟩ 0)
        have u1 := right_l1 (k + 30 + 1 + 1) (lets.getD K ⟨#[]⟩) [a7, a8, a9] 1 (TN (K : Int) 1) (by omega) rfl (most_tab ⟨K, by omega⟩ 1)
        have u2 := right_l1 (k + 30 + 1) (lets.getD K ⟨#[]⟩) [a7, a8, a9] 2 (TN (K : Int) 2) (by omega) rfl (most_tab ⟨K, by omega⟩ 2)
        have u3 : transeptref05_Right.l1 (k + 30 + 1) (lets.getD K ⟨#[]⟩) [a7, a8, a9] ((2 + 1 : Nat) : Int) = some true := by
          rw [transeptref05_Right.l1, if_neg (by decide)]
        rw [r0] at s0
        rw [r1] at s1
        rw [r2] at s2
        rw [r3] at s3
        rw [q0] at u0
        rw [q1] at u1
        rw [q2] at u2
        show transeptref05_Right.l0 (k + 30 + 1 + 1 + 1 + 1 + 1 + 1 + 1 + 1 + 1) _ _ _ ((0 : Nat) : Int) _ _ _ _ _ _ _ _ _ _ = _
        rw [s0, s1, s2, s3, s4, u0, u1, u2, u3]
        rw [show ((0 : Nat) : Int) = 0 from rfl, show ((1 : Nat) : Int) = 1 from rfl, show ((2 : Nat) : Int) = 2 from rfl, show ((3 : Nat) : Int) = 3 from rfl]
        clear s0 s1 s2 s3 s4 u0 u1 u2 u3
        generalize textOk (T0 (K : Int)) 0 a3 = t0
        generalize textOk (T0 (K : Int)) 1 a4 = t1
        generalize textOk (T0 (K : Int)) 2 a5 = t2
        generalize textOk (T0 (K : Int)) 3 a6 = t3
        generalize numOk (TN (K : Int) 0) a7 = m0
        generalize numOk (TN (K : Int) 1) a8 = m1
        generalize numOk (TN (K : Int) 2) a9 = m2
        cases t0 <;> cases t1 <;> cases t2 <;> cases t3 <;> cases m0 <;> cases m1 <;> cases m2 <;> rfl
    have hf : ∀ R : Bool, (if ((decide ((K : Int) = 1) || decide ((K : Int) = 2)) != (a2 == 0)) then some false else some R) = some ((decide (1 ≤ (K : Int)) && decide ((K : Int) ≤ 14) && ((decide ((K : Int) = 1) || decide ((K : Int) = 2)) == decide (a2 = 0))) && R) := fun R => by
      rw [decide_eq_true hk.1, decide_eq_true hk.2, show (a2 == 0) = decide (a2 = 0) from rfl]
      generalize (decide ((K : Int) = 1) || decide ((K : Int) = 2)) = x
      generalize decide (a2 = 0) = y
      cases x <;> cases y <;> rfl
    have hfin := hf ((textOk (T0 (K : Int)) 0 a3 && textOk (T0 (K : Int)) 1 a4 && textOk (T0 (K : Int)) 2 a5 && textOk (T0 (K : Int)) 3 a6) && (numOk (TN (K : Int) 0) a7 && numOk (TN (K : Int) 1) a8 && numOk (TN (K : Int) 2) a9))
    by_cases e1 : (K : Int) = 1
    · rw [if_pos e1, hj]
      rw [decide_eq_true e1, Bool.true_or] at hfin
      rw [hfin]
      unfold rightF
      rw [decide_eq_true e1, Bool.true_or]
      simp only [Bool.and_assoc]
    · rw [if_neg e1, hj]
      rw [decide_eq_false e1, Bool.false_or, show decide ((K : Int) = 2) = ((K : Int) == 2) from rfl] at hfin
      rw [hfin]
      unfold rightF
      rw [decide_eq_false e1, Bool.false_or, show decide ((K : Int) = 2) = ((K : Int) == 2) from rfl]
      simp only [Bool.and_assoc]
  · rw [show k + 40 = (k + 37) + 1 + 1 + 1 from rfl, shape_no (k + 37) a0 hk, bind_s, if_pos (by rw [ByteArray.toList_eq])]
    unfold rightF
    have : (decide (1 ≤ a0) && decide (a0 ≤ 14)) = false := by simp; omega
    rw [this]; rfl
theorem letter_tab : ∀ (K : Fin 15) (i : Fin 3), (i.val : Int) < ((lets.getD K.val ⟨#[]⟩).size : Int) → (bt (lets.getD K.val ⟨#[]⟩) (i.val : Int) = 115 ↔ 256 < TN (K.val : Int) i.val) := by decide +kernel
theorem write_l1 (k : Nat) (x3 : ByteArray) (L : ByteArray) (xs : List Int) (i : Nat) (m : Int) (hi : i < 3) (hx : xs.length = 3) (hz : x3.size ≤ 1000000) (hl : (i : Int) < (L.size : Int)) (hm : 0 < m) (hm2 : m ≤ 1000) (hb : bt L (i : Int) = 115 ↔ 256 < m) (h0 : 0 ≤ rd xs (i : Int)) (h1 : rd xs (i : Int) < m) :
    transeptref05_Write.l1 (k + 1) x3 L xs (i : Int) = transeptref05_Write.l1 k (x3 ++ strOfNums (numB m (rd xs (i : Int)))) L xs ((i + 1 : Nat) : Int) := by
  rw [transeptref05_Write.l1, if_pos hl, if_pos (show (0 : Int) ≤ i by omega), w64 ((i : Int) + 1) (by omega) (by omega), show ((i : Int) + 1) = ((i + 1 : Nat) : Int) by omega]
  generalize hxx : rd xs (i : Int) = x at *
  rw [Int.tdiv_eq_ediv_of_nonneg h0, Int.tmod_eq_emod_of_nonneg h0, w64 (x / 256) (by omega) (by omega)]
  unfold numB
  by_cases hs : bt L (i : Int) = 115
  · rw [if_pos hs, if_pos (show (i : Int) < (xs.length : Int) by omega), bind_s, if_pos (by rw [strOf_size]; simp only [List.length_singleton]; omega), bind_s, if_pos (by rw [ByteArray.size_append, strOf_size, strOf_size]; simp only [List.length_singleton]; omega), if_pos (hb.1 hs), if_pos hm, strOf_append, ByteArray.append_assoc, show x % 256 % 256 = x % 256 by omega]
  · rw [if_neg hs, if_pos (show (i : Int) < (xs.length : Int) by omega), bind_s, if_pos (by rw [strOf_size]; simp only [List.length_singleton]; omega), if_neg (fun h => hs (hb.2 h)), if_pos hm, List.nil_append, show x % 256 % 256 = x % 256 by omega]
theorem write_l0 (k : Nat) (x3 : ByteArray) (T : Int) (L : ByteArray) (ts : List ByteArray) (i : Nat) (hi : (i : Int) < T) (hk : 10 < k) (hT : T ≤ 4) (hx : ts.length = 4) (hz : x3.size ≤ 1000000) (hs : (rdOf ByteArray.empty ts (i : Int)).size ≤ 1000000) (a0 a1 a2 : Int) (a3 a4 a5 a6 : ByteArray) (a7 a8 a9 : Int) :
    transeptref05_Write.l0 (k + 1) x3 T L ts (i : Int) a0 a1 a2 a3 a4 a5 a6 a7 a8 a9 = transeptref05_Write.l0 k (x3 ++ strOfNums (textB (rdOf ByteArray.empty ts (i : Int)))) T L ts ((i + 1 : Nat) : Int) a0 a1 a2 a3 a4 a5 a6 a7 a8 a9 := by
  rw [transeptref05_Write.l0, if_pos hi, if_pos (show (0 : Int) ≤ i by omega), if_pos (show (i : Int) < (ts.length : Int) by omega), w64 ((i : Int) + 1) (by omega) (by omega), show ((i : Int) + 1) = ((i + 1 : Nat) : Int) by omega, ref_putText k _ hk hs, bind_s]
  have hl : (textB (rdOf ByteArray.empty ts (i : Int))).length ≤ 1000010 := by
    have := put_len10 (rdOf ByteArray.empty ts (i : Int)).size (by omega)
    unfold textB; rw [List.length_append, bytesOf_length]; omega
  rw [if_pos (by rw [strOf_size]; omega)]
theorem strOf_nil (x : ByteArray) : x ++ strOfNums [] = x := by
  apply ByteArray.ext
  simp [strOfNums]
theorem write_nums (k : Nat) (x3 : ByteArray) (K : Nat) (h1 : 1 ≤ K) (h2 : K ≤ 14) (x y z : Int) (hz : x3.size ≤ 100000) (hv : numsV (K : Int) (x, y, z)) :
    transeptref05_Write.l1 (k + 10) x3 (lets.getD K ⟨#[]⟩) [x, y, z] 0 = some (x3 ++ strOfNums (numsE (K : Int) (x, y, z))) := by
  obtain ⟨v0, v1, v2⟩ := hv
  simp only at v0 v1 v2
  have hn : ∀ (m v : Int), (strOfNums (numB m v)).size ≤ 2 := fun m v => by rw [strOf_size]; exact numB_len m v
  have hc : ∀ i : Fin 15, (lets.getD i.val ⟨#[]⟩).size = 0 ∧ TN (i.val : Int) 0 = 0 ∧ TN (i.val : Int) 1 = 0 ∧ TN (i.val : Int) 2 = 0 ∨ (lets.getD i.val ⟨#[]⟩).size = 1 ∧ 0 < TN (i.val : Int) 0 ∧ TN (i.val : Int) 1 = 0 ∧ TN (i.val : Int) 2 = 0 ∨ (lets.getD i.val ⟨#[]⟩).size = 3 ∧ 0 < TN (i.val : Int) 0 ∧ 0 < TN (i.val : Int) 1 ∧ 0 < TN (i.val : Int) 2 := by decide +kernel
  have tn : ∀ (i : Fin 15) (j : Fin 3), TN (i.val : Int) j.val ≤ 1000 := by decide +kernel
  obtain ⟨q0, q1, q2⟩ := rd3 x y z
  have l0 := letter_tab ⟨K, by omega⟩ 0
  have l1 := letter_tab ⟨K, by omega⟩ 1
  have l2 := letter_tab ⟨K, by omega⟩ 2
  have t0 := tn ⟨K, by omega⟩ 0
  have t1 := tn ⟨K, by omega⟩ 1
  have t2 := tn ⟨K, by omega⟩ 2
  simp only [Fin.isValue, Fin.val_zero, Fin.val_one, Fin.val_two] at l0 l1 l2 t0 t1 t2
  unfold numsE
  rcases hc ⟨K, by omega⟩ with ⟨c, e0, e1, e2⟩ | ⟨c, e0, e1, e2⟩ | ⟨c, e0, e1, e2⟩
  · simp only [] at c e0 e1 e2
    rw [show k + 10 = (k + 9) + 1 from rfl, transeptref05_Write.l1, if_neg (by rw [c]; omega), if_neg (by omega), if_neg (by omega), if_neg (by omega)]
    simp only [List.append_nil]
    rw [strOf_nil]
  · simp only [] at c e0 e1 e2
    rw [if_pos e0] at v0
    have s0 := write_l1 (k + 9) x3 (lets.getD K ⟨#[]⟩) [x, y, z] 0 (TN (K : Int) 0) (by omega) rfl (by omega) (by rw [c]; omega) e0 t0 (l0 (by rw [c]; omega)) (by rw [q0]; exact v0.1) (by rw [q0]; exact v0.2)
    rw [q0] at s0
    show transeptref05_Write.l1 (k + 9 + 1) _ _ _ ((0 : Nat) : Int) = _
    rw [s0, show k + 9 = (k + 8) + 1 from rfl, transeptref05_Write.l1, if_neg (by rw [c]; omega), if_pos e0, if_neg (by omega), if_neg (by omega)]
    simp
  · simp only [] at c e0 e1 e2
    rw [if_pos e0] at v0
    rw [if_pos e1] at v1
    rw [if_pos e2] at v2
    have z0 := hn (TN (K : Int) 0) x
    have z1 := hn (TN (K : Int) 1) y
    have s0 := write_l1 (k + 9) x3 (lets.getD K ⟨#[]⟩) [x, y, z] 0 (TN (K : Int) 0) (by omega) rfl (by omega) (by rw [c]; omega) e0 t0 (l0 (by rw [c]; omega)) (by rw [q0]; exact v0.1) (by rw [q0]; exact v0.2)
    have s1 := write_l1 (k + 8) (x3 ++ strOfNums (numB (TN (K : Int) 0) x)) (lets.getD K ⟨#[]⟩) [x, y, z] 1 (TN (K : Int) 1) (by omega) rfl (by rw [ByteArray.size_append]; omega) (by rw [c]; omega) e1 t1 (l1 (by rw [c]; omega)) (by rw [q1]; exact v1.1) (by rw [q1]; exact v1.2)
    have s2 := write_l1 (k + 7) (x3 ++ strOfNums (numB (TN (K : Int) 0) x) ++ strOfNums (numB (TN (K : Int) 1) y)) (lets.getD K ⟨#[]⟩) [x, y, z] 2 (TN (K : Int) 2) (by omega) rfl (by rw [ByteArray.size_append, ByteArray.size_append]; omega) (by rw [c]; omega) e2 t2 (l2 (by rw [c]; omega)) (by rw [q2]; exact v2.1) (by rw [q2]; exact v2.2)
    rw [q0] at s0
    rw [q1] at s1
    rw [q2] at s2
    show transeptref05_Write.l1 (k + 9 + 1) _ _ _ ((0 : Nat) : Int) = _
    rw [s0, show k + 9 = (k + 8) + 1 from rfl, s1, show k + 8 = (k + 7) + 1 from rfl, s2, show k + 7 = (k + 6) + 1 from rfl, transeptref05_Write.l1, if_neg (by rw [c]; omega), if_pos e0, if_pos e1, if_pos e2]
    rw [strOf_append, strOf_append, ByteArray.append_assoc, ByteArray.append_assoc]
theorem write_stop (k : Nat) (x3 : ByteArray) (T : Int) (L : ByteArray) (ts : List ByteArray) (i : Nat) (hi : T ≤ (i : Int)) (a0 a1 a2 : Int) (a3 a4 a5 a6 : ByteArray) (a7 a8 a9 : Int) :
    transeptref05_Write.l0 (k + 1) x3 T L ts (i : Int) a0 a1 a2 a3 a4 a5 a6 a7 a8 a9 = transeptref05_Write.l1 k x3 L [a7, a8, a9] 0 := by
  rw [transeptref05_Write.l0, if_neg (by omega)]
theorem write_texts (k : Nat) (x3 : ByteArray) (K : Nat) (h1 : 1 ≤ K) (h2 : K ≤ 14) (a0 a1 a2 : Int) (A B C D : ByteArray) (x y z : Int) (hz : x3.size ≤ 1000) (hv : txtsV (K : Int) (A, B, C, D, x, y, z)) :
    transeptref05_Write.l0 (k + 40) x3 (T0 (K : Int)) (lets.getD K ⟨#[]⟩) [A, B, C, D] 0 a0 a1 a2 A B C D x y z = some (x3 ++ strOfNums (txtsE (K : Int) (A, B, C, D, x, y, z))) := by
  obtain ⟨v0, v1, v2, v3, vn⟩ := hv
  simp only at v0 v1 v2 v3 vn
  obtain ⟨r0, r1, r2, r3⟩ := rdOf4 A B C D
  have ht : ∀ s : ByteArray, (s.size : Int) ≤ 4096 → (strOfNums (textB s)).size ≤ 4106 := fun s h => by rw [strOf_size]; exact textB_len s h
  have st := fun (j : Nat) (X : ByteArray) (i : Nat) (h : (i : Int) < T0 (K : Int)) (hk : 10 < j) (hX : X.size ≤ 1000000) (hs : (rdOf ByteArray.empty [A, B, C, D] (i : Int)).size ≤ 1000000) =>
    write_l0 j X (T0 (K : Int)) (lets.getD K ⟨#[]⟩) [A, B, C, D] i h hk (by rcases T0_cases (K : Int) with e | e | e | e <;> omega) rfl hX hs a0 a1 a2 A B C D x y z
  have wn := fun (j : Nat) (X : ByteArray) (hX : X.size ≤ 100000) => write_nums j X K h1 h2 x y z hX vn
  unfold txtsE oE
  rcases T0_cases (K : Int) with e | e | e | e
  · simp only [e] at *
    have s := write_stop (k + 39) x3 0 (lets.getD K ⟨#[]⟩) [A, B, C, D] 0 (by omega) a0 a1 a2 A B C D x y z
    rw [show ((0 : Nat) : Int) = 0 from rfl] at s
    rw [show k + 40 = (k + 39) + 1 from rfl, s, show k + 39 = (k + 29) + 10 from rfl, wn _ _ (by omega)]
    simp
  · simp only [e] at *
    have hA : (A.size : Int) ≤ 4096 := by simpa [oV] using v0
    have tA := ht A hA
    have s0 := st (k + 39) x3 0 (by omega) (by omega) (by omega) (by rw [r0]; omega)
    rw [r0] at s0
    have s := write_stop (k + 38) (x3 ++ strOfNums (textB A)) 1 (lets.getD K ⟨#[]⟩) [A, B, C, D] 1 (by omega) a0 a1 a2 A B C D x y z
    rw [show ((0 : Nat) : Int) = 0 from rfl] at s0
    rw [show k + 40 = (k + 39) + 1 from rfl, s0, show k + 39 = (k + 38) + 1 from rfl, s, show k + 38 = (k + 28) + 10 from rfl, wn _ _ (by rw [ByteArray.size_append]; omega)]
    simp [strOf_append, ByteArray.append_assoc]
  · simp only [e] at *
    have hA : (A.size : Int) ≤ 4096 := by simpa [oV] using v0
    have hB : (B.size : Int) ≤ 4096 := by simpa [oV] using v1
    have tA := ht A hA
    have tB := ht B hB
    have s0 := st (k + 39) x3 0 (by omega) (by omega) (by omega) (by rw [r0]; omega)
    have s1 := st (k + 38) (x3 ++ strOfNums (textB A)) 1 (by omega) (by omega) (by rw [ByteArray.size_append]; omega) (by rw [r1]; omega)
    rw [r0] at s0
    rw [r1] at s1
    have s := write_stop (k + 37) (x3 ++ strOfNums (textB A) ++ strOfNums (textB B)) 2 (lets.getD K ⟨#[]⟩) [A, B, C, D] 2 (by omega) a0 a1 a2 A B C D x y z
    rw [show ((0 : Nat) : Int) = 0 from rfl] at s0
    rw [show k + 40 = (k + 39) + 1 from rfl, s0, show k + 39 = (k + 38) + 1 from rfl, s1, show k + 38 = (k + 37) + 1 from rfl, s, show k + 37 = (k + 27) + 10 from rfl, wn _ _ (by rw [ByteArray.size_append, ByteArray.size_append]; omega)]
    simp [strOf_append, ByteArray.append_assoc]
  · simp only [e] at *
    have hA : (A.size : Int) ≤ 4096 := by simpa [oV] using v0
    have hB : (B.size : Int) ≤ 4096 := by simpa [oV] using v1
    have hC : (C.size : Int) ≤ 4096 := by simpa [oV] using v2
    have hD : (D.size : Int) ≤ 4096 := by simpa [oV] using v3
    have tA := ht A hA
    have tB := ht B hB
    have tC := ht C hC
    have tD := ht D hD
    have s0 := st (k + 39) x3 0 (by omega) (by omega) (by omega) (by rw [r0]; omega)
    have s1 := st (k + 38) (x3 ++ strOfNums (textB A)) 1 (by omega) (by omega) (by rw [ByteArray.size_append]; omega) (by rw [r1]; omega)
    have s2 := st (k + 37) (x3 ++ strOfNums (textB A) ++ strOfNums (textB B)) 2 (by omega) (by omega) (by rw [ByteArray.size_append, ByteArray.size_append]; omega) (by rw [r2]; omega)
    have s3 := st (k + 36) (x3 ++ strOfNums (textB A) ++ strOfNums (textB B) ++ strOfNums (textB C)) 3 (by omega) (by omega) (by rw [ByteArray.size_append, ByteArray.size_append, ByteArray.size_append]; omega) (by rw [r3]; omega)
    rw [r0] at s0
    rw [r1] at s1
    rw [r2] at s2
    rw [r3] at s3
    have s := write_stop (k + 35) (x3 ++ strOfNums (textB A) ++ strOfNums (textB B) ++ strOfNums (textB C) ++ strOfNums (textB D)) 4 (lets.getD K ⟨#[]⟩) [A, B, C, D] 4 (by omega) a0 a1 a2 A B C D x y z
    rw [show ((0 : Nat) : Int) = 0 from rfl] at s0
    rw [show k + 40 = (k + 39) + 1 from rfl, s0, show k + 39 = (k + 38) + 1 from rfl, s1, show k + 38 = (k + 37) + 1 from rfl, s2, show k + 37 = (k + 36) + 1 from rfl, s3, show k + 36 = (k + 35) + 1 from rfl, s, show k + 35 = (k + 25) + 10 from rfl, wn _ _ (by rw [ByteArray.size_append, ByteArray.size_append, ByteArray.size_append, ByteArray.size_append]; omega)]
    simp [strOf_append, ByteArray.append_assoc]
/-- The document's bytes are the program's. -/
theorem ref_write (k : Nat) (n : Ev) (hv : evV n) : transeptref05_Write.f (k + 60) n.1 n.2.1 n.2.2.1 n.2.2.2.1 n.2.2.2.2.1 n.2.2.2.2.2.1 n.2.2.2.2.2.2.1 n.2.2.2.2.2.2.2.1 n.2.2.2.2.2.2.2.2.1 n.2.2.2.2.2.2.2.2.2 = some (strOfNums (evE n)) := by
  obtain ⟨a0, a1, a2, A, B, C, D, x, y, z⟩ := n
  obtain ⟨⟨h1, h2⟩, ⟨h3, h4⟩, ⟨_, h5, h6⟩, ht⟩ := hv
  simp only at h1 h2 h3 h4 h5 h6 ht
  show transeptref05_Write.f (k + 60) a0 a1 a2 A B C D x y z = some (strOfNums (evE (a0, a1, a2, A, B, C, D, x, y, z)))
  obtain ⟨K, rfl⟩ := Int.eq_ofNat_of_zero_le (show 0 ≤ a0 by omega)
  have hK1 : 1 ≤ K := by omega
  have hK2 : K ≤ 14 := by omega
  have p1 := put_len10 a1.toNat (by omega)
  have p2 := put_len10 a2.toNat (by omega)
  have z1 : (strOfNums [(K : Int) % 256]).size = 1 := by rw [strOf_size]; rfl
  have z2 : (strOfNums (put a1.toNat)).size ≤ 10 := by rw [strOf_size]; exact p1
  have z3 : (strOfNums (put a2.toNat)).size ≤ 10 := by rw [strOf_size]; exact p2
  unfold transeptref05_Write.f
  rw [bind_s, ref_put_f _ a1 h3 h4 (by omega), bind_s, if_pos (by omega), ref_put_f _ a2 h5 h6 (by omega), bind_s, if_pos (by rw [ByteArray.size_append]; omega), shape_k _ K (by omega) hK1 hK2, bind_s, split_k _ K (by omega) hK1 hK2, bind_s]
  rw [show k + 60 = (k + 20) + 40 from rfl, write_texts _ _ K hK1 hK2 _ _ _ A B C D x y z (by rw [ByteArray.size_append, ByteArray.size_append]; omega) ht]
  unfold evE
  simp only [strOf_append, ByteArray.append_assoc, show (K : Int) % 256 = K by omega]
theorem ref_encode (k : Nat) (n : Ev) (hu : u64s n) : transeptref05_Encode.f (k + 60) n.1 n.2.1 n.2.2.1 n.2.2.2.1 n.2.2.2.2.1 n.2.2.2.2.2.1 n.2.2.2.2.2.2.1 n.2.2.2.2.2.2.2.1 n.2.2.2.2.2.2.2.2.1 n.2.2.2.2.2.2.2.2.2 = some (strOfNums (if right n then evE n else []), if right n then 0 else 1) := by
  unfold transeptref05_Encode.f
  rw [show k + 60 = (k + 20) + 40 from rfl, ref_right, bind_s]
  cases hr : right n with
  | false => rfl
  | true =>
    rw [if_pos rfl, show k + 20 + 40 = k + 60 from rfl, ref_write k n ((right_iff n hu).1 hr), bind_s]; rfl
end Go.Proofs.YtmlhlcdamppbfaaDoor.Pure
