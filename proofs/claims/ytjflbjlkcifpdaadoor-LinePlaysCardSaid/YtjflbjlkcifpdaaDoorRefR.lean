/- The document's answer to whether an event may be is the program's. -/
import Derived.Test.YtjflbjlkcifpdaaDoorLineE
import Derived.Test.YtjflbjlkcifpdaaDoorXax22
namespace Go.Proofs.YtjflbjlkcifpdaaDoor.Pure
open Go.RowKit Go.Proofs.YtjflbjlkcifpdaaDoor.Xa Go.Proofs.YtjflbjlkcifpdaaDoor.Ext Go.Proofs.YtjflbjlkcifpdaaDoorW.PrintWords Go.Proofs.YtjflbjlkcifpdaaDoorW.PrintLast
set_option linter.unusedVariables false
set_option linter.unusedSimpArgs false
abbrev Ev := Int × Int × Int × ByteArray × ByteArray × ByteArray × ByteArray × Int × Int × Int
def right (n : Ev) : Bool := rightF n.1 n.2.2.1 n.2.2.2.1 n.2.2.2.2.1 n.2.2.2.2.2.1 n.2.2.2.2.2.2.1 n.2.2.2.2.2.2.2.1 n.2.2.2.2.2.2.2.2.1 n.2.2.2.2.2.2.2.2.2
theorem bind_s {α β : Type} (x : α) (f : α → Option β) : (some x).bind f = f x := Eq.trans (Eq.refl _) (Eq.refl _)
/-- A kind's fields, as letters; its numbers' letters. -/
def shp : List ByteArray := [⟨#[45]⟩, ⟨#[116]⟩, ⟨#[116]⟩, ⟨#[116, 116, 116, 116, 52, 51, 51]⟩, ⟨#[116, 116]⟩, ⟨#[]⟩, ⟨#[116, 116]⟩, ⟨#[115]⟩, ⟨#[]⟩, ⟨#[116, 116]⟩, ⟨#[115]⟩, ⟨#[116]⟩, ⟨#[116]⟩, ⟨#[]⟩, ⟨#[52]⟩]
def lets : List ByteArray := [⟨#[]⟩, ⟨#[]⟩, ⟨#[]⟩, ⟨#[52, 51, 51]⟩, ⟨#[]⟩, ⟨#[]⟩, ⟨#[]⟩, ⟨#[115]⟩, ⟨#[]⟩, ⟨#[]⟩, ⟨#[115]⟩, ⟨#[]⟩, ⟨#[]⟩, ⟨#[]⟩, ⟨#[52]⟩]
theorem shape20 : ∀ K : Fin 15, 1 ≤ K.val → transeptref05_Shape.f 20 (K.val : Int) = some (shp.getD K.val ⟨#[]⟩) := by decide +kernel
theorem split20 : ∀ K : Fin 15, 1 ≤ K.val → transeptref05_split.f 20 (shp.getD K.val ⟨#[]⟩) = some (T0 (K.val : Int), lets.getD K.val ⟨#[]⟩) := by decide +kernel
theorem shape_dash : ∀ K : Fin 15, 1 ≤ K.val → (shp.getD K.val ⟨#[]⟩).data.toList ≠ [45] := by decide +kernel
theorem shape_k (k K : Nat) (hk : 20 ≤ k) (h1 : 1 ≤ K) (h2 : K ≤ 14) : transeptref05_Shape.f k (K : Int) = some (shp.getD K ⟨#[]⟩) :=
  at_rounds (g := fun k => transeptref05_Shape.f k (K : Int)) (fun k => transeptref05_Shape.mono _ k) hk (shape20 ⟨K, by omega⟩ h1)
theorem split_k (k K : Nat) (hk : 20 ≤ k) (h1 : 1 ≤ K) (h2 : K ≤ 14) : transeptref05_split.f k (shp.getD K ⟨#[]⟩) = some (T0 (K : Int), lets.getD K ⟨#[]⟩) :=
  at_rounds (g := fun k => transeptref05_split.f k (shp.getD K ⟨#[]⟩)) (fun k => transeptref05_split.mono _ k) hk (split20 ⟨K, by omega⟩ h1)
theorem shape_no (k : Nat) (a : Int) (h : ¬ (1 ≤ a ∧ a ≤ 14)) : transeptref05_Shape.f (k + 1 + 1 + 1) a = some ⟨#[45]⟩ := by
  have n : ∀ m : Int, 1 ≤ m → m ≤ 14 → a ≠ m := fun m h1 h2 e => h (by omega)
  have b : ∀ m : Int, 1 ≤ m → m ≤ 14 → (a == m) = false := fun m h1 h2 => by rw [beq_eq_false_iff_ne]; exact n m h1 h2
  unfold transeptref05_Shape.f
  rw [if_neg (n 1 (by omega) (by omega)), if_neg (n 2 (by omega) (by omega)), if_neg (n 11 (by omega) (by omega)), b 12 (by omega) (by omega)]
  rw [transeptref05_Shape.j0, if_neg (by decide), if_neg (n 3 (by omega) (by omega)), if_neg (n 4 (by omega) (by omega)), if_neg (n 6 (by omega) (by omega)), b 9 (by omega) (by omega)]
  rw [transeptref05_Shape.j1, if_neg (by decide), if_neg (n 7 (by omega) (by omega)), b 10 (by omega) (by omega)]
  rw [transeptref05_Shape.j2, if_neg (by decide), if_neg (n 14 (by omega) (by omega)), if_neg (n 5 (by omega) (by omega)), if_neg (n 8 (by omega) (by omega)), if_neg (n 13 (by omega) (by omega))]
theorem most_tab : ∀ (K : Fin 15) (i : Fin 3), if (i.val : Int) < ((lets.getD K.val ⟨#[]⟩).size : Int) then transeptref05_most.f (bt (lets.getD K.val ⟨#[]⟩) (i.val : Int)) = some (TN (K.val : Int) i.val - 1) ∧ 0 < TN (K.val : Int) i.val else TN (K.val : Int) i.val = 0 := by decide +kernel
theorem right_l1 (k : Nat) (L : ByteArray) (xs : List Int) (i : Nat) (m : Int) (hi : i < 3) (hx : xs.length = 3) (hm : if (i : Int) < (L.size : Int) then transeptref05_most.f (bt L (i : Int)) = some (m - 1) ∧ 0 < m else m = 0) :
    transeptref05_Right.l1 (k + 1) L xs (i : Int) = if numOk m (rd xs (i : Int)) then transeptref05_Right.l1 k L xs ((i + 1 : Nat) : Int) else some false := by
  rw [transeptref05_Right.l1, if_pos (show (i : Int) < 3 by omega), w64 ((i : Int) + 1) (by omega) (by omega), show ((i : Int) + 1) = ((i + 1 : Nat) : Int) by omega]
  generalize rd xs (i : Int) = x
  by_cases hl : (i : Int) < (L.size : Int)
  · rw [if_pos hl] at hm
    obtain ⟨h1, h2⟩ := hm
    rw [if_pos hl, if_pos (show (0 : Int) ≤ i by omega), h1, bind_s, if_pos (show (i : Int) < (xs.length : Int) by omega)]
    by_cases h0 : x < 0
    · rw [if_pos h0, numOk_F (.inl h0)]; rfl
    · rw [if_neg h0]
      by_cases h3 : x > m - 1
      · rw [if_pos h3, numOk_F (.inr (by split <;> omega))]; rfl
      · rw [if_neg h3, numOk_T ⟨by omega, by split <;> omega⟩]; rfl
  · rw [if_neg hl] at hm
    subst hm
    rw [if_neg hl, if_pos (show (0 : Int) ≤ i by omega), if_pos (show (i : Int) < (xs.length : Int) by omega)]
    by_cases h0 : x < 0
    · rw [if_pos h0, numOk_F (.inl h0)]; rfl
    · rw [if_neg h0]
      by_cases h3 : x > 0
      · rw [if_pos h3, numOk_F (.inr (by split <;> omega))]; rfl
      · rw [if_neg h3, numOk_T ⟨by omega, by split <;> omega⟩]; rfl
theorem right_l0 (k : Nat) (T : Int) (L : ByteArray) (ts : List ByteArray) (i : Nat) (hi : i < 4) (hx : ts.length = 4) (a0 a1 a2 : Int) (a3 a4 a5 a6 : ByteArray) (a7 a8 a9 : Int) :
    transeptref05_Right.l0 (k + 1) T L ts (i : Int) a0 a1 a2 a3 a4 a5 a6 a7 a8 a9 = if textOk T (i : Int) (rdOf ByteArray.empty ts (i : Int)) then transeptref05_Right.l0 k T L ts ((i + 1 : Nat) : Int) a0 a1 a2 a3 a4 a5 a6 a7 a8 a9 else some false := by
  rw [transeptref05_Right.l0, if_pos (show (i : Int) < 4 by omega), w64 ((i : Int) + 1) (by omega) (by omega), show ((i : Int) + 1) = ((i + 1 : Nat) : Int) by omega, if_pos (show (0 : Int) ≤ i by omega), if_pos (show (i : Int) < (ts.length : Int) by omega)]
  generalize rdOf ByteArray.empty ts (i : Int) = s
  by_cases h0 : (s.size : Int) > 4096
  · rw [if_pos h0, textOk_c h0]; rfl
  · rw [if_neg h0]
    by_cases h1 : (i : Int) ≥ T
    · rw [if_pos h1]
      by_cases h2 : s.toList = []
      · rw [if_pos h2, textOk_b ⟨by omega, by simp [h2]⟩]; rfl
      · rw [if_neg h2, textOk_d h1 (.inr (by simpa using h2))]; rfl
    · rw [if_neg h1, textOk_a (by omega) (by omega)]; rfl
theorem rdOf4 (a b c d : ByteArray) : rdOf ByteArray.empty [a, b, c, d] ((0 : Nat) : Int) = a ∧ rdOf ByteArray.empty [a, b, c, d] ((1 : Nat) : Int) = b ∧ rdOf ByteArray.empty [a, b, c, d] ((2 : Nat) : Int) = c ∧ rdOf ByteArray.empty [a, b, c, d] ((3 : Nat) : Int) = d := ⟨rfl, rfl, rfl, rfl⟩
theorem rd3 (a b c : Int) : rd [a, b, c] ((0 : Nat) : Int) = a ∧ rd [a, b, c] ((1 : Nat) : Int) = b ∧ rd [a, b, c] ((2 : Nat) : Int) = c := ⟨rfl, rfl, rfl⟩
/-- The document's answer to whether an event may be is the program's. -/
theorem ref_right (k : Nat) (n : Ev) : transeptref05_Right.f (k + 40) n.1 n.2.1 n.2.2.1 n.2.2.2.1 n.2.2.2.2.1 n.2.2.2.2.2.1 n.2.2.2.2.2.2.1 n.2.2.2.2.2.2.2.1 n.2.2.2.2.2.2.2.2.1 n.2.2.2.2.2.2.2.2.2 = some (right n) := by
  obtain ⟨a0, a1, a2, a3, a4, a5, a6, a7, a8, a9⟩ := n
  show transeptref05_Right.f (k + 40) a0 a1 a2 a3 a4 a5 a6 a7 a8 a9 = some (rightF a0 a2 a3 a4 a5 a6 a7 a8 a9)
  unfold transeptref05_Right.f
  by_cases hk : 1 ≤ a0 ∧ a0 ≤ 14
  · obtain ⟨K, rfl⟩ := Int.eq_ofNat_of_zero_le (show 0 ≤ a0 by omega)
    have hK1 : 1 ≤ K := by omega
    have hK2 : K ≤ 14 := by omega
    rw [shape_k (k + 40) K (by omega) hK1 hK2, bind_s, if_neg (by rw [ByteArray.toList_eq]; exact shape_dash ⟨K, by omega⟩ hK1)]
    have hj : ∀ b : Bool, transeptref05_Right.j0 (k + 40) (shp.getD K ⟨#[]⟩) b (K : Int) a1 a2 a3 a4 a5 a6 a7 a8 a9 = if b then some false else some ((textOk (T0 (K : Int)) 0 a3 && textOk (T0 (K : Int)) 1 a4 && textOk (T0 (K : Int)) 2 a5 && textOk (T0 (K : Int)) 3 a6) && (numOk (TN (K : Int) 0) a7 && numOk (TN (K : Int) 1) a8 && numOk (TN (K : Int) 2) a9)) := fun b => by
      rw [show k + 40 = (k + 30 + 1 + 1 + 1 + 1 + 1 + 1 + 1 + 1 + 1) + 1 from rfl, transeptref05_Right.j0]
      cases b with
      | true => rfl
      | false =>
        rw [if_neg (by decide), split_k _ K (by omega) hK1 hK2, bind_s]
        obtain ⟨r0, r1, r2, r3⟩ := rdOf4 a3 a4 a5 a6
        obtain ⟨q0, q1, q2⟩ := rd3 a7 a8 a9
        have s0 := right_l0 (k + 30 + 1 + 1 + 1 + 1 + 1 + 1 + 1 + 1) (T0 (K : Int)) (lets.getD K ⟨#[]⟩) [a3, a4, a5, a6] 0 (by omega) rfl (K : Int) a1 a2 a3 a4 a5 a6 a7 a8 a9
        have s1 := right_l0 (k + 30 + 1 + 1 + 1 + 1 + 1 + 1 + 1) (T0 (K : Int)) (lets.getD K ⟨#[]⟩) [a3, a4, a5, a6] 1 (by omega) rfl (K : Int) a1 a2 a3 a4 a5 a6 a7 a8 a9
        have s2 := right_l0 (k + 30 + 1 + 1 + 1 + 1 + 1 + 1) (T0 (K : Int)) (lets.getD K ⟨#[]⟩) [a3, a4, a5, a6] 2 (by omega) rfl (K : Int) a1 a2 a3 a4 a5 a6 a7 a8 a9
        have s3 := right_l0 (k + 30 + 1 + 1 + 1 + 1 + 1) (T0 (K : Int)) (lets.getD K ⟨#[]⟩) [a3, a4, a5, a6] 3 (by omega) rfl (K : Int) a1 a2 a3 a4 a5 a6 a7 a8 a9
        have s4 : transeptref05_Right.l0 (k + 30 + 1 + 1 + 1 + 1 + 1) (T0 (K : Int)) (lets.getD K ⟨#[]⟩) [a3, a4, a5, a6] ((3 + 1 : Nat) : Int) (K : Int) a1 a2 a3 a4 a5 a6 a7 a8 a9 = transeptref05_Right.l1 (k + 30 + 1 + 1 + 1 + 1) (lets.getD K ⟨#[]⟩) [a7, a8, a9] ((0 : Nat) : Int) := by
          rw [transeptref05_Right.l0, if_neg (by decide)]; rfl
        have u0 := right_l1 (k + 30 + 1 + 1 + 1) (lets.getD K ⟨#[]⟩) [a7, a8, a9] 0 (TN (K : Int) 0) (by omega) rfl (most_tab ⟨K, by omega⟩ 0)
        have u1 := right_l1 (k + 30 + 1 + 1) (lets.getD K ⟨#[]⟩) [a7, a8, a9] 1 (TN (K : Int) 1) (by omega) rfl (most_tab ⟨K, by omega⟩ 1)
        have u2 := right_l1 (k + 30 + 1) (lets.getD K ⟨#[]⟩) [a7, a8, a9] 2 (TN (K : Int) 2) (by omega) rfl (most_tab ⟨K, by omega⟩ 2)
        have u3 : transeptref05_Right.l1 (k + 30 + 1) (lets.getD K ⟨#[]⟩) [a7, a8, a9] ((2 + 1 : Nat) : Int) = some true := by
          rw [transeptref05_Right.l1, if_neg (by decide)]
        rw [r0] at s0
        rw [r1] at s1
        rw [r2] at s2
        rw [r3] at s3
        rw [q0] at u0
        rw [q1] at u1
        rw [q2] at u2
        show transeptref05_Right.l0 (k + 30 + 1 + 1 + 1 + 1 + 1 + 1 + 1 + 1 + 1) _ _ _ ((0 : Nat) : Int) _ _ _ _ _ _ _ _ _ _ = _
        rw [s0, s1, s2, s3, s4, u0, u1, u2, u3]
        rw [show ((0 : Nat) : Int) = 0 from rfl, show ((1 : Nat) : Int) = 1 from rfl, show ((2 : Nat) : Int) = 2 from rfl, show ((3 : Nat) : Int) = 3 from rfl]
        clear s0 s1 s2 s3 s4 u0 u1 u2 u3
        generalize textOk (T0 (K : Int)) 0 a3 = t0
        generalize textOk (T0 (K : Int)) 1 a4 = t1
        generalize textOk (T0 (K : Int)) 2 a5 = t2
        generalize textOk (T0 (K : Int)) 3 a6 = t3
        generalize numOk (TN (K : Int) 0) a7 = m0
        generalize numOk (TN (K : Int) 1) a8 = m1
        generalize numOk (TN (K : Int) 2) a9 = m2
        cases t0 <;> cases t1 <;> cases t2 <;> cases t3 <;> cases m0 <;> cases m1 <;> cases m2 <;> rfl
    have hf : ∀ R : Bool, (if ((decide ((K : Int) = 1) || decide ((K : Int) = 2)) != (a2 == 0)) then some false else some R) = some ((decide (1 ≤ (K : Int)) && decide ((K : Int) ≤ 14) && ((decide ((K : Int) = 1) || decide ((K : Int) = 2)) == decide (a2 = 0))) && R) := fun R => by
      rw [decide_eq_true hk.1, decide_eq_true hk.2, show (a2 == 0) = decide (a2 = 0) from rfl]
      generalize (decide ((K : Int) = 1) || decide ((K : Int) = 2)) = x
      generalize decide (a2 = 0) = y
      cases x <;> cases y <;> rfl
    have hfin := hf ((textOk (T0 (K : Int)) 0 a3 && textOk (T0 (K : Int)) 1 a4 && textOk (T0 (K : Int)) 2 a5 && textOk (T0 (K : Int)) 3 a6) && (numOk (TN (K : Int) 0) a7 && numOk (TN (K : Int) 1) a8 && numOk (TN (K : Int) 2) a9))
    by_cases e1 : (K : Int) = 1
    · rw [if_pos e1, hj]
      rw [decide_eq_true e1, Bool.true_or] at hfin
      rw [hfin]
      unfold rightF
      rw [decide_eq_true e1, Bool.true_or]
      simp only [Bool.and_assoc]
    · rw [if_neg e1, hj]
      rw [decide_eq_false e1, Bool.false_or, show decide ((K : Int) = 2) = ((K : Int) == 2) from rfl] at hfin
      rw [hfin]
      unfold rightF
      rw [decide_eq_false e1, Bool.false_or, show decide ((K : Int) = 2) = ((K : Int) == 2) from rfl]
      simp only [Bool.and_assoc]
  · rw [show k + 40 = (k + 37) + 1 + 1 + 1 from rfl, shape_no (k + 37) a0 hk, bind_s, if_pos (by rw [ByteArray.toList_eq])]
    unfold rightF
    have : (decide (1 ≤ a0) && decide (a0 ≤ 14)) = false := by simp; omega
    rw [this]; rfl
theorem ref_rightS (k : Nat) (e : S31) : transeptref05_Right.f (k + 40) e.f0 e.f1 e.f2 e.f3 e.f4 e.f5 e.f6 e.f7 e.f8 e.f9 = some (rightS e) := ref_right k (e.f0, e.f1, e.f2, e.f3, e.f4, e.f5, e.f6, e.f7, e.f8, e.f9)
end Go.Proofs.YtjflbjlkcifpdaaDoor.Pure
