/- What the printed functions of the laws answer, in plain words. -/
import Derived.Test.YtmlhlcdamppbfaaDoorXax3
import Derived.Test.YtmlhlcdamppbfaaDoorEvL
namespace Go.Proofs.YtmlhlcdamppbfaaDoor.Pure
open Go.RowKit Go.Proofs.YtmlhlcdamppbfaaDoor.Xa Go.Proofs.YtmlhlcdamppbfaaDoor.Ext Go.Proofs.YtmlhlcdamppbfaaDoorW.PrintWords Go.Proofs.YtmlhlcdamppbfaaDoorW.PrintLast
/-- 'Option.bind_some', not by computing: what computes it may run into a great number's test. -/
theorem bind_s {α β : Type} (x : α) (f : α → Option β) : (some x).bind f = f x := Eq.trans (Eq.refl _) (Eq.refl _)
theorem nil_s {α : Type} (l : List α) : [] ++ l = l := Eq.trans (Eq.refl _) (Eq.refl _)
theorem len_s {α : Type} : ([] : List α).length = 0 := Eq.trans (Eq.refl _) (Eq.refl _)
def cutS (s : ByteArray) : ByteArray := s.extract 0 (mn (s.size : Int) 5000).toNat
def cutE (n : Ev) : Ev := (n.1, n.2.1, n.2.2.1, cutS n.2.2.2.1, cutS n.2.2.2.2.1, cutS n.2.2.2.2.2.1, cutS n.2.2.2.2.2.2.1, n.2.2.2.2.2.2.2.1, n.2.2.2.2.2.2.2.2.1, n.2.2.2.2.2.2.2.2.2)
theorem cut_f (n : Ev) : transeptlaw05_cut.f n.1 n.2.1 n.2.2.1 n.2.2.2.1 n.2.2.2.2.1 n.2.2.2.2.2.1 n.2.2.2.2.2.2.1 n.2.2.2.2.2.2.2.1 n.2.2.2.2.2.2.2.2.1 n.2.2.2.2.2.2.2.2.2 = some (cutE n) := by
  have h : ∀ s : ByteArray, 0 ≤ mn (s.size : Int) 5000 ∧ mn (s.size : Int) 5000 ≤ s.size := fun s => by
    obtain ⟨k1, k2, k3⟩ := mn_le (s.size : Int) 5000
    omega
  unfold transeptlaw05_cut.f
  rw [if_pos (h _).1, if_pos (h _).2, if_pos (h _).1, if_pos (h _).2, if_pos (h _).1, if_pos (h _).2, if_pos (h _).1, if_pos (h _).2]
  rfl
theorem and_range (a : Int) (m : Nat) (hm : (BitVec.ofInt IntKind.i64.bits m).toNat = m) (hb : m < 9223372036854775808) : 0 ≤ bits .and .i64 a m ∧ bits .and .i64 a m ≤ m := by
  simp only [bits]
  have h : ((BitVec.ofInt IntKind.i64.bits a &&& BitVec.ofInt IntKind.i64.bits m).toNat) ≤ m := by
    rw [BitVec.toNat_and]
    exact Nat.le_trans Nat.and_le_right (by omega)
  generalize (BitVec.ofInt IntKind.i64.bits a &&& BitVec.ofInt IntKind.i64.bits m).toNat = n at *
  rw [IntKind.wrap_i64]; omega
theorem tmod_range (a b : Int) (ha : 0 ≤ a) (hb : 0 < b) : 0 ≤ Int.tmod a b ∧ Int.tmod a b < b := by
  rw [Int.tmod_eq_emod_of_nonneg ha]
  exact ⟨Int.emod_nonneg _ (by omega), Int.emod_lt_of_pos _ hb⟩
theorem toList_beq (s t : ByteArray) : (s.toList == t.toList) = decide (s = t) := by
  rw [ByteArray.toList_eq, ByteArray.toList_eq]
  by_cases h : s = t
  · subst h; simp
  · rw [decide_eq_false h, beq_eq_false_iff_ne]
    intro e
    exact h (ByteArray.ext (Array.ext' e))
theorem strOf_inj {a b : List Int} (ha : Bytes a) (hb : Bytes b) (h : strOfNums a = strOfNums b) : a = b := by
  rw [← bytesOf_strOf a ha, ← bytesOf_strOf b hb, h]
end Go.Proofs.YtmlhlcdamppbfaaDoor.Pure
