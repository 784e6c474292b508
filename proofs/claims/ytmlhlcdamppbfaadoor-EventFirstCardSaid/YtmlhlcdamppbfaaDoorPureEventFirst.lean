/- No event has what is wrong as its beginning. No condition. -/
import Derived.Test.YtmlhlcdamppbfaaDoorXax24
import Derived.Test.YtmlhlcdamppbfaaDoorEvP
namespace Go.Proofs.YtmlhlcdamppbfaaDoor.Pure
open Go.RowKit Go.Proofs.YtmlhlcdamppbfaaDoor.Xa Go.Proofs.YtmlhlcdamppbfaaDoor.Ext Go.Proofs.YtmlhlcdamppbfaaDoorW.PrintWords Go.Proofs.YtmlhlcdamppbfaaDoorW.PrintLast
set_option linter.unusedVariables false
theorem EventFirst : transeptlaw05_EventFirst.Pure := by
  intro l0 l1 hm0 hn0 hw0 hm1 hn1 hw1
  have hb0 := bytes_wf hw0
  have hb1 := bytes_wf hw1
  suffices hall : ∀ k, transeptlaw05_EventFirst.f (k + 1 + 1) l0 l1 = some true from ⟨_, hall 0⟩
  intro k
  unfold transeptlaw05_EventFirst.f
  rw [show transeptlaw05_shown.f = some true from rfl]
  simp only [bind_s]
  obtain ⟨k1, k2, k3⟩ := mn_le (l0.length : Int) 2000
  have hk : 0 ≤ mn (l0.length : Int) 2000 := by omega
  generalize mn (l0.length : Int) 2000 = n at *
  have hlen : (l0.take n.toNat).length = n.toNat := by rw [List.length_take]; omega
  have hb := hb0.take n.toNat
  generalize l0.take n.toNat = b at *
  rw [if_pos hk, if_pos k1, decode_f hb (by omega)]
  simp only [bind_s, flat]
  by_cases h0 : (decF b).2.2 = 0
  · rw [if_pos h0]
    simp only [transeptlaw05_EventFirst.j0, if_true]
    rw [dec_short b hb (.inl h0)]; simp
  · rw [if_neg h0]
    by_cases h2 : (decF b).2.2 = 2
    · rw [h2]
      simp only [transeptlaw05_EventFirst.j0, BEq.rfl, if_true]
      rw [dec_short b hb (.inr h2)]; simp
    · obtain ⟨p, c, q, hp, e1, e2, e3⟩ := dec_wrong b hb h0 h2
      have hpl := congrArg List.length hp
      rw [List.length_append, List.length_cons] at hpl
      have e2' : ((decF b).2.2 == 2) = false := by rw [beq_eq_false_iff_ne]; exact h2
      rw [e2', e1]
      simp only [transeptlaw05_EventFirst.j0, Bool.false_eq_true, if_false]
      rw [if_neg (by omega), decide_eq_false (by omega)]
      simp only [transeptlaw05_EventFirst.j1, Bool.false_eq_true, if_false, bind_s, nil_s, len_s]
      obtain ⟨j1, j2, j3⟩ := mn_le (l1.length : Int) 50
      have hj : 0 ≤ mn (l1.length : Int) 50 := by omega
      generalize mn (l1.length : Int) 50 = m at *
      have hlm : (l1.take m.toNat).length = m.toNat := by rw [List.length_take]; omega
      have hbm := hb1.take m.toNat
      generalize l1.take m.toNat = r at *
      have hpb : Bytes p := by rw [hp] at hb; exact hb.left
      have hcr : Bytes (c :: r) := by
        rw [hp] at hb
        intro y hy
        rcases List.mem_cons.1 hy with rfl | hy
        · exact hb.right _ (by simp)
        · exact hbm y hy
      rw [w64 ((p.length : Int) + 1) (by omega) (by omega)]
      have t1 : b.take ((p.length : Int) + 1).toNat ++ r = p ++ c :: r := by
        rw [show ((p.length : Int) + 1).toNat = p.length + 1 by omega, hp, List.take_length_add_append]; simp
      have t2 : b.take ((p.length : Int)).toNat = p := by rw [Int.toNat_natCast, hp, List.take_left]
      have l3 : (b.take ((p.length : Int) + 1).toNat).length ≤ 2000 := by rw [List.length_take]; omega
      have L1 : p.length ≤ 2000 := by omega
      have L2 : (p ++ c :: r).length ≤ 3000 := by rw [List.length_append, List.length_cons]; omega
      rw [t1, t2, decode_f (hpb.append hcr) (Nat.le_trans L2 (by decide)), decode_f hpb (Nat.le_trans L1 (by decide))]
      rw [if_pos (by omega), if_pos (by omega), if_pos (by omega), if_pos hj, if_pos j1, if_pos (by omega)]
      simp only [bind_s, flat, e2 r hbm, e3, e1]
      rw [if_pos (by omega), if_pos (by omega)]
      simp only [if_true]
      by_cases h8 : (decF b).2.2 = 8
      · simp [h8]
      · simp [h8]
end Go.Proofs.YtmlhlcdamppbfaaDoor.Pure
