/- An event cut off is cut off; with anything behind it, it ends there. No condition. -/
import Derived.Test.YtmlhlcdamppbfaaDoorWalkEventCuts
import Derived.Test.YtmlhlcdamppbfaaDoorEvP
namespace Go.Proofs.YtmlhlcdamppbfaaDoor.Pure
open Go.RowKit Go.Proofs.YtmlhlcdamppbfaaDoor.Xa Go.Proofs.YtmlhlcdamppbfaaDoor.Ext Go.Proofs.YtmlhlcdamppbfaaDoorW.PrintWords Go.Proofs.YtmlhlcdamppbfaaDoorW.PrintLast
set_option linter.unusedVariables false
theorem and_range24 (a : Int) : 0 ≤ bits .and .i64 a 16777215 := by
  simp only [bits]
  have h : ((BitVec.ofInt IntKind.i64.bits a &&& BitVec.ofInt IntKind.i64.bits 16777215).toNat) ≤ 16777215 := by
    rw [BitVec.toNat_and]
    exact Nat.le_trans Nat.and_le_right (by decide +kernel)
  generalize (BitVec.ofInt IntKind.i64.bits a &&& BitVec.ofInt IntKind.i64.bits 16777215).toNat = n at *
  rw [IntKind.wrap_i64]; omega
theorem EventCuts : transeptlaw05_EventCuts.Pure := by
  intro a0 a1 l2 hu _ hm hn hw
  have hb := bytes_wf hw
  suffices hall : ∀ k, transeptlaw05_EventCuts.f (k + 1) a0.1 a0.2.1 a0.2.2.1 a0.2.2.2.1 a0.2.2.2.2.1 a0.2.2.2.2.2.1 a0.2.2.2.2.2.2.1 a0.2.2.2.2.2.2.2.1 a0.2.2.2.2.2.2.2.2.1 a0.2.2.2.2.2.2.2.2.2 a1 l2 = some true from ⟨_, hall 0⟩
  intro k
  unfold transeptlaw05_EventCuts.f
  rw [show transeptlaw05_shown.f = some true from rfl, cut_f]
  simp only [bind_s]
  have hc : u64s (cutE a0) := hu
  generalize cutE a0 = c at *
  rw [encode_f c hc]
  simp only [bind_s]
  cases hr : right c with
  | false =>
    rw [if_neg (by decide)]
    simp only [transeptlaw05_EventCuts.j0]
    rfl
  | true =>
    have hv := (right_iff c hc).1 hr
    have hl := evE_len hv
    have heb := evE_bytes hv
    rw [if_pos (by decide)]
    simp only [if_true]
    have hne : (((evE c).length : Int) == 0) = false := by rw [beq_eq_false_iff_ne]; omega
    rw [hne]
    simp only [transeptlaw05_EventCuts.j0, Bool.false_eq_true, if_false, bind_s, nil_s, len_s]
    obtain ⟨m0, m1⟩ := tmod_range (bits .and .i64 a1 16777215) ((evE c).length : Int) (and_range24 a1) (by omega)
    generalize Int.tmod (bits .and .i64 a1 16777215) ((evE c).length : Int) = K at *
    obtain ⟨k1, k2, k3⟩ := mn_le (l2.length : Int) 50
    have hk : 0 ≤ mn (l2.length : Int) 50 := by omega
    generalize mn (l2.length : Int) 50 = n at *
    have hlen : (l2.take n.toNat).length = n.toNat := by rw [List.length_take]; omega
    have hbb := hb.take n.toNat
    generalize l2.take n.toNat = r at *
    have h1 : Bytes ((1 : Int) :: r) := fun y hy => by
      rcases List.mem_cons.1 hy with rfl | hy
      · omega
      · exact hbb y hy
    have L1 : ((evE c).take K.toNat).length ≤ 20000 := by rw [List.length_take]; omega
    have L2 : (evE c ++ 1 :: r).length ≤ 30000 := by rw [List.length_append, List.length_cons]; omega
    have big : 30000 ≤ 140737488355328 := by decide
    rw [if_neg (by omega), if_pos m0, if_pos (by omega), decode_f (heb.take _) (Nat.le_trans L1 (by decide)), dec_cut c K.toNat hv (by omega)]
    simp only [bind_s]
    rw [if_pos (by omega), if_pos (by rw [List.length_singleton]; omega), if_pos hk, if_pos k1, if_pos (by rw [List.length_append, List.length_singleton]; omega)]
    rw [List.append_assoc, List.singleton_append, decode_f (heb.append h1) (Nat.le_trans L2 big), dec_more c 1 r hv h1]
    simp only [bind_s, flat, if_true]
    rw [if_pos (by omega)]
    simp
end Go.Proofs.YtmlhlcdamppbfaaDoor.Pure
