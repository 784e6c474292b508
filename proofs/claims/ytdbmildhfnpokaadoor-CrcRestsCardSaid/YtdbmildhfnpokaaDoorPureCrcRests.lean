/- Bytes with their own sum behind have one sum, and with any other number behind another one. No condition. -/
import Derived.Test.YtdbmildhfnpokaaDoorXax12
import Derived.Test.YtdbmildhfnpokaaDoorPure
namespace Go.Proofs.YtdbmildhfnpokaaDoor.Pure
open Go.RowKit Go.Proofs.YtdbmildhfnpokaaDoor.Xa Go.Proofs.YtdbmildhfnpokaaDoor.Ext Go.Proofs.YtdbmildhfnpokaaDoorW.PrintWords Go.Proofs.YtdbmildhfnpokaaDoorW.PrintLast

theorem rest_const : B (~~~ (L4 (BitVec.allOnes 32))) = 558161692 := by decide +kernel
theorem CrcRests : transeptlaw02_CrcRests.Pure := by
  intro l0 a1 hm hn hw w1
  obtain ⟨h10, h11⟩ := u32_bounds w1
  have hb := bytes_wf hw
  unfold transeptlaw02_CrcRests.f transeptlaw02_shown.f
  obtain ⟨k1, k2, k3⟩ := mn_le (l0.length : Int) 1000
  have hk : 0 ≤ mn (l0.length : Int) 1000 := by omega
  generalize mn (l0.length : Int) 1000 = n at *
  have hlen : (l0.take n.toNat).length = n.toNat := by rw [List.length_take]; omega
  have hbb := hb.take n.toNat
  generalize l0.take n.toNat = b at *
  have e1 : crc_Sum.f b = some (more 0 b) := by unfold crc_Sum.f; rw [more_f 0 b (by omega) (by omega) hbb (by omega)]; rfl
  obtain ⟨s0, s1⟩ := more_range 0 b
  have e2 : ∀ a : Int, 0 ≤ a → a < 4294967296 → crc_Sum.f (b ++ four a) = some (more (more 0 b) (four a)) := by
    intro a ha0 ha1
    unfold crc_Sum.f
    rw [more_f 0 _ (by omega) (by omega) (hbb.append (four_range a)) (by rw [List.length_append]; simp [four]; omega), more_more]; rfl
  have q1 : more (more 0 b) (four (more 0 b)) = 558161692 := by
    rw [more_four _ _ s0 s1, not_eq_xor (BitVec.ofInt 32 (more 0 b)), BitVec.xor_assoc, BitVec.xor_self, BitVec.xor_zero]
    exact rest_const
  have q2 : ((more (more 0 b) (four a1) == 558161692) == (a1 == more 0 b)) = true := by
    by_cases h : a1 = more 0 b
    · rw [h, q1]; simp
    · have : more (more 0 b) (four a1) ≠ 558161692 := by
        intro he
        rw [← q1, more_four _ _ h10 h11, more_four _ _ s0 s1] at he
        exact h (ofInt_inj h10 h11 s0 s1 (xor_cancel (L4_inj (not_inj (B_inj he)))))
      rw [beq_eq_false_iff_ne.2 this, beq_eq_false_iff_ne.2 h]; rfl
  have e3 := e2 _ s0 s1
  have e4 := e2 _ h10 h11
  generalize more 0 b = s at *
  simp only [four] at e3 e4 q1 q2
  simp only [Option.bind_some, List.nil_append, List.length_nil]
  rw [if_pos hk, if_pos k1, if_pos (by omega), e1]
  simp only [Option.bind_some]
  rw [if_pos (by omega)]
  simp only [List.length_cons, List.length_nil]
  rw [if_pos (by omega), if_pos (by omega), if_pos (by omega), if_pos trivial, e3]
  simp only [Option.bind_some]
  rw [if_pos q1, e4]
  simp only [Option.bind_some, q2]
end Go.Proofs.YtdbmildhfnpokaaDoor.Pure
