/- Four bytes tell all, behind any sum. No condition. -/
import Derived.Test.YtdbmildhfnpokaaDoorXax10
import Derived.Test.YtdbmildhfnpokaaDoorCrcT
namespace Go.Proofs.YtdbmildhfnpokaaDoor.Pure
open Go.RowKit Go.Proofs.YtdbmildhfnpokaaDoor.Xa Go.Proofs.YtdbmildhfnpokaaDoor.Ext Go.Proofs.YtdbmildhfnpokaaDoorW.PrintWords Go.Proofs.YtdbmildhfnpokaaDoorW.PrintLast

theorem u32_bounds {a : Int} (h : (Lit.int .u32 a).wf = true) : 0 ≤ a ∧ a < 4294967296 := by
  simp [Lit.wf, IntKind.min, IntKind.max, IntKind.bits, IntKind.signed] at h; omega
theorem more_f (a : Int) (l : List Int) (h0 : 0 ≤ a) (h1 : a < 4294967296) (hl : ∀ x ∈ l, 0 ≤ x ∧ x < 256) (hn : l.length ≤ 140737488355328) : crc_More.f a l = some (more a l) := by
  unfold crc_More.f
  rw [if_pos]
  simp only [Bool.and_eq_true, List.all_eq_true, decide_eq_true_eq]
  exact ⟨⟨⟨h0, h1⟩, hl⟩, hn⟩
theorem more_four (a b : Int) (hb0 : 0 ≤ b) (hb : b < 4294967296) : more a (four b) = B (~~~ (L4 (~~~ (BitVec.ofInt 32 a) ^^^ BitVec.ofInt 32 b))) := by
  unfold more; rw [run_four _ b hb0 hb]
theorem CrcFours : transeptlaw02_CrcFours.Pure := by
  intro a0 a1 a2 w0 w1 w2
  obtain ⟨h00, h01⟩ := u32_bounds w0
  obtain ⟨h10, h11⟩ := u32_bounds w1
  obtain ⟨h20, h21⟩ := u32_bounds w2
  obtain ⟨hx0, hx1⟩ := xor_range a0 a1 h00 h01 h10 h11
  have e1 := more_f a0 (four a1) h00 h01 (four_range a1) (by simp [four])
  have e2 := more_f a0 (four a2) h00 h01 (four_range a2) (by simp [four])
  have e3 := more_f 0 (four (bits .xor .u32 a0 a1)) (by omega) (by omega) (four_range _) (by simp [four])
  have q1 : ((more a0 (four a1) == more a0 (four a2)) == (a1 == a2)) = true := by
    by_cases h : a1 = a2
    · subst h; simp
    · have : more a0 (four a1) ≠ more a0 (four a2) := by
        intro he
        rw [more_four a0 a1 h10 h11, more_four a0 a2 h20 h21] at he
        exact h (ofInt_inj h10 h11 h20 h21 (xor_cancel (L4_inj (not_inj (B_inj he)))))
      rw [beq_eq_false_iff_ne.2 this, beq_eq_false_iff_ne.2 h]; rfl
  have q2 : more a0 (four a1) = more 0 (four (bits .xor .u32 a0 a1)) := by
    have hb : ~~~ (BitVec.ofInt 32 a0) ^^^ BitVec.ofInt 32 a1 = ~~~ (BitVec.ofInt 32 0) ^^^ (BitVec.ofInt 32 a0 ^^^ BitVec.ofInt 32 a1) := by
      rw [not_eq_xor (BitVec.ofInt 32 a0), show ~~~ (BitVec.ofInt 32 0) = BitVec.allOnes 32 from by decide, BitVec.xor_assoc]
    rw [more_four a0 a1 h10 h11, more_four 0 _ hx0 hx1, ofInt_xor a0 a1 h00 h01 h10 h11, hb]
  unfold transeptlaw02_CrcFours.f transeptlaw02_shown.f
  simp only [four] at e1 e2 e3 q1 q2
  simp only [Option.bind_some, e1, e2, e3, if_true, q1]
  rw [q2]; simp
end Go.Proofs.YtdbmildhfnpokaaDoor.Pure
