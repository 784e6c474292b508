/- Whatever is read is what, written, stands there; what is refused is refused whatever stands behind. No condition. -/
import Derived.Test.YthbhggpajgokcaaXax9
import Derived.Test.YthbhggpajgokcaaNumP
namespace Go.Proofs.Ythbhggpajgokcaa.Pure
open Go.RowKit Go.Proofs.Ythbhggpajgokcaa.Xa Go.Proofs.Ythbhggpajgokcaa.Ext Go.Proofs.YthbhggpajgokcaaW.PrintWords Go.Proofs.YthbhggpajgokcaaW.PrintLast

theorem gl_u64 : ∀ (l : List Int) (i : Nat) (a : Int), Bytes l → i ≤ 9 → 0 ≤ a → a < 2 ^ (7 * i) → 0 ≤ (gl i a l).1 ∧ (gl i a l).1 < 18446744073709551616
  | [], i, a, _, _, _, _ => by simp [gl]
  | c :: l, i, a, hl, hi, h0, h1 => by
    have hc := hl c (by simp)
    rw [gl]
    split
    · simp
    · rename_i hb
      have h9 : i = 9 → c ≤ 1 := fun h => by have := fun h2 => hb (.inl ⟨h, h2⟩); omega
      obtain ⟨s1, s2, s3⟩ := step_or i a c hi h9 h0 h1 hc.1 hc.2
      obtain ⟨p1, p2, p3, p4⟩ := pow7 i hi
      split
      · rename_i hs
        rw [Int.emod_eq_of_lt hc.1 hs] at s2 s3
        refine ⟨s2, ?_⟩
        rw [p3] at s3
        by_cases hi9 : i = 9
        · subst hi9
          have := h9 rfl
          have e : (2 : Int) ^ (7 * 9) = 9223372036854775808 := by decide
          rw [e] at h1 ⊢; omega
        · have := p2 (by omega)
          have e : (2 : Int) ^ 56 = 72057594037927936 := by decide
          rw [e] at this; omega
      · rename_i hs
        have hi9 : i ≠ 9 := fun h => by have := h9 h; omega
        rw [show c % 128 = c - 128 by omega] at s2 s3
        exact gl_u64 l (i + 1) _ (fun x hx => hl x (by simp [hx])) (by omega) s2 s3
theorem NumberOne : transeptlaw01_NumberOne.Pure := by
  intro l0 l1 hm hn hw hm1 hn1 hw1
  have hb := bytes_wf hw
  have hb1 := bytes_wf hw1
  refine ⟨20, ?_⟩
  unfold transeptlaw01_NumberOne.f
  rw [shown_f 20 (by omega)]
  simp only [Option.bind_some, List.nil_append, List.length_nil]
  obtain ⟨k1, k2, k3⟩ := mn_le (l0.length : Int) 300
  have hk : 0 ≤ mn (l0.length : Int) 300 := by omega
  generalize mn (l0.length : Int) 300 = n at *
  obtain ⟨j1, j2, j3⟩ := mn_le (l1.length : Int) 50
  have hj : 0 ≤ mn (l1.length : Int) 50 := by omega
  generalize mn (l1.length : Int) 50 = n1 at *
  have hlen : (l0.take n.toNat).length = n.toNat := by rw [List.length_take]; omega
  have hbb := hb.take n.toNat
  generalize l0.take n.toNat = b at *
  have hlen1 : (l1.take n1.toNat).length = n1.toNat := by rw [List.length_take]; omega
  have hbb1 := hb1.take n1.toNat
  generalize l1.take n1.toNat = c at *
  rw [if_pos hk, if_pos k1, get_f b hbb (by omega)]
  simp only [Option.bind_some, if_true]
  have hu := gl_u64 b 0 0 hbb (by omega) (by omega) (by simp)
  rcases gl_errs b 0 0 with he | he | he
  · obtain ⟨m, r, hr, _, hg⟩ := gl_ok b 0 0 hbb he
    rw [hg] at hu
    rw [hg]
    simp only [if_true]
    have hp := put_pos m
    simp only [Nat.mul_zero, Int.pow_zero, Int.mul_one, Int.zero_add] at hu ⊢
    have hl : b.length = (put m).length + r.length := by rw [hr, List.length_append]
    rw [if_pos (by simp; omega), if_pos (by simp; omega), put_f 20 [] m (by omega) hu.2 (by omega) (by simp)]
    simp only [Option.bind_some, List.nil_append]
    rw [if_pos (by simp), hr]
    simp
  · have hg := gl_short b 0 0 he
    rw [hg]
    simp
  · obtain ⟨p, x, q, hpq, h1, h2⟩ := gl_form3 b 0 0 he
    have hg := h1 q
    rw [← hpq] at hg
    have hl : b.length = p.length + (q.length + 1) := by rw [hpq, List.length_append]; simp
    rw [hg]
    simp only [Int.natCast_zero, Int.zero_add] at h1 h2 ⊢
    rw [if_neg (by decide), if_neg (by decide), if_neg (by omega), w64 _ (by omega) (by omega), if_pos (by omega), if_pos (by omega), if_pos (by rw [List.length_take]; omega), if_pos hj, if_pos j1, if_pos (by rw [List.length_take]; omega)]
    have ht : b.take ((p.length : Int) + 1).toNat = p ++ [x] := by
      rw [hpq, show p ++ x :: q = (p ++ [x]) ++ q by simp, show ((p.length : Int) + 1).toNat = (p ++ [x]).length by simp, List.take_left]
    have ht2 : b.take ((p.length : Int)).toNat = p := by rw [hpq]; simp
    rw [ht, ht2]
    have hbp : Bytes p := fun z hz => hbb z (by rw [hpq]; simp [hz])
    have hbx : Bytes (p ++ [x] ++ c) := by
      refine Bytes.append (Bytes.append hbp ?_) hbb1
      intro z hz
      exact hbb z (by rw [hpq]; simp at hz; simp [hz])
    rw [get_f _ hbx (by simp; omega), get_f p hbp (by omega), show p ++ [x] ++ c = p ++ x :: c by simp, h1 c, h2]
    simp only [Option.bind_some]
    rw [if_pos (by omega), if_pos (by omega)]
    simp
end Go.Proofs.Ythbhggpajgokcaa.Pure
