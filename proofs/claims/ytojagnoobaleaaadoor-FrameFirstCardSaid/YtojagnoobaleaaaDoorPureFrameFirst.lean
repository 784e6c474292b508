/- No log has what is wrong as its beginning. No condition. -/
import Derived.Test.YtojagnoobaleaaaDoorXpx29
namespace Go.Proofs.YtojagnoobaleaaaDoor.Pure
open Go.RowKit Go.Proofs.YtojagnoobaleaaaDoor.Xp Go.Proofs.YtojagnoobaleaaaDoor.Ext Go.Proofs.YtojagnoobaleaaaDoorW.PrintWords Go.Proofs.YtojagnoobaleaaaDoorW.PrintLast Go.Proofs.YtojagnoobaleaaaDoorW.PrintMore
theorem first_facts {b : List Int} (hbb : Bytes b) : ((logF b).2.2 = 2 ∨ (logF b).2.2 = 0 → (logF b).2.1 = b.length) ∧ ((logF b).2.2 ≠ 0 → (logF b).2.2 ≠ 2 →
    ∃ p c q P3, b = p ++ c :: q ∧ (logF b).2.1 = (p.length : Int) ∧ (∀ r, Bytes r → logF (p ++ c :: r) = logF b) ∧ logF p = ((logF b).1, (p.length : Int), P3) ∧ (P3 = 0 ∨ P3 = 2)) := by
  refine ⟨log_short hbb, fun h0 h2 => ?_⟩
  obtain ⟨p, c, q, hp, h3, h4, h5, h6, h7⟩ := log_wrong hbb h0 h2
  exact ⟨p, c, q, (logF p).2.2, hp, h3, h4, Prod.ext h5 (Prod.ext h6 rfl), h7⟩
theorem FrameFirst : transeptlaw04_FrameFirst.Pure := by
  intro l0 l1 hm hn hw hm1 hn1 hw1
  have hb := bytes_wf hw
  have hb1 := bytes_wf hw1
  clear hm hn hw hm1 hn1 hw1
  refine ⟨10, ?_⟩
  unfold transeptlaw04_FrameFirst.f transeptlaw04_shown.f
  simp only [bind_s]
  obtain ⟨k1, k2, k3⟩ := mn_le (l0.length : Int) 2000
  have hk : 0 ≤ mn (l0.length : Int) 2000 := by omega
  generalize mn (l0.length : Int) 2000 = n at *
  have hlen : (l0.take n.toNat).length = n.toNat := by rw [List.length_take]; omega
  have hbb := hb.take n.toNat
  generalize l0.take n.toNat = b at *
  have hs := split_small (l := b) (by omega)
  obtain ⟨hsh, hwr⟩ := first_facts hbb
  obtain ⟨R, hR⟩ : ∃ R, logF b = R := ⟨_, rfl⟩
  rw [hR] at hs hsh hwr
  replace hwr := Aside0.mk hwr
  replace hsh := Aside0.mk hsh
  rw [if_pos hk, if_pos k1, split_f hbb (by omega), bind_s, hs]
  clear hs hR
  obtain ⟨R1, R2, R3⟩ := R
  dsimp only
  by_cases h0 : R3 = 0
  · rw [if_pos h0, transeptlaw04_FrameFirst.j0, if_pos rfl, if_pos rfl, show R2 = b.length from hsh.out (.inr h0)]; simp
  · rw [if_neg h0]
    by_cases h2 : R3 = 2
    · rw [h2, transeptlaw04_FrameFirst.j0, if_pos (by decide), if_pos rfl, show R2 = b.length from hsh.out (.inl h2)]; simp
    · obtain ⟨p, c, q, P3, hp, h3, h4, h5, h7⟩ := hwr.out h0 h2
      clear hwr hsh
      dsimp only at h3 h4 h5
      have hpl : p.length < b.length := by rw [hp, List.length_append, List.length_cons]; omega
      have hpc : b.take (p.length + 1) = p ++ [c] := by rw [hp, show p ++ c :: q = (p ++ [c]) ++ q by simp, List.take_left' (by simp)]
      have hpp : b.take p.length = p := by rw [hp, List.take_left]
      have hB1 : Bytes (l1.take (mn (l1.length : Int) 100).toNat) := hb1.take _
      obtain ⟨m1, m2, m3⟩ := mn_le (l1.length : Int) 100
      have hm0 : 0 ≤ mn (l1.length : Int) 100 := by omega
      obtain ⟨m, hmm⟩ : ∃ m, mn (l1.length : Int) 100 = m := ⟨_, rfl⟩
      rw [hmm] at m1 m2 m3 hm0 hB1
      replace hmm := Aside0.mk hmm
      have hml : (l1.take m.toNat).length = m.toNat := by rw [List.length_take]; omega
      obtain ⟨r, hr⟩ : ∃ r, l1.take m.toNat = r := ⟨_, rfl⟩
      rw [hr] at hml hB1
      have hpc2 : p ++ [c] ++ r = p ++ c :: r := by rw [List.append_assoc]; rfl
      have hx : Bytes (p ++ c :: r) := by
        have h_ : Bytes (p ++ [c]) := by rw [← hpc]; exact hbb.take _
        rw [← hpc2]
        exact h_.append hB1
      have hp2 : Bytes p := by rw [← hpp]; exact hbb.take _
      have hlx : (p ++ c :: r).length = p.length + (r.length + 1) := by rw [List.length_append, List.length_cons]
      have hlc : (p ++ [c]).length = p.length + 1 := by rw [List.length_append, List.length_cons, List.length_nil]
      have hd : decide ((p.length : Int) ≥ (b.length : Int)) = false := by rw [decide_eq_false_iff_not]; omega
      have hR2 : (R3 == 2) = false := by simpa using h2
      have h4r := h4 r hB1
      obtain ⟨X, hX⟩ : ∃ X, logF (p ++ c :: r) = X := ⟨_, rfl⟩
      obtain ⟨Y, hY⟩ : ∃ Y, logF p = Y := ⟨_, rfl⟩
      rw [hX] at h4r
      rw [hY] at h5
      rw [hR2, transeptlaw04_FrameFirst.j0, if_neg Bool.false_ne_true, h3]
      rw [if_neg (show ¬ ((p.length : Int) < 0) by omega)]
      rw [transeptlaw04_FrameFirst.j1, hd]
      rw [if_neg Bool.false_ne_true]
      rw [bind_s, List.length_nil, List.nil_append]
      rw [w64 ((p.length : Int) + 1) (by omega) (by omega), if_pos (show (0 : Int) ≤ (p.length : Int) + 1 by omega), if_pos (show (p.length : Int) + 1 ≤ (b.length : Int) by omega), show ((p.length : Int) + 1).toNat = p.length + 1 by omega]
      rw [hpc, if_pos (by rw [hlc]; omega), bind_s, hmm.out, hr, if_pos hm0, if_pos m1, if_pos (by rw [hlc]; omega)]
      rw [hpc2, split_f hx (by rw [hlx]; omega), bind_s, split_small (by rw [hlx]; omega), hX, h4r]
      rw [if_pos (show (0 : Int) ≤ (p.length : Int) by omega), if_pos (show (p.length : Int) ≤ (b.length : Int) by omega), Int.toNat_natCast, hpp, split_f hp2 (by omega), bind_s, split_small (by omega), hY, h5]
      dsimp only
      rw [if_pos rfl, if_pos rfl, if_pos rfl, if_pos rfl, if_pos rfl, if_pos h3]
      rcases h7 with h7 | h7
      · rw [h7, if_pos rfl]
      · rw [h7, if_neg (by decide)]; rfl
end Go.Proofs.YtojagnoobaleaaaDoor.Pure
