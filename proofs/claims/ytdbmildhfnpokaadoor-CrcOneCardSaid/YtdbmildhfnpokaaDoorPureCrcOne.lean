/- One byte that is another one makes another sum; so do two unlike ones that change places beside one another. No condition. -/
import Derived.Test.YtdbmildhfnpokaaDoorXax9
import Derived.Test.YtdbmildhfnpokaaDoorPure
namespace Go.Proofs.YtdbmildhfnpokaaDoor.Pure
open Go.RowKit Go.Proofs.YtdbmildhfnpokaaDoor.Xa Go.Proofs.YtdbmildhfnpokaaDoor.Ext Go.Proofs.YtdbmildhfnpokaaDoorW.PrintWords Go.Proofs.YtdbmildhfnpokaaDoorW.PrintLast

theorem more_mid (p : List Int) (v w : Int) (q : List Int) (hv : 0 ≤ v ∧ v < 256) (hw : 0 ≤ w ∧ w < 256) (h : more 0 (p ++ v :: q) = more 0 (p ++ w :: q)) : v = w := by
  unfold more at h
  have h1 := not_inj (B_inj h)
  rw [run_append, run_append] at h1
  exact byte_inj hv.1 hv.2 hw.1 hw.2 (run_inj q h1)
theorem more_swap (p : List Int) (v w : Int) (q : List Int) (hv : 0 ≤ v ∧ v < 256) (hw : 0 ≤ w ∧ w < 256) (h : more 0 (p ++ w :: v :: q) = more 0 (p ++ v :: w :: q)) : v = w := by
  unfold more at h
  have h1 := not_inj (B_inj h)
  rw [run_append, run_append] at h1
  have h2 : run (byte (byte (run (~~~ (BitVec.ofInt 32 0)) p) w) v) q = run (byte (byte (run (~~~ (BitVec.ofInt 32 0)) p) v) w) q := h1
  have h3 := run_inj q h2
  exact (swap_inj hw.1 hw.2 hv.1 hv.2 h3).symm
set_option maxHeartbeats 4000000 in
theorem CrcOne : transeptlaw02_CrcOne.Pure := by
  intro l0 a1 a2 hm hn hw w1 w2
  have h2 := u8_bounds w2
  have hb := bytes_wf hw
  unfold transeptlaw02_CrcOne.f transeptlaw02_shown.f
  simp only [Option.bind_some, List.nil_append, List.length_nil]
  obtain ⟨k1, k2, k3⟩ := mn_le (l0.length : Int) 1000
  have hk : 0 ≤ mn (l0.length : Int) 1000 := by omega
  generalize mn (l0.length : Int) 1000 = n at *
  have hlen : (l0.take n.toNat).length = n.toNat := by rw [List.length_take]; omega
  have hbb : Bytes ([3, 5] ++ l0.take n.toNat) := Bytes.append (by intro x hx; simp at hx; omega) (hb.take n.toNat)
  have hbl : ([3, 5] ++ l0.take n.toNat).length = n.toNat + 2 := by rw [List.length_append, hlen]; simp; omega
  rw [if_pos hk, if_pos k1, if_pos (by simp only [List.length_cons, List.length_nil]; omega)]
  generalize [3, 5] ++ l0.take n.toNat = b at *
  clear hb hlen
  rw [w64 _ (by omega) (by omega), if_neg (by omega), if_pos (by omega)]
  obtain ⟨hK0, hK1⟩ := tmod_range (Go.bits .and .i64 a1 65535) ((b.length : Int) - 1) (and_range a1).1 (by omega)
  generalize Int.tmod (Go.bits .and .i64 a1 65535) ((b.length : Int) - 1) = K at *
  have hw1 : wrap64 (K + 1) = K + 1 := w64 _ (by omega) (by omega)
  rw [hw1]
  obtain ⟨p, v, w, q, rfl, hp⟩ := two_at b K.toNat (by omega)
  have hv := hbb v (by simp)
  have hww := hbb w (by simp)
  have r1 : rd (p ++ v :: w :: q) K = v := rd_mid p v (w :: q) K (by omega)
  have r2 : rd (p ++ v :: w :: q) (K + 1) = w := by
    have := rd_mid (p ++ [v]) w q (K + 1) (by simp; omega)
    simpa using this
  have s1 : (p ++ v :: w :: q).set K.toNat a2 = p ++ a2 :: w :: q := by rw [← hp, List.set_append_right _ _ (Nat.le_refl _)]; simp
  have s2 : ((p ++ v :: w :: q).set K.toNat w).set (K + 1).toNat v = p ++ w :: v :: q := by
    rw [show (K + 1).toNat = p.length + 1 by omega, ← hp, List.set_append_right _ _ (Nat.le_refl _), List.set_append_right _ _ (by omega)]; simp
  have bp : Bytes p := fun x hx => hbb x (by simp [hx])
  have bq : Bytes q := fun x hx => hbb x (by simp [hx])
  have lx : ∀ x y : Int, (p ++ x :: y :: q).length ≤ 140737488355328 := fun x y => by simp at hbl ⊢; omega
  have bx : ∀ x y : Int, (0 ≤ x ∧ x < 256) → (0 ≤ y ∧ y < 256) → Bytes (p ++ x :: y :: q) := fun x y hx hy => bp.append (fun z hz => by
    rcases List.mem_cons.1 hz with rfl | hz
    · exact hx
    · rcases List.mem_cons.1 hz with rfl | hz
      · exact hy
      · exact bq z hz)
  have f1 := sum_f _ (bx a2 w h2 hww) (lx _ _)
  have f2 := sum_f _ (bx v w hv hww) (lx _ _)
  have f3 := sum_f _ (bx w v hww hv) (lx _ _)
  have q1 : ((more 0 (p ++ a2 :: w :: q) == more 0 (p ++ v :: w :: q)) == (a2 == v)) = true := by
    by_cases h : a2 = v
    · subst h; simp
    · rw [beq_eq_false_iff_ne.2 (fun he => h (more_mid p a2 v (w :: q) h2 hv he)), beq_eq_false_iff_ne.2 h]; rfl
  have q2 : ((more 0 (p ++ w :: v :: q) == more 0 (p ++ v :: w :: q)) == (v == w)) = true := by
    by_cases h : v = w
    · subst h; simp
    · rw [beq_eq_false_iff_ne.2 (fun he => h (more_swap p v w q hv hww he)), beq_eq_false_iff_ne.2 h]; rfl
  have hl : ((p ++ v :: w :: q).length : Int) = n.toNat + 2 := by omega
  unfold crc_Sum.f
  rw [r1, r2, s1, s2, f1, f2, f3]
  simp only [Option.bind_some, q1, q2, if_true]
  repeat (first | rw [if_pos (by omega)] | rfl)
end Go.Proofs.YtdbmildhfnpokaaDoor.Pure
