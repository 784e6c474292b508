/- The contract of CrcCuts, by hand. -/
import Derived.Test.YtdbmildhfnpokaaDoorXax3
import Derived.Test.YtdbmildhfnpokaaDoorPure
namespace Go.Proofs.YtdbmildhfnpokaaDoor.Ext
open Go.BigFrame Go.RowKit Go.Proofs.YtdbmildhfnpokaaDoor.Xa Go.Proofs.YtdbmildhfnpokaaDoorW.PrintWords Go.Proofs.YtdbmildhfnpokaaDoorW.PrintLast Go.Proofs.YtdbmildhfnpokaaDoorW.PrintMore
attribute [local go_sem] max2_int min2_int max_two min_two
set_option linter.unusedVariables false

theorem more_at (a : Int) (A : Option Addr) (n c : Nat) (l : List Int) (w : World) (hl : l.length = n) (ha : 0 ≤ a ∧ a < 4294967296) (hb : Bytes l) (hG : Glob w) (hr : Kd.C (Kd.int .u8) w A n l) (hc : n ≤ c) (hn : n ≤ 3000) :
    Calls Tryd.prog 12 #[.int .u32 a, .slice A n c] w fun e w' => e = .returned (.int .u32 (more a l)) ∧ Drawn0 w w' := by
  subst hl
  exact crc_More.calls a A c l _ w hG hr hc (more_f a l ha.1 ha.2 hb (by omega))
theorem sum_at (A : Option Addr) (n c : Nat) (l : List Int) (w : World) (hl : l.length = n) (hb : Bytes l) (hG : Glob w) (hr : Kd.C (Kd.int .u8) w A n l) (hc : n ≤ c) (hn : n ≤ 3000) :
    Calls Tryd.prog 10 #[.slice A n c] w fun e w' => e = .returned (.int .u32 (more 0 l)) ∧ Drawn0 w w' := by
  subst hl
  exact crc_Sum.calls A c l _ w hG hr hc (by unfold crc_Sum.f; exact sum_f l hb (by omega))
set_option maxHeartbeats 8000000 in
set_option maxRecDepth 100000 in
theorem cuts_calls (A0 : Option Addr) (c0 : Nat) (l0 : List Int) (a1 a2 : Int) (w : World) (hG : Glob w) (hr0 : Kd.C (Kd.int .u8) w A0 l0.length l0) (hc0 : l0.length ≤ c0) (hb0 : Bytes l0) :
    Calls Tryd.prog 4 #[.slice A0 l0.length c0, .int .i64 a1, .int .i64 a2] w fun e w' => e = .returned (.bool true) ∧ Below w.heap.size w w' := by
  have HG := Aside0.mk hG
  clear hG
  have HB0 := Aside0.mk (Below.refl w.heap.size w)
  obtain ⟨N, hN⟩ : ∃ N : Nat, N = min l0.length 2000 := ⟨_, rfl⟩
  have hN_ : (if 2000 < (l0.length : Int) then (2000 : Int) else (l0.length : Int)) = (N : Int) := by split <;> omega
  have hN1 : N ≤ l0.length := by omega
  have hN2 : N ≤ 2000 := by omega
  clear hN
  obtain ⟨p0, p1⟩ := and_range a1
  obtain ⟨p2, p3⟩ := and_range a2
  obtain ⟨I, hI⟩ : ∃ I : Nat, (bits .and .i64 a1 65535).tmod ((N : Int) + 1) = (I : Int) := ⟨_, (Int.toNat_of_nonneg (tmod_range _ _ p0 (by omega)).1).symm⟩
  have hI1 : I ≤ N := by have := (tmod_range _ ((N : Int) + 1) p0 (by omega)).2; omega
  obtain ⟨J, hJ⟩ : ∃ J : Nat, (bits .and .i64 a2 65535).tmod ((N : Int) - I + 1) = (J : Int) := ⟨_, (Int.toNat_of_nonneg (tmod_range _ _ p2 (by omega)).1).symm⟩
  have hJ1 : J + I ≤ N := by have := (tmod_range _ ((N : Int) - I + 1) p2 (by omega)).2; omega
  obtain ⟨K, hK⟩ : ∃ K : Nat, K = I + J := ⟨_, rfl⟩
  have hK1 : I ≤ K := by omega
  have hK2 : K ≤ N := by omega
  have hKw : wrap64 ((I : Int) + J) = (K : Int) := by rw [w64 _ (by omega) (by omega)]; omega
  clear hJ1 hK
  clear p0 p1 p2 p3
  have hlt := Aside0.mk (show (l0.take N).length = N by rw [List.length_take]; omega)
  go_enter Tryd.func4, Tryd.ntmps4
  go_wp2_with (fail)
  refine (shown_calls _ HG.out).mono ?_
  rintro e w1 ⟨rfl, hb⟩
  have HB1 := Aside0.mk hb
  clear hb HB0
  obtain ⟨b, hb⟩ : ∃ b, b = l0.take N := ⟨_, rfl⟩
  have hbl : b.length = N := by rw [hb, List.length_take]; omega
  have hbb : Bytes b := by rw [hb]; exact hb0.take N
  obtain ⟨i5, hi5, _, hsz5, _⟩ := info_parts info5
  have HRb : Aside0 (Kd.C (Kd.int .u8) w1 A0 N b) := by
    obtain ⟨_, h2, _⟩ := print_take_of (P := Tryd.prog) (Value.int .u8) 0 22 5 .i64 Tryd.underlying22 hi5 hsz5 A0 c0 l0 N (by omega) (by omega) hc0
    have h3 := Kd.C_of_reads (h1 := fun _ => rfl) (h2 _ (Kd.reads_of_C hr0))
    rw [Int.toNat_natCast, ← hb, hbl] at h3
    exact ⟨Kd.C_below h3 HB1.out⟩
  have hcb : N ≤ c0 := by omega
  clear hr0 hc0 hb0 hb
  obtain ⟨f1, g1, k1⟩ := print_take_of (P := Tryd.prog) (Value.int .u8) 0 22 5 .i64 Tryd.underlying22 hi5 hsz5 A0 c0 b I (by omega) (by omega) (by omega)
  obtain ⟨A2, f2, g2, k2⟩ := print_mid_of (P := Tryd.prog) (Value.int .u8) 0 22 5 .i64 .i64 Tryd.underlying22 hi5 hsz5 A0 c0 b I K (by omega) (by omega) (by omega) (by omega)
  obtain ⟨A3, f3, g3, k3⟩ := print_drop_of (P := Tryd.prog) (Value.int .u8) 0 22 5 .i64 Tryd.underlying22 hi5 hsz5 A0 c0 b K (by omega) (by omega) (by omega)
  simp only [Int.toNat_natCast] at f1 g1 k1 f2 g2 k2 f3 g3 k3
  have e1 : (b.take I).length = I := by rw [List.length_take]; omega
  have e2 : ((b.take K).drop I).length = K - I := by rw [List.length_drop, List.length_take]; omega
  have e3 : (b.drop K).length = N - K := by rw [List.length_drop]; omega
  have G1 := Aside0.mk (Kd.C_of_reads (h1 := fun _ => rfl) (g1 w1 (by rw [hbl]; exact Kd.reads_of_C HRb.out)))
  have G2 := Aside0.mk (Kd.C_of_reads (h1 := fun _ => rfl) (g2 w1 (by rw [hbl]; exact Kd.reads_of_C HRb.out)))
  have G3 := Aside0.mk (Kd.C_of_reads (h1 := fun _ => rfl) (g3 w1 (by rw [hbl]; exact Kd.reads_of_C HRb.out)))
  rw [e1] at G1 f1 k1
  rw [e2] at G2 f2 k2
  rw [e3] at G3 f3 k3
  rw [hbl] at f1 f2 f3
  clear g1 g2 g3 hi5 hsz5
  have B1 := Aside0.mk (hbb.take I)
  have B2 := Aside0.mk ((hbb.take K).drop I)
  have B3 := Aside0.mk (hbb.drop K)
  have HS := Aside0.mk (show more (more (more 0 (b.take I)) ((b.take K).drop I)) (b.drop K) = more 0 b by
    rw [more_more, more_more]
    congr 1
    have h : b.take I = (b.take K).take I := by rw [List.take_take, Nat.min_eq_left hK1]
    rw [h, ← List.append_assoc, List.take_append_drop, List.take_append_drop])
  have HG1 := Aside0.mk (Glob.below HG.out HB1.out)
  have BB := Aside0.mk hbb
  clear hbb HG
  go_wp2_with (fail)
  rw [hKw]
  refine wp_region_quiet_lit (by kernel_rfl) (by kernel_rfl) ?_
  repeat (go_big_quiet_step (fail))
  go_big_quiet_want
  go_big_quiet_op
  go_big_quiet_call ((go_at_call 10; refine (sum_at A0 I c0 (b.take I) _ e1 B1.out ?_ ?_ k1 (by omega)).mono ?_; (exact Glob.drewN HG1.out _); (exact Kd.C_drewN G1.out _); rintro e w' ⟨rfl, ⟨nd, rfl⟩⟩; exact ⟨rfl, _, World.drewN_drewN _ _ _⟩))
  repeat (go_big_quiet_step (fail))
  go_big_quiet_want
  go_big_quiet_op
  go_big_quiet_call ((go_at_call 12; refine (more_at _ A2 (K - I) _ ((b.take K).drop I) _ e2 (more_range _ _) B2.out ?_ ?_ k2 (by omega)).mono ?_; (exact Glob.drewN HG1.out _); (exact Kd.C_drewN G2.out _); rintro e w' ⟨rfl, ⟨nd, rfl⟩⟩; exact ⟨rfl, _, World.drewN_drewN _ _ _⟩))
  repeat (go_big_quiet_step (fail))
  go_big_quiet_want
  go_big_quiet_op
  go_big_quiet_call ((go_at_call 12; refine (more_at _ A3 (N - K) _ (b.drop K) _ e3 (more_range _ _) B3.out ?_ ?_ k3 (by omega)).mono ?_; (exact Glob.drewN HG1.out _); (exact Kd.C_drewN G3.out _); rintro e w' ⟨rfl, ⟨nd, rfl⟩⟩; exact ⟨rfl, _, World.drewN_drewN _ _ _⟩))
  repeat (go_big_quiet_step (fail))
  go_big_quiet_want
  go_big_quiet_op
  go_big_quiet_call ((go_at_call 10; refine (sum_at A0 N c0 b _ hbl BB.out ?_ ?_ hcb (by omega)).mono ?_; (exact Glob.drewN HG1.out _); (exact Kd.C_drewN HRb.out _); rintro e w' ⟨rfl, ⟨nd, rfl⟩⟩; exact ⟨rfl, _, World.drewN_drewN _ _ _⟩))
  repeat (go_big_quiet_step (fail))
  refine wpQuiet_nil ?_
  intro _ hw'
  obtain ⟨nq, hw''⟩ := hw'
  subst hw''
  go_wp2
  go_ret
  rw [HS.out]
  exact ⟨by simp, pw_below_drewN HB1.out _⟩
end Go.Proofs.YtdbmildhfnpokaaDoor.Ext
namespace Go.Proofs.YtdbmildhfnpokaaDoor.Xa
open Go.RowKit Go.Proofs.YtdbmildhfnpokaaDoor.Ext Go.Proofs.YtdbmildhfnpokaaDoorW.PrintWords Go.Proofs.YtdbmildhfnpokaaDoorW.PrintLast
/-- Over bytes it tells true. -/
def transeptlaw02_CrcCuts.f (l0 : List Int) (_ _ : Int) : Option Bool := if l0.all (fun x => decide (0 ≤ x) && decide (x < 256)) then some true else none
theorem transeptlaw02_CrcCuts.calls (A0 : Option Addr) (c0 : Nat) (l0 : List Int) (a1 a2 : Int) (r : Bool) (w : World) (hG : Glob w) (hr0 : Kd.C (Kd.int .u8) w A0 l0.length l0) (hc0 : l0.length ≤ c0) (hT_ : r = true) (h : transeptlaw02_CrcCuts.f l0 a1 a2 = some r) :
    Calls Tryd.prog 4 #[.slice A0 l0.length c0, .int .i64 a1, .int .i64 a2] w fun e w' => e = .returned (.bool r) ∧ Below w.heap.size w w' := by
  unfold transeptlaw02_CrcCuts.f at h
  split at h
  · rename_i hh
    simp only [List.all_eq_true, Bool.and_eq_true, decide_eq_true_eq] at hh
    rw [hT_]
    exact cuts_calls A0 c0 l0 a1 a2 w hG hr0 hc0 hh
  · simp at h
def transeptlaw02_CrcCuts.Pure : Prop := ∀ (l0 : List Int) (a1 : Int) (a2 : Int), l0.length ≤ maxLen → l0.length * 1 ≤ 140737488351232 → (∀ x ∈ l0, (Lit.int .u8 x).wf = true) → (Lit.int .i64 a1).wf = true → (Lit.int .i64 a2).wf = true → transeptlaw02_CrcCuts.f l0 a1 a2 = some true
theorem transeptlaw02_CrcCuts.walk (P : transeptlaw02_CrcCuts.Pure) (a0 : Option Addr) (len0 cap0 : Nat) (z0 : List Int) (a1 : Int) (a2 : Int) (w : World) (hG : Glob w) (w0 : (a0 = none ∧ len0 = 0 ∧ cap0 = 0 ∧ z0 = []) ∨ ∃ x, a0 = some x ∧ len0 ≤ cap0 ∧ cap0 ≤ maxLen ∧ z0.length = cap0 ∧ (∀ i, i < z0.length → w.cell? (x.add i) = some (.int .u8 (z0.getD i 0))) ∧ ∀ n ∈ z0, (Lit.int .u8 n).wf = true) (y0 : len0 * 1 ≤ 140737488351232) (w1 : (Lit.int .i64 a1).wf = true) (w2 : (Lit.int .i64 a2).wf = true) :
    Calls Tryd.prog 4 #[.slice a0 len0 cap0, .int .i64 a1, .int .i64 a2] w fun e w' => e = .returned (.bool true) ∧ Below w.heap.size w w' := by
  obtain ⟨l0, rfl, hr0, hm0, hw0, hc0⟩ := ReadsInt.ofRowC w0
  have h := P l0 a1 a2 hm0 y0 hw0 w1 w2
  refine (transeptlaw02_CrcCuts.calls _ _ l0 a1 a2 true w hG (Kd.C_of_reads (d := (0 : Int)) (h1 := fun _ => rfl) hr0) hc0 rfl h).mono ?_
  rintro e w' ⟨rfl, hd⟩
  exact ⟨rfl, hd⟩

end Go.Proofs.YtdbmildhfnpokaaDoor.Xa
