/- frame.At: its contract by hand. -/
import Derived.Test.YtojagnoobaleaaaDoorFrJ
import Derived.Deep.Cut
import Derived.Deep.RegionHeld3
namespace Go.Proofs.YtojagnoobaleaaaDoor.Ext
open Go.RowKit Go.Proofs.YtojagnoobaleaaaDoor.Xp Go.Proofs.YtojagnoobaleaaaDoorW.PrintWords Go.Proofs.YtojagnoobaleaaaDoorW.PrintLast Go.Proofs.YtojagnoobaleaaaDoorW.PrintMore
set_option linter.unusedVariables false
set_option linter.unusedSimpArgs false
attribute [local go_sem] max2_int min2_int max_two min_two
def plen (b : List Int) : Nat := (put b.length).length
theorem i64w (n : Int) (h0 : -9223372036854775808 ≤ n) (h1 : n < 9223372036854775808) : IntKind.i64.wrap n = n := by
  simp [IntKind.wrap, IntKind.bits, IntKind.signed]; omega
/-- Where a body begins. -/
def atF (l : List (List Int)) (k : Nat) : Nat := (logE (l.take k)).length + plen (rd_L2 l k)
theorem frE_len (b : List Int) : (frE b).length = plen b + b.length + 4 := by
  unfold frE plen
  rw [List.length_append, List.length_append, four_len]; omega
theorem logE_succ {l : List (List Int)} {k : Nat} (h : k < l.length) : (logE (l.take (k + 1))).length = (logE (l.take k)).length + (plen (rd_L2 l k) + (rd_L2 l k).length + 4) := by
  rw [List.take_succ_eq_append_getElem h, rd_get2 h]
  unfold logE
  rw [manyE_append]
  simp only [List.length_append]
  rw [show (manyE frE [l[k]]) = frE l[k] by simp [manyE], frE_len]; omega
theorem plen_le (b : List Int) (h : b.length ≤ 20000) : plen b ≤ 10 := put_len10 _ (by omega)
theorem logE_le {l : List (List Int)} (hb : ∀ b ∈ l, b.length ≤ 20000) : ∀ k, k ≤ l.length → (logE (l.take k)).length ≤ 4 + k * 20014
  | 0, _ => by simp [logE, magic, manyE]
  | k + 1, h => by
    have ih := logE_le hb k (by omega)
    have h1 := hb _ (rd_mem2 (show k < l.length by omega))
    have h2 := plen_le _ h1
    rw [logE_succ (by omega)]; omega
set_option maxHeartbeats 1000000 in
theorem at1_calls (g : Nat) (A : Option Addr) (c : Nat) (l : List (List Int)) (k : Nat) (w : World) (hc : w.cell? ⟨g, 0, none⟩ = some (.slice A l.length c)) (hr : Kd.C KdB w A l.length l) (hk : k < l.length) (hn : l.length ≤ 4096) (hb : (rd_L2 l k).length ≤ 20000) :
    Calls Tryd.prog 28 #[.int .i64 k, .pointer (some ⟨g, 0, none⟩)] w fun e w' => e = .returned (.int .i64 (plen (rd_L2 l k))) ∧ Below w.heap.size w w' := by
  obtain ⟨ad, A1, c1, e1, hx1, hc1, hC1⟩ := at_L2 hr k (by omega) (by omega)
  cases e1
  simp only [Int.toNat_natCast] at hx1
  obtain ⟨b, hbb⟩ : ∃ b, b = rd_L2 l k := ⟨_, rfl⟩
  rw [← hbb] at hx1 hb ⊢
  have hp := plen_le b hb
  obtain ⟨P, hP⟩ : ∃ P, P = plen b := ⟨_, rfl⟩
  have HP := Aside0.mk hP
  rw [← hP] at hp ⊢
  clear hC1 hc1 hr hbb hP
  go_enter Tryd.func28, Tryd.ntmps28
  go_wp2_with (fail)
  refine (putJ (.slice none 0 0) [] b.length w w (Below.refl _ _) (.inl (Kd.R_nil _ _ _ _ _)) (by simp) (by omega)).mono ?_
  rintro e w1 ⟨v1, rfl, hv1, hb1⟩
  have HV1 := Aside0.mk hv1
  have HB1 := Aside0.mk hb1
  clear hv1 hb1
  rw [show ([] : List Int) ++ put b.length = put b.length from rfl] at HV1
  obtain ⟨A5, c5, rfl⟩ := Kd.R_slice HV1.out
  rw [show (put b.length).length = P from HP.out.symm]
  go_wp2
  go_ret
  exact ⟨rfl, HB1.out⟩
set_option maxHeartbeats 2000000 in
theorem at_calls (A : Option Addr) (c : Nat) (l : List (List Int)) (i : Nat) (w : World) (hr : Kd.C KdB w A l.length l) (hi : i < l.length) (hn : l.length ≤ 4096) (hb : ∀ b ∈ l, b.length ≤ 20000) :
    Calls Tryd.prog 20 #[.slice A l.length c, .int .i64 i] w fun e w' => e = .returned (.int .i64 (atF l i)) ∧ Below w.heap.size w w' := by
  have HR := Aside0.mk hr
  have HB := Aside0.mk hb
  clear hr hb
  obtain ⟨AT, hAT⟩ : ∃ n, n = atF l i := ⟨_, rfl⟩
  have HAT := Aside0.mk hAT
  rw [← hAT]
  clear hAT
  have d1 : decide ((i : Int) < 0) = false := by simp only [decide_eq_false_iff_not]; omega
  have d2 : decide ((l.length : Int) ≤ (i : Int)) = false := by simp only [decide_eq_false_iff_not]; omega
  have d3 : decide (l.length ≤ i) = false := by simp only [decide_eq_false_iff_not]; omega
  go_enter Tryd.func20, Tryd.ntmps20
  go_wp2
  clear d1 d2 d3
  obtain ⟨g, hg⟩ : ∃ g, g = w.heap.size := ⟨_, rfl⟩
  obtain ⟨W0, hW0⟩ : ∃ W, W = w.alloc (.cells #[.slice A l.length c] 24) := ⟨_, rfl⟩
  have HX := Aside0.mk (show W0.heap[g]? = some (.cells #[.slice A l.length c] 24 (0, 0)) by rw [hW0, hg]; exact blk_new _ _)
  have HD := Aside0.mk (show Below w.heap.size w W0 by rw [hW0]; exact below_alloc (Below.refl _ _) _)
  rw [← hW0, ← hg]
  clear hW0 hg
  go_loopg [6, 18] i (fun gm v6 v18 w' => ∃ (k n : Nat), v18 = .int .i64 k ∧ v6 = .int .i64 n ∧ k + gm = i ∧ n ≤ 100000000 ∧ Aside0 (n = (logE (l.take k)).length) ∧ Aside0 (w'.heap[g]? = some (.cells #[.slice A l.length c] 24 (0, 0))) ∧ Aside0 (Below w.heap.size w w'))
  case atStart => exact ⟨0, 4, rfl, rfl, by omega, by omega, ⟨by simp [logE, magic, manyE]⟩, HX, HD⟩
  case round =>
    obtain ⟨k, n, rfl, rfl, hk, hn1, HN, HX, HD⟩ := hrel
    have g0 : wr.cell? ⟨g, 0, none⟩ = some (.slice A l.length c) := blk_cell HX.out 0
    by_cases hlt : k < i
    · have hkl : k < l.length := by omega
      obtain ⟨ad, A1, c1, e1, hx1, hc1, hC1⟩ := at_L2 HR.out k (by omega) (by omega)
      cases e1
      simp only [Int.toNat_natCast] at hx1
      have hx2 := (HD.out.cell (World.block_lt_of_cell? w _ hx1)).trans hx1
      have HX1 := Aside0.mk hx1
      have HA1 := Aside0.mk (fun (W : World) (hb_ : Below w.heap.size w W) (h0 : W.cell? ⟨g, 0, none⟩ = some (.slice (some ad) l.length c)) => at1_calls g (some ad) c l k W h0 (Kd.C_below HR.out hb_) hkl hn (HB.out _ (rd_mem2 hkl)))
      have HS := Aside0.mk (logE_succ hkl)
      have hb20 := HB.out _ (rd_mem2 hkl)
      have hpl := plen_le _ hb20
      have HLE := Aside0.mk (logE_le HB.out k (by omega))
      obtain ⟨b, hbb⟩ : ∃ b, b = rd_L2 l k := ⟨_, rfl⟩
      obtain ⟨P, hP⟩ : ∃ P, P = plen b := ⟨_, rfl⟩
      rw [← hbb, ← hP] at HA1 HS hpl
      rw [← hbb] at hx2 hb20
      clear hx1 hC1 hc1 hbb hP
      go_upto_region 8 with (fail)
      go_region_held3 (fun W' => W'.cell? ⟨g, 0, none⟩ = some (.slice (some ad) l.length c) ∧ W'.cell? (ad.add k) = some (.slice A1 b.length c1)) (first | exact ⟨g0, hx2⟩ | exact ⟨hg2, hx3⟩) (first | (go_at_call 28; refine (HA1.out wr.drew (pw_below_drewN HD.out 1) g0).mono ?_; rintro e w2 ⟨rfl, hb2⟩; have HD2 := Aside0.mk (below_step (show Below w.heap.size w wr.drew from pw_below_drewN HD.out 1) hb2); have HX2 := Aside0.mk (blk_below (show wr.drew.heap[g]? = some (.cells #[.slice (some ad) l.length c] 24 (0, 0)) from HX.out) hb2); have hg2 : w2.cell? ⟨g, 0, none⟩ = some (.slice (some ad) l.length c) := blk_cell HX2.out 0; have hx3 : w2.cell? (ad.add k) = some (.slice A1 b.length c1) := pw_cell_below hb2 (show wr.drew.cell? (ad.add k) = _ from hx2); clear hb2))
      rename_i hHeld_
      clear hHeld_ hg2 hx3 hx2 g0 HA1
      have w1_ : IntKind.i64.wrap ((P : Int) + b.length) = (P : Int) + b.length := i64w _ (by omega) (by omega)
      have w2_ : IntKind.i64.wrap ((P : Int) + b.length + 4) = (P : Int) + b.length + 4 := i64w _ (by omega) (by omega)
      have w3_ : IntKind.i64.wrap ((n : Int) + ((P : Int) + b.length + 4)) = ((n + (P + b.length + 4) : Nat) : Int) := (i64w _ (by omega) (by omega)).trans (by omega)
      rw [w1_, w2_, w3_]
      have hn2 : n + (P + b.length + 4) ≤ 100000000 := by
        have h1_ := HLE.out
        have h2_ := HN.out
        omega
      have HN2 := Aside0.mk (show n + (P + b.length + 4) = (logE (l.take (k + 1))).length by rw [HS.out, HN.out])
      clear w1_ w2_ w3_ HN HS HLE
      obtain ⟨n2, hn2_⟩ : ∃ n2, n2 = n + (P + b.length + 4) := ⟨_, rfl⟩
      rw [← hn2_] at HN2 hn2 ⊢
      clear hn2_
      go_wp2
      go_roundg (gk - 1)
      case measure => omega
      case rel => exact ⟨k + 1, n2, by go_num, rfl, by omega, hn2, HN2, HX2, HD2⟩
    · obtain rfl : k = i := by omega
      have HA1 := Aside0.mk (at1_calls g A c l k wr g0 (Kd.C_below HR.out HD.out) hi hn (HB.out _ (rd_mem2 hi)))
      have hpl := plen_le _ (HB.out _ (rd_mem2 hi))
      obtain ⟨P, hP⟩ : ∃ P, P = plen (rd_L2 l k) := ⟨_, rfl⟩
      have HE := Aside0.mk (show AT = n + P by rw [HAT.out, HN.out, hP]; rfl)
      rw [← hP] at HA1 hpl
      clear hP g0
      go_wp2_with (fail)
      refine HA1.out.mono ?_
      rintro e w2 ⟨rfl, hb2⟩
      have HD2 := Aside0.mk (below_step HD.out hb2)
      clear hb2
      go_wp2
      go_ret
      rw [HE.out]
      exact ⟨rfl, HD2.out⟩
theorem at_no (A : Option Addr) (c : Nat) (l : List (List Int)) (i : Int) (w : World) (hi : i < 0 ∨ (l.length : Int) ≤ i) :
    Calls Tryd.prog 20 #[.slice A l.length c, .int .i64 i] w fun e w' => e = .returned (.int .i64 (-1)) ∧ Below w.heap.size w w' := by
  by_cases h0 : i < 0
  · have d1 : decide ((i : Int) < 0) = true := by simp only [decide_eq_true_eq]; omega
    go_enter Tryd.func20, Tryd.ntmps20
    go_wp2
    go_ret
    exact ⟨rfl, below_alloc (Below.refl _ _) _⟩
  · have d1 : decide ((i : Int) < 0) = false := by simp only [decide_eq_false_iff_not]; omega
    have d2 : decide ((l.length : Int) ≤ (i : Int)) = true := by simp only [decide_eq_true_eq]; omega
    go_enter Tryd.func20, Tryd.ntmps20
    go_wp2
    go_ret
    exact ⟨rfl, below_alloc (Below.refl _ _) _⟩
end Go.Proofs.YtojagnoobaleaaaDoor.Ext
