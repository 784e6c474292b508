/- LineOver's walk: by hand. Written by a program of this session (wip/tools). -/
import Derived.Test.YtjflbjlkcifpdaaDoorOverP
import Derived.OwnWalk
namespace Go.Proofs.YtjflbjlkcifpdaaDoor.Ext
open Go.RowKit Go.Proofs.YtjflbjlkcifpdaaDoor.Xa Go.Proofs.YtjflbjlkcifpdaaDoorW.PrintWords Go.Proofs.YtjflbjlkcifpdaaDoorW.PrintLast Go.Proofs.YtjflbjlkcifpdaaDoorW.PrintMore
open Go.Maps (Tidy)
set_option linter.unusedVariables false
set_option linter.unusedSimpArgs false
theorem info29 : (Tryd.prog.info? 29).map (fun i => (i.zero, i.size, i.bytes)) = some (some (.int .u64 0), 1, 8) := by kernel_rfl
theorem rd_take (l : List Int) (I : Int) (h0 : 0 ≤ I) (h1 : I < l.length) : l.take (I + 1).toNat = l.take I.toNat ++ [rd l I] := by
  have hi : I.toNat < l.length := by omega
  rw [show (I + 1).toNat = I.toNat + 1 by omega, List.take_succ_eq_append_getElem hi]
  simp [rd, List.getD_eq_getElem?_getD, List.getElem?_eq_getElem hi]
set_option maxHeartbeats 2000000 in
theorem in_calls (A0 : Option Addr) (c0 : Nat) (l : List Int) (x : Int) (w : World) (hr : Kd.C (Kd.int .u64) w A0 l.length l) :
    Calls Tryd.prog 12 #[.slice A0 l.length c0, .int .u64 x] w fun e w' => e = .returned (.bool (l.contains x)) ∧ w' = w := by
  have HR := Aside0.mk hr
  obtain ⟨n, hnl⟩ : ∃ n : Int, (l.length : Int) = n := ⟨_, rfl⟩
  have HN := Aside0.mk hnl
  have hn0 : 0 ≤ n := by omega
  have hn1 : n ≤ 9223372036854775807 := by have := hr.2.1; omega
  clear hr
  go_enter Tryd.func12, Tryd.ntmps12
  go_wp2_with (fail)
  go_loopg [5] n.toNat (fun m v5 W => ∃ I : Int, v5 = .int .i64 I ∧ 0 ≤ I ∧ I + m = n ∧ W = w ∧ Aside0 ((l.take I.toNat).contains x = false))
  case atStart => exact ⟨0, rfl, Int.le_refl _, by omega, rfl, ⟨by simp⟩⟩
  case round =>
    obtain ⟨I, rfl, hI0, hIm, rfl, HX⟩ := hrel
    by_cases hi : I < n
    · obtain ⟨ad, hA, e0⟩ := Kd.at_int HR.out I hI0 (by have := HN.out; omega)
      subst hA
      obtain ⟨y, hy⟩ : ∃ y, rd l I = y := ⟨_, rfl⟩
      rw [hy] at e0
      have HY := Aside0.mk hy
      have HT := Aside0.mk (rd_take l I hI0 (by have := HN.out; omega))
      clear hy
      by_cases hxy : y = x
      · have hc : l.contains x = true := by
          have h1 : (l.take (I + 1).toNat).contains x = true := by rw [HT.out, HY.out, hxy]; simp
          rw [List.contains_iff_mem] at h1 ⊢
          exact List.mem_of_mem_take h1
        have HC := Aside0.mk hc
        clear hc
        go_wp2
        go_ret
        exact ⟨by first | (rw [HC.out]; rfl) | (have h := HC.out; rw [List.contains_eq_mem] at h; rw [h]; rfl), rfl⟩
      · have hxy2 : (y == x) = false := by rw [beq_eq_false_iff_ne]; exact hxy
        go_wp2
        go_roundg (gk - 1)
        case measure => omega
        case rel => exact ⟨I + 1, by go_num, by omega, by omega, rfl, ⟨by rw [HT.out, HY.out]; have h := HX.out; simp only [List.contains_eq_mem, decide_eq_false_iff_not, List.mem_append, List.mem_singleton] at h ⊢; intro hh; rcases hh with hh | hh; exact h hh; exact hxy hh.symm⟩⟩
    · have hc : l.contains x = false := by have h := HX.out; rwa [List.take_of_length_le (by have := HN.out; omega)] at h
      have HC := Aside0.mk hc
      clear hc
      go_wp2
      go_ret
      exact ⟨by first | (rw [HC.out]; rfl) | (have h := HC.out; rw [List.contains_eq_mem] at h; rw [h]; rfl), rfl⟩
/-- The line and the two rows. -/
structure Ov (w W : World) (g gm : Nat) (vo vb : Value) (X : LS) (os bs : List Int) : Prop where
  ln : Wl w W g gm X
  ro : Kd.R (Kd.int .u64) 29 W w.heap.size (fun k => (k ≠ g ∧ k ≠ gm) ∧ some k ≠ vb.ownBlock) vo os
  rb : Kd.R (Kd.int .u64) 29 W w.heap.size (fun k => (k ≠ g ∧ k ≠ gm) ∧ some k ≠ vo.ownBlock) vb bs
section
variable {w W W1 : World} {g gm : Nat} {vo vb v1 : Value} {X X1 : LS} {os bs ys : List Int}
theorem Ov.start (h : Wl w W g gm X) : Ov w W g gm (.slice none 0 0) (.slice none 0 0) X [] [] := ⟨h, Kd.R_nil _ _ _ _ _, Kd.R_nil _ _ _ _ _⟩
theorem Ov.feed (h : Ov w W g gm vo vb X os bs) (hl : Ln W1 g gm X1) (hv : Mv W W1 g gm) : Ov w W1 g gm vo vb X1 os bs :=
  ⟨h.ln.feed hl hv, Kd.R_step h.ro (fun k hk hlt => hv.block k hlt hk.1.1 hk.1.2), Kd.R_step h.rb (fun k hk hlt => hv.block k hlt hk.1.1 hk.1.2)⟩
theorem Ov.freshB (h : Ov w W g gm vo vb X os bs) : ∀ k, W.heap.size ≤ k → (k ≠ g ∧ k ≠ gm) ∧ some k ≠ vo.ownBlock := fun k hk =>
  ⟨⟨by have := h.ln.ln.lt; omega, by have := h.ln.ln.ltm; omega⟩, fun he => by have := Kd.R_lt h.ro k he.symm; omega⟩
theorem Ov.freshO (h : Ov w W g gm vo vb X os bs) : ∀ k, W.heap.size ≤ k → (k ≠ g ∧ k ≠ gm) ∧ some k ≠ vb.ownBlock := fun k hk =>
  ⟨⟨by have := h.ln.ln.lt; omega, by have := h.ln.ln.ltm; omega⟩, fun he => by have := Kd.R_lt h.rb k he.symm; omega⟩
theorem ln_grown {row : Option Nat} (h : Ln W g gm X) (hg : W.grownBy W1 row) (h1 : some g ≠ row) (h2 : some gm ≠ row) : Ln W1 g gm X := h.step (hg.block g h.lt h1) (hg.block gm h.ltm h2)
theorem Ov.pushB (h : Ov w W g gm vo vb X os bs) (hR : Kd.R (Kd.int .u64) 29 W1 w.heap.size (fun k => (k ≠ g ∧ k ≠ gm) ∧ some k ≠ vo.ownBlock) v1 ys) (hb : Below w.heap.size w W1) (hg : W.grownBy W1 vb.ownBlock) (hat : v1.ownBlock = vb.ownBlock ∨ ∃ b, v1.ownBlock = some b ∧ W.heap.size ≤ b) : Ov w W1 g gm vo v1 X os ys :=
  ⟨⟨hb, ln_grown h.ln.ln hg (fun he => (h.rb.1 g he.symm).1.1 rfl) (fun he => (h.rb.1 gm he.symm).1.2 rfl), h.ln.lo, h.ln.lom⟩, Kd.R_after h.ro hg hat, hR⟩
theorem Ov.pushO (h : Ov w W g gm vo vb X os bs) (hR : Kd.R (Kd.int .u64) 29 W1 w.heap.size (fun k => (k ≠ g ∧ k ≠ gm) ∧ some k ≠ vb.ownBlock) v1 ys) (hb : Below w.heap.size w W1) (hg : W.grownBy W1 vo.ownBlock) (hat : v1.ownBlock = vo.ownBlock ∨ ∃ b, v1.ownBlock = some b ∧ W.heap.size ≤ b) : Ov w W1 g gm v1 vb X ys bs :=
  ⟨⟨hb, ln_grown h.ln.ln hg (fun he => (h.ro.1 g he.symm).1.1 rfl) (fun he => (h.ro.1 gm he.symm).1.2 rfl), h.ln.lo, h.ln.lom⟩, hR, Kd.R_after h.rb hg hat⟩
end
set_option maxHeartbeats 8000000 in
set_option maxRecDepth 100000 in
theorem over_calls (A0 : Option Addr) (c0 : Nat) (l : List S31) (w : World) (hG : Glob w) (hr : Kd.C k31 w A0 l.length l) (hwf : ∀ i, (Lit.int .u64 (rd_T31 l i).f2).wf = true) (hwt : ∀ i, (Lit.int .u64 (rd_T31 l i).f1).wf = true) :
    Calls Tryd.prog 3 #[.slice A0 l.length c0] w fun e w' => e = .returned (.bool true) ∧ Below w.heap.size w w' := by
  have HG := Aside0.mk hG
  have HR := Aside0.mk hr
  have HWF := Aside0.mk hwf
  have HWT := Aside0.mk hwt
  obtain ⟨n, hnl⟩ : ∃ n : Int, (l.length : Int) = n := ⟨_, rfl⟩
  have HN := Aside0.mk hnl
  have hn0 : 0 ≤ n := by omega
  have hn1 : n ≤ 9223372036854775807 := by have := hr.2.1; omega
  clear hG hr hwf hwt
  go_enter Tryd.func3, Tryd.ntmps3
  go_wp2_with (fail)
  refine (shown_calls w HG.out).mono ?_
  rintro e w0 ⟨rfl, hb0⟩
  have HB0 := Aside0.mk hb0
  clear hb0
  go_wp2_with (fail)
  refine (new_calls w0).mono ?_
  rintro e w1 ⟨g, gm, rfl, hl, hg, hm, hb⟩
  have H1 := Aside0.mk (Wl.mk (below_then HB0.out HB0.out.size hb) hl (Nat.le_trans HB0.out.size hg) (Nat.le_trans HB0.out.size hm))
  clear hl hg hm hb
  go_wp2_with (fail)
  go_loopg [5, 6, 7] n.toNat (fun m v5 v6 v7 W => ∃ (I : Int) (X : LS) (os bs : List Int) (vo vb : Value), v5 = vo ∧ v6 = vb ∧ v7 = .int .i64 I ∧ 0 ≤ I ∧ I ≤ 200 ∧ I + m = n ∧ Aside0 (Ov w W g gm vo vb X os bs ∧ Ovp X os bs ∧ (os.length : Int) ≤ I ∧ (bs.length : Int) ≤ I))
  case atStart => exact ⟨0, L0, [], [], _, _, rfl, rfl, rfl, Int.le_refl _, by omega, by omega, ⟨Ov.start H1.out, Ovp.start, by simp, by simp⟩⟩
  case round =>
    obtain ⟨I, X, os, bs, vo, vb, rfl, rfl, rfl, hI0, hI200, hIm, HXT⟩ := hrel
    have HX := Aside0.mk HXT.out.1
    have HP := Aside0.mk HXT.out.2.1
    have HLL := Aside0.mk HXT.out.2.2
    clear HXT
    obtain ⟨Ao, co, hvo, hco, hCo⟩ := Kd.R_reads HX.out.ro
    obtain ⟨Ab, cb, hvb, hcb, hCb⟩ := Kd.R_reads HX.out.rb
    subst hvo
    subst hvb
    clear hcb hco hCb hCo
    by_cases hi : I < n
    · by_cases hi2 : I < 200
      · obtain ⟨ad, hA, e0, e1, e2, e3, e4, e5, e6, e7, e8, e9⟩ := at_T31 (Kd.C_below HR.out HX.out.ln.bel) I hI0 (by have := HN.out; omega)
        subst hA
        go_wp2_with (fail)
        refine (feed_calls (rd_T31 l I) (HG.out.below HX.out.ln.bel) HX.out.ln.ln (HWF.out I)).mono ?_
        obtain ⟨r, hr⟩ : ∃ r, (feedF X (rd_T31 l I)).1 = r := ⟨_, rfl⟩
        have HRR := Aside0.mk hr
        rw [hr]
        rintro e w3 ⟨rfl, hl, hv⟩
        have HX2 := Aside0.mk (HX.out.feed hl hv)
        clear hl hv HX hr
        clear e0 e1 e2 e3 e4 e5 e6 e7 e8 e9
        obtain ⟨ad2, hA2, e0, e1, e2, e3, e4, e5, e6, e7, e8, e9⟩ := at_T31 (Kd.C_below HR.out HX2.out.ln.bel) I hI0 (by have := HN.out; omega)
        obtain rfl := Option.some.inj hA2
        clear hA2
        obtain ⟨F0, hF0⟩ : ∃ F, (rd_T31 l I).f0 = F := ⟨_, rfl⟩
        obtain ⟨F2, hF2⟩ : ∃ F, (rd_T31 l I).f2 = F := ⟨_, rfl⟩
        rw [hF0] at e0
        rw [hF2] at e2
        have HF0 := Aside0.mk hF0
        have HF2 := Aside0.mk hF2
        clear hF0 hF2
        by_cases hr0 : r = 0
        case neg =>
          have hx : (r == 0) = false := by rw [beq_eq_false_iff_ne]; exact hr0
          have HX3 : Aside0 (Ov w w3 g gm (.slice Ao os.length co) (.slice Ab bs.length cb) X os bs) := by have t := HX2.out; rw [feedF_no X _ (by rw [HRR.out]; exact hr0)] at t; exact ⟨t⟩
          go_wp2
          all_goals
            go_roundg (gk - 1)
            case measure => omega
            case rel => exact ⟨I + 1, X, os, bs, _, _, rfl, rfl, rfl, by omega, by omega, by omega, ⟨HX3.out, HP.out, by have h := HLL.out; omega, by have h := HLL.out; omega⟩⟩
        case pos =>
        subst hr0
        have HTK := Aside0.mk ((feedF_ok X _).1 HRR.out)
        have HX3 : Aside0 (Ov w w3 g gm (.slice Ao os.length co) (.slice Ab bs.length cb) (next X (rd_T31 l I)) os bs) := by have t := HX2.out; rw [feedF_next HTK.out] at t; exact ⟨t⟩
        clear HX2
        have HKD := Aside0.mk (rightS_kind HTK.out.right)
        by_cases h3 : F0 < 3
        case pos =>
          have HP2 := Aside0.mk (HP.out.alone (e := rd_T31 l I) (by have h1 := HKD.out; have h2 := HF0.out; show _ ∨ _; omega))
          go_wp2
          all_goals
            go_roundg (gk - 1)
            case measure => omega
            case rel => exact ⟨I + 1, _, os, bs, _, _, rfl, rfl, rfl, by omega, by omega, by omega, ⟨HX3.out, HP2.out, by have h := HLL.out; omega, by have h := HLL.out; omega⟩⟩
        case neg =>
        have h3 : 3 ≤ F0 := by omega
        have hno : os.contains F2 = false := by have h := HP.out.notOver HTK.out (by rw [HF0.out]; exact h3); rwa [HF2.out] at h
        go_wp2_with (fail)
        refine (in_calls Ao co os F2 w3 (Kd.R_reads' HX3.out.ro).2.2).mono ?_
        rw [hno]
        rintro e w4 ⟨rfl, hw4⟩
        subst w4
        clear hno
        by_cases hs : F0 = 3
        case pos =>
          subst hs
          have hne : bs.contains F2 = false := by have h := HP.out.newOne HTK.out HF0.out; rwa [HF2.out] at h
          go_wp2_with (fail)
          refine (in_calls Ab cb bs F2 w3 (Kd.R_reads' HX3.out.rb).2.2).mono ?_
          rw [hne]
          rintro e w4 ⟨rfl, hw4⟩
          subst w4
          clear hne
          have HP2 := Aside0.mk (HP.out.begin HTK.out HF0.out)
          rw [HF2.out] at HP2
          go_wp2_with (first
            | ((with_reducible refine gate_dst (N := 94) rfl ?_); refine Kd.R_append (Kd.int .u64) (w0 := w) w.heap.size ?hgd_m (.tmp 87) (.tmp 93) 26 29 (.int .u64 0) 8 ?ho_m Tryd.underlying26 info29 rfl (by decide) (by decide) (.slice Ab bs.length cb) bs F2 [.int .u64 F2] (fun k => (k ≠ g ∧ k ≠ gm) ∧ some k ≠ (Value.slice Ao os.length co).ownBlock) (fun _ => False) ?hs_m ?hx_m rfl (fun _ h => h.elim) HX3.out.freshB HX3.out.rb HX3.out.ln.bel HX3.out.ln.bel.size ?hl_m ?_; (case hgd_m => rfl); (case ho_m => rfl); (case hs_m => rfl); (case hx_m => rfl); (case hl_m => have h_ := HLL.out; omega); intro v1 w4 hR2 hb2 hg2 hat2; have HX4 := Aside0.mk (HX3.out.pushB hR2 hb2 hg2 hat2); clear hR2 hb2 hg2 hat2 HX3; clear e0 e1 e2 e3 e4 e5 e6 e7 e8 e9; obtain ⟨ad4, hA4, e0, e1, e2, e3, e4, e5, e6, e7, e8, e9⟩ := at_T31 (Kd.C_below HR.out HX4.out.ln.bel) I hI0 (by have := HN.out; omega); obtain rfl := Option.some.inj hA4; clear hA4; rw [HF0.out] at e0; rw [HF2.out] at e2))
          all_goals
            go_roundg (gk - 1)
            case measure => omega
            case rel => exact ⟨I + 1, _, os, _, _, _, rfl, rfl, rfl, by omega, by omega, by omega, ⟨HX4.out, HP2.out, by have h := HLL.out; first | omega | (simp only [List.length_append, List.length_singleton]; omega), by have h := HLL.out; first | omega | (simp only [List.length_append, List.length_singleton]; omega)⟩⟩
        case neg =>
        have hol : bs.contains F2 = true := by have h := HP.out.oldOne HTK.out (by rw [HF0.out]; omega); rwa [HF2.out] at h
        go_wp2_with (fail)
        refine (in_calls Ab cb bs F2 w3 (Kd.R_reads' HX3.out.rb).2.2).mono ?_
        rw [hol]
        rintro e w4 ⟨rfl, hw4⟩
        subst w4
        clear hol
        by_cases hd : F0 = 13 ∨ F0 = 14
        case neg =>
          have h13 : ¬ F0 = 13 := fun h => hd (.inl h)
          have h14 : ¬ F0 = 14 := fun h => hd (.inr h)
          have h13b : (F0 == 13) = false := by rw [beq_eq_false_iff_ne]; exact h13
          have h14b : (F0 == 14) = false := by rw [beq_eq_false_iff_ne]; exact h14
          have HP2 := Aside0.mk (HP.out.on HTK.out (by rw [HF0.out]; omega) (by have h1 := HKD.out; have h2 := HF0.out; omega))
          clear hd
          go_wp2
          all_goals
            go_roundg (gk - 1)
            case measure => omega
            case rel => exact ⟨I + 1, _, os, bs, _, _, rfl, rfl, rfl, by omega, by omega, by omega, ⟨HX3.out, HP2.out, by have h := HLL.out; omega, by have h := HLL.out; omega⟩⟩
        case pos =>
        have HP2 := Aside0.mk (HP.out.end_ HTK.out (by rw [HF0.out]; exact hd))
        have HST := Aside0.mk (end_st (e := rd_T31 l I) HP.out.tidy (by rw [HF0.out]; exact hd))
        rw [HF2.out] at HP2 HST
        have hfw := HWF.out I
        rw [HF2.out] at hfw
        have HFW := Aside0.mk hfw
        clear hfw
        rcases hd with rfl | rfl
        · go_wp2_with (first
            | ((with_reducible refine gate_dst (N := 116) rfl ?_); refine Kd.R_append (Kd.int .u64) (w0 := w) w.heap.size ?hgd_m (.tmp 109) (.tmp 115) 26 29 (.int .u64 0) 8 ?ho_m Tryd.underlying26 info29 rfl (by decide) (by decide) (.slice Ao os.length co) os F2 [.int .u64 F2] (fun k => (k ≠ g ∧ k ≠ gm) ∧ some k ≠ (Value.slice Ab bs.length cb).ownBlock) (fun _ => False) ?hs_m ?hx_m rfl (fun _ h => h.elim) HX3.out.freshO HX3.out.ro HX3.out.ln.bel HX3.out.ln.bel.size ?hl_m ?_; (case hgd_m => rfl); (case ho_m => rfl); (case hs_m => rfl); (case hx_m => rfl); (case hl_m => have h_ := HLL.out; omega); intro v1 w4 hR2 hb2 hg2 hat2; have HX4 := Aside0.mk (HX3.out.pushO hR2 hb2 hg2 hat2); clear hR2 hb2 hg2 hat2 HX3; clear e0 e1 e2 e3 e4 e5 e6 e7 e8 e9; obtain ⟨ad4, hA4, e0, e1, e2, e3, e4, e5, e6, e7, e8, e9⟩ := at_T31 (Kd.C_below HR.out HX4.out.ln.bel) I hI0 (by have := HN.out; omega); obtain rfl := Option.some.inj hA4; clear hA4; rw [HF0.out] at e0; rw [HF2.out] at e2))
          refine (state_calls HX4.out.ln.ln HFW.out).mono ?_
          rw [HST.out]
          rintro e w5 ⟨rfl, hw5⟩
          subst w5
          go_wp2
          all_goals
            go_roundg (gk - 1)
            case measure => omega
            case rel => exact ⟨I + 1, _, _, bs, _, _, rfl, rfl, rfl, by omega, by omega, by omega, ⟨HX4.out, HP2.out, by have h := HLL.out; first | omega | (simp only [List.length_append, List.length_singleton]; omega), by have h := HLL.out; first | omega | (simp only [List.length_append, List.length_singleton]; omega)⟩⟩
        · go_wp2_with (first
            | ((with_reducible refine gate_dst (N := 116) rfl ?_); refine Kd.R_append (Kd.int .u64) (w0 := w) w.heap.size ?hgd_m (.tmp 109) (.tmp 115) 26 29 (.int .u64 0) 8 ?ho_m Tryd.underlying26 info29 rfl (by decide) (by decide) (.slice Ao os.length co) os F2 [.int .u64 F2] (fun k => (k ≠ g ∧ k ≠ gm) ∧ some k ≠ (Value.slice Ab bs.length cb).ownBlock) (fun _ => False) ?hs_m ?hx_m rfl (fun _ h => h.elim) HX3.out.freshO HX3.out.ro HX3.out.ln.bel HX3.out.ln.bel.size ?hl_m ?_; (case hgd_m => rfl); (case ho_m => rfl); (case hs_m => rfl); (case hx_m => rfl); (case hl_m => have h_ := HLL.out; omega); intro v1 w4 hR2 hb2 hg2 hat2; have HX4 := Aside0.mk (HX3.out.pushO hR2 hb2 hg2 hat2); clear hR2 hb2 hg2 hat2 HX3; clear e0 e1 e2 e3 e4 e5 e6 e7 e8 e9; obtain ⟨ad4, hA4, e0, e1, e2, e3, e4, e5, e6, e7, e8, e9⟩ := at_T31 (Kd.C_below HR.out HX4.out.ln.bel) I hI0 (by have := HN.out; omega); obtain rfl := Option.some.inj hA4; clear hA4; rw [HF0.out] at e0; rw [HF2.out] at e2))
          refine (state_calls HX4.out.ln.ln HFW.out).mono ?_
          rw [HST.out]
          rintro e w5 ⟨rfl, hw5⟩
          subst w5
          go_wp2
          all_goals
            go_roundg (gk - 1)
            case measure => omega
            case rel => exact ⟨I + 1, _, _, bs, _, _, rfl, rfl, rfl, by omega, by omega, by omega, ⟨HX4.out, HP2.out, by have h := HLL.out; first | omega | (simp only [List.length_append, List.length_singleton]; omega), by have h := HLL.out; first | omega | (simp only [List.length_append, List.length_singleton]; omega)⟩⟩
      · go_wp2_with (fail)
        refine (open_calls HX.out.ln.ln).mono ?_
        rw [HP.out.op]
        rintro e w3 ⟨rfl, hw3⟩
        subst w3
        obtain ⟨B, hB⟩ : ∃ B : Int, (bs.length : Int) = B := ⟨_, rfl⟩
        obtain ⟨O, hO⟩ : ∃ B : Int, (os.length : Int) = B := ⟨_, rfl⟩
        have hB0 : 0 ≤ B := by omega
        have hO0 : 0 ≤ O := by omega
        have hB1 : B ≤ 200 := by have h := HLL.out; omega
        have hO1 : O ≤ 200 := by have h := HLL.out; omega
        rw [hB, hO]
        go_wp2
        go_ret
        exact ⟨rfl, HX.out.ln.bel⟩
    · go_wp2_with (fail)
      refine (open_calls HX.out.ln.ln).mono ?_
      rw [HP.out.op]
      rintro e w3 ⟨rfl, hw3⟩
      subst w3
      obtain ⟨B, hB⟩ : ∃ B : Int, (bs.length : Int) = B := ⟨_, rfl⟩
      obtain ⟨O, hO⟩ : ∃ B : Int, (os.length : Int) = B := ⟨_, rfl⟩
      have hB0 : 0 ≤ B := by omega
      have hO0 : 0 ≤ O := by omega
      have hB1 : B ≤ 200 := by have h := HLL.out; omega
      have hO1 : O ≤ 200 := by have h := HLL.out; omega
      rw [hB, hO]
      go_wp2
      go_ret
      exact ⟨rfl, HX.out.ln.bel⟩
end Go.Proofs.YtjflbjlkcifpdaaDoor.Ext
