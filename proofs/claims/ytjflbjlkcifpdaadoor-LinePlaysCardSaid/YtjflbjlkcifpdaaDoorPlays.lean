/- LinePlays: by hand. Written by a program of this session (wip/tools). -/
import Derived.Test.YtjflbjlkcifpdaaDoorPlaysP
import Derived.OwnWalk
namespace Go.Proofs.YtjflbjlkcifpdaaDoor.Ext
open Go.RowKit Go.Proofs.YtjflbjlkcifpdaaDoor.Xa Go.Proofs.YtjflbjlkcifpdaaDoorW.PrintWords Go.Proofs.YtjflbjlkcifpdaaDoorW.PrintLast Go.Proofs.YtjflbjlkcifpdaaDoorW.PrintMore
open Go.Maps (Tidy)
open Go.Proofs.YtjflbjlkcifpdaaDoor.Pure (Pl refSt refOp feed_ref state_f open_f)
set_option linter.unusedVariables false
set_option linter.unusedSimpArgs false
theorem info31 : (Tryd.prog.info? 31).map (fun i => (i.zero, i.size, i.bytes)) = some (some (.agg #[.int .i64 0, .int .u64 0, .int .u64 0, .string ⟨#[]⟩, .string ⟨#[]⟩, .string ⟨#[]⟩, .string ⟨#[]⟩, .int .i64 0, .int .i64 0, .int .i64 0]), 10, 112) := by kernel_rfl
theorem rd_snoc (ys : List S31) (e : S31) (P : S31 → Prop) (h : ∀ i, P (rd_T31 ys i)) (he : P e) (hz : P z31) : ∀ i, P (rd_T31 (ys ++ [e]) i) := by
  intro i
  by_cases h1 : i.toNat < ys.length
  · have := h i
    simp only [rd_T31, List.getD_eq_getElem?_getD, List.getElem?_append_left h1] at this ⊢
    exact this
  · by_cases h2 : i.toNat = ys.length
    · simpa [rd_T31, List.getD_eq_getElem?_getD, h2] using he
    · have h3 : (ys ++ [e])[i.toNat]? = none := List.getElem?_eq_none (by simp; omega)
      simpa [rd_T31, List.getD_eq_getElem?_getD, h3] using hz
/-- The line and what it took. -/
structure Ag (w W : World) (g gm : Nat) (v : Value) (X : LS) (ys : List S31) : Prop where
  ln : Wl w W g gm X
  rt : Kd.R k31 31 W w.heap.size (fun k => k ≠ g ∧ k ≠ gm) v ys
section
variable {w W W1 : World} {g gm : Nat} {v v1 : Value} {X X1 : LS} {ys zs : List S31}
theorem Ag.start (h : Wl w W g gm X) : Ag w W g gm (.slice none 0 0) X [] := ⟨h, Kd.R_nil _ _ _ _ _⟩
theorem Ag.feed (h : Ag w W g gm v X ys) (hl : Ln W1 g gm X1) (hv : Mv W W1 g gm) : Ag w W1 g gm v X1 ys :=
  ⟨h.ln.feed hl hv, Kd.R_step h.rt (fun k hk hlt => hv.block k hlt hk.1 hk.2)⟩
theorem Ag.fresh (h : Ag w W g gm v X ys) : ∀ k, W.heap.size ≤ k → (k ≠ g ∧ k ≠ gm) := fun k hk => ⟨by have := h.ln.ln.lt; omega, by have := h.ln.ln.ltm; omega⟩
theorem ln_grown {row : Option Nat} (h : Ln W g gm X) (hg : W.grownBy W1 row) (h1 : some g ≠ row) (h2 : some gm ≠ row) : Ln W1 g gm X := h.step (hg.block g h.lt h1) (hg.block gm h.ltm h2)
theorem Ag.below (h : Ag w W g gm v X ys) (hb : Below W.heap.size W W1) : Ag w W1 g gm v X ys := ⟨h.ln.below hb, Kd.R_below h.rt hb⟩
theorem Ag.push (h : Ag w W g gm v X ys) (hR : Kd.R k31 31 W1 w.heap.size (fun k => k ≠ g ∧ k ≠ gm) v1 zs) (hb : Below w.heap.size w W1) (hg : W.grownBy W1 v.ownBlock) : Ag w W1 g gm v1 X zs :=
  ⟨⟨hb, ln_grown h.ln.ln hg (fun he => (h.rt.1 g he.symm).1 rfl) (fun he => (h.rt.1 gm he.symm).2 rfl), h.ln.lo, h.ln.lom⟩, hR⟩
end
set_option maxHeartbeats 8000000 in
set_option maxRecDepth 100000 in
theorem plays_calls (A0 : Option Addr) (c0 : Nat) (l : List S31) (w : World) (hG : Glob w) (hr : Kd.C k31 w A0 l.length l) (hwf : ∀ i, (Lit.int .u64 (rd_T31 l i).f2).wf = true) (hwt : ∀ i, (Lit.int .u64 (rd_T31 l i).f1).wf = true) :
    Calls Tryd.prog 5 #[.slice A0 l.length c0] w fun e w' => e = .returned (.bool true) ∧ Below w.heap.size w w' := by
  have HG := Aside0.mk hG
  have HR := Aside0.mk hr
  have HWF := Aside0.mk hwf
  have HWT := Aside0.mk hwt
  obtain ⟨n, hnl⟩ : ∃ n : Int, (l.length : Int) = n := ⟨_, rfl⟩
  have HN := Aside0.mk hnl
  have hn0 : 0 ≤ n := by omega
  have hn1 : n ≤ 9223372036854775807 := by have := hr.2.1; omega
  clear hG hr hwf hwt
  go_enter Tryd.func5, Tryd.ntmps5
  go_wp2_with (fail)
  refine (shown_calls w HG.out).mono ?_
  rintro e w0 ⟨rfl, hb0⟩
  have HB0 := Aside0.mk hb0
  clear hb0
  go_wp2_with (fail)
  refine (new_calls w0).mono ?_
  rintro e w1 ⟨g, gm, rfl, hl, hg, hm, hb⟩
  have H1 := Aside0.mk (Wl.mk (below_then HB0.out HB0.out.size hb) hl (Nat.le_trans HB0.out.size hg) (Nat.le_trans HB0.out.size hm))
  clear hl hg hm hb
  go_wp2_with (fail)
  go_loopg [5, 6] n.toNat (fun m v5 v6 W => ∃ (I : Int) (X : LS) (ys : List S31) (vt : Value), v5 = vt ∧ v6 = .int .i64 I ∧ 0 ≤ I ∧ I ≤ 200 ∧ I + m = n ∧ Aside0 (Ag w W g gm vt X ys ∧ Pl X ys ∧ (ys.length : Int) ≤ I))
  case atStart => exact ⟨0, L0, [], _, rfl, rfl, Int.le_refl _, by omega, by omega, ⟨Ag.start H1.out, Pl.start, by simp⟩⟩
  case round =>
    obtain ⟨I, X, ys, vt, rfl, rfl, hI0, hI200, hIm, HXT⟩ := hrel
    have HX := Aside0.mk HXT.out.1
    have HP := Aside0.mk HXT.out.2.1
    have HLL := Aside0.mk HXT.out.2.2
    clear HXT
    obtain ⟨At, ct, hvt, hct, hCt⟩ := Kd.R_reads HX.out.rt
    subst hvt
    have HCT := Aside0.mk hct
    clear hct hCt
    by_cases hi : I < n
    · by_cases hi2 : I < 200
      · obtain ⟨ad, hA, e0, e1, e2, e3, e4, e5, e6, e7, e8, e9⟩ := at_T31 (Kd.C_below HR.out HX.out.ln.bel) I hI0 (by have := HN.out; omega)
        subst hA
        go_wp2_with (fail)
        refine (feed_calls (rd_T31 l I) (HG.out.below HX.out.ln.bel) HX.out.ln.ln (HWF.out I)).mono ?_
        have hfr := feed_ref (e := rd_T31 l I) HP.out (by have h := HLL.out; omega) (u64_wf.1 (HWT.out I)).1
        obtain ⟨r, hr⟩ : ∃ r, (feedF X (rd_T31 l I)).1 = r := ⟨_, rfl⟩
        have HRR := Aside0.mk hr
        rw [hr] at hfr ⊢
        have HFR := Aside0.mk hfr
        rintro e w3 ⟨rfl, hl, hv⟩
        have HX2 := Aside0.mk (HX.out.feed hl hv)
        clear hl hv HX hr hfr
        clear e0 e1 e2 e3 e4 e5 e6 e7 e8 e9
        obtain ⟨ad2, hA2, e0, e1, e2, e3, e4, e5, e6, e7, e8, e9⟩ := at_T31 (Kd.C_below HR.out HX2.out.ln.bel) I hI0 (by have := HN.out; omega)
        obtain rfl := Option.some.inj hA2
        clear hA2
        go_wp2_with (fail)
        refine (transeptref15_Feed.calls 2000 At ct ys (rd_T31 l I).f0 (rd_T31 l I).f1 (rd_T31 l I).f2 (rd_T31 l I).f3 (rd_T31 l I).f4 (rd_T31 l I).f5 (rd_T31 l I).f6 (rd_T31 l I).f7 (rd_T31 l I).f8 (rd_T31 l I).f9 r w3 (Kd.R_reads' HX2.out.rt).2.2 HCT.out HFR.out).mono ?_
        rintro e w4 ⟨rfl, hb4⟩
        have HX3 := Aside0.mk (HX2.out.below hb4)
        clear hb4 HX2
        clear e0 e1 e2 e3 e4 e5 e6 e7 e8 e9
        obtain ⟨ad4, hA4, e0, e1, e2, e3, e4, e5, e6, e7, e8, e9⟩ := at_T31 (Kd.C_below HR.out HX3.out.ln.bel) I hI0 (by have := HN.out; omega)
        obtain rfl := Option.some.inj hA4
        clear hA4
        by_cases hr0 : r = 0
        case neg =>
          have hx : (r == 0) = false := by rw [beq_eq_false_iff_ne]; exact hr0
          have HX4 : Aside0 (Ag w w4 g gm (.slice At ys.length ct) X ys) := by have t := HX3.out; rw [feedF_no X _ (by rw [HRR.out]; exact hr0)] at t; exact ⟨t⟩
          obtain ⟨zs, hzs⟩ : ∃ zs, ys = zs := ⟨_, rfl⟩
          subst hzs
          obtain ⟨m2, hm2⟩ : ∃ m : Int, (ys.length : Int) = m := ⟨_, rfl⟩
          have HM2 := Aside0.mk hm2
          have hm20 : 0 ≤ m2 := by omega
          have hm21 : m2 ≤ 200 := by have h := HLL.out; omega
          have HLZ : Aside0 ((ys.length : Int) ≤ I + 1) := ⟨by have h := HLL.out; omega⟩
          have HP2 := HP
          by_cases hp : 0 < m2
          case pos =>
            have HCX := HCT
            obtain ⟨L, hL⟩ : ∃ L, X.last = L := ⟨_, rfl⟩
            have HLA := Aside0.mk hL
            obtain ⟨az, hAz, z0, z1, z2, z3, z4, z5, z6, z7, z8, z9⟩ := at_T31 (Kd.R_reads' HX4.out.rt).2.2 (m2 - 1) (by omega) (by omega)
            subst hAz
            rw [show (rd_T31 ys (m2 - 1)).f1 = L by rw [← hm2, ← hL]; exact (HP2.out.last (by omega)).symm] at z1
            rw [show (m2 - 1).toNat = m2.toNat - 1 by omega] at z1
            clear z0 z2 z3 z4 z5 z6 z7 z8 z9 hL
            go_wp2_with (fail)
            obtain ⟨F2, hF2⟩ : ∃ F, (rd_T31 l I).f2 = F := ⟨_, rfl⟩
            have hfw := HWF.out I
            rw [hF2] at hfw e2
            obtain ⟨ST, hST⟩ : ∃ s, X.st F2 = s := ⟨_, rfl⟩
            obtain ⟨OP, hOP⟩ : ∃ s, X.op = s := ⟨_, rfl⟩
            have hlen : ys.length ≤ 200 := by have h := HM2.out; omega
            have HAG := Aside0.mk (show ∀ V, Below w4.heap.size w4 V → Ag w V g gm (.slice (some az) ys.length ct) X ys from fun V hV => HX4.out.below hV)
            have HC1 : Aside0 (∀ V, Below w4.heap.size w4 V → Calls Tryd.prog 16 #[.pointer (some ⟨g, 0, none⟩)] V fun e w' => e = .returned (.int .i64 m2) ∧ Below w4.heap.size w4 w') := ⟨fun V hV => (count_calls (HAG.out V hV).ln.ln).mono (by rintro e w' ⟨rfl, rfl⟩; exact ⟨by rw [HP2.out.c, HM2.out], hV⟩)⟩
            have HC2 : Aside0 (∀ V, Below w4.heap.size w4 V → Calls Tryd.prog 14 #[.pointer (some ⟨g, 0, none⟩)] V fun e w' => e = .returned (.int .i64 OP) ∧ Below w4.heap.size w4 w') := ⟨fun V hV => (open_calls (HAG.out V hV).ln.ln).mono (by rintro e w' ⟨rfl, rfl⟩; exact ⟨by rw [hOP], hV⟩)⟩
            have HC3 : Aside0 (∀ V, Below w4.heap.size w4 V → Calls Tryd.prog 17 #[.slice (some az) ys.length ct] V fun e w' => e = .returned (.int .i64 OP) ∧ Below w4.heap.size w4 w') := ⟨fun V hV => (transeptref15_Open.calls 1000 (some az) ct ys _ V (Kd.R_reads' (HAG.out V hV).rt).2.2 HCX.out (open_f ys 1000 hlen (by omega))).mono (by rintro e w' ⟨rfl, h⟩; exact ⟨by rw [← hOP, HP2.out.opn], below_then hV hV.size h⟩)⟩
            have HC4 : Aside0 (∀ V, Below w4.heap.size w4 V → Calls Tryd.prog 18 #[.pointer (some ⟨g, 0, none⟩)] V fun e w' => e = .returned (.int .u64 L) ∧ Below w4.heap.size w4 w') := ⟨fun V hV => (last_calls (HAG.out V hV).ln.ln).mono (by rintro e w' ⟨rfl, rfl⟩; exact ⟨by rw [HLA.out], hV⟩)⟩
            have HC5 : Aside0 (∀ V, Below w4.heap.size w4 V → Calls Tryd.prog 13 #[.pointer (some ⟨g, 0, none⟩), .int .u64 F2] V fun e w' => e = .returned (.int .i64 ST) ∧ Below w4.heap.size w4 w') := ⟨fun V hV => (state_calls (HAG.out V hV).ln.ln hfw).mono (by rintro e w' ⟨rfl, rfl⟩; exact ⟨by rw [hST], hV⟩)⟩
            have HC6 : Aside0 (∀ V, Below w4.heap.size w4 V → Calls Tryd.prog 19 #[.slice (some az) ys.length ct, .int .u64 F2] V fun e w' => e = .returned (.int .i64 ST) ∧ Below w4.heap.size w4 w') := ⟨fun V hV => (transeptref15_State.calls 1000 (some az) ct ys F2 _ V (Kd.R_reads' (HAG.out V hV).rt).2.2 HCX.out (state_f ys F2 1000 hlen (by omega))).mono (by rintro e w' ⟨rfl, h⟩; exact ⟨by rw [← hST, HP2.out.st], below_then hV hV.size h⟩)⟩
            have hce : ∀ V, Below w4.heap.size w4 V → V.cell? ⟨(ad.add (I.toNat * 10)).block, (ad.add (I.toNat * 10)).off + 2, none⟩ = some (.int .u64 F2) := fun V hV => pw_cell_below hV e2
            clear hF2 hfw hST hOP hlen
            go_region_held3 (fun V => Below w4.heap.size w4 V) (first | assumption | exact pw_below_drewN (Below.refl _ _) 1 | exact Below.refl _ _) (first
              | (go_at_call 16; refine (HC1.out _ (by assumption)).mono ?_; rintro e w' ⟨rfl, hb⟩)
              | (go_at_call 14; refine (HC2.out _ (by assumption)).mono ?_; rintro e w' ⟨rfl, hb⟩)
              | (go_at_call 17; refine (HC3.out _ (by assumption)).mono ?_; rintro e w' ⟨rfl, hb⟩)
              | (go_at_call 18; refine (HC4.out _ (by assumption)).mono ?_; rintro e w' ⟨rfl, hb⟩)
              | (go_at_call 13; refine (HC5.out _ (by assumption)).mono ?_; rintro e w' ⟨rfl, hb⟩)
              | (go_at_call 19; refine (HC6.out _ (by assumption)).mono ?_; rintro e w' ⟨rfl, hb⟩))
            all_goals
              go_wp2
              go_roundg (gk - 1)
              case measure => omega
              case rel => exact ⟨I + 1, _, _, _, rfl, rfl, by omega, by omega, by omega, ⟨HAG.out _ (by assumption), HP2.out, HLZ.out⟩⟩
          case neg =>
            have hm0 : m2 = 0 := by omega
            subst hm0
            have HCX := HCT
            have HLA := Aside0.mk (HP2.out.last0 (by omega))
            go_wp2_with (fail)
            obtain ⟨F2, hF2⟩ : ∃ F, (rd_T31 l I).f2 = F := ⟨_, rfl⟩
            have hfw := HWF.out I
            rw [hF2] at hfw e2
            obtain ⟨ST, hST⟩ : ∃ s, X.st F2 = s := ⟨_, rfl⟩
            obtain ⟨OP, hOP⟩ : ∃ s, X.op = s := ⟨_, rfl⟩
            have hlen : ys.length ≤ 200 := by have h := HM2.out; omega
            have HAG := Aside0.mk (show ∀ V, Below w4.heap.size w4 V → Ag w V g gm (.slice At ys.length ct) X ys from fun V hV => HX4.out.below hV)
            have HC1 : Aside0 (∀ V, Below w4.heap.size w4 V → Calls Tryd.prog 16 #[.pointer (some ⟨g, 0, none⟩)] V fun e w' => e = .returned (.int .i64 0) ∧ Below w4.heap.size w4 w') := ⟨fun V hV => (count_calls (HAG.out V hV).ln.ln).mono (by rintro e w' ⟨rfl, rfl⟩; exact ⟨by rw [HP2.out.c, HM2.out], hV⟩)⟩
            have HC2 : Aside0 (∀ V, Below w4.heap.size w4 V → Calls Tryd.prog 14 #[.pointer (some ⟨g, 0, none⟩)] V fun e w' => e = .returned (.int .i64 OP) ∧ Below w4.heap.size w4 w') := ⟨fun V hV => (open_calls (HAG.out V hV).ln.ln).mono (by rintro e w' ⟨rfl, rfl⟩; exact ⟨by rw [hOP], hV⟩)⟩
            have HC3 : Aside0 (∀ V, Below w4.heap.size w4 V → Calls Tryd.prog 17 #[.slice At ys.length ct] V fun e w' => e = .returned (.int .i64 OP) ∧ Below w4.heap.size w4 w') := ⟨fun V hV => (transeptref15_Open.calls 1000 At ct ys _ V (Kd.R_reads' (HAG.out V hV).rt).2.2 HCX.out (open_f ys 1000 hlen (by omega))).mono (by rintro e w' ⟨rfl, h⟩; exact ⟨by rw [← hOP, HP2.out.opn], below_then hV hV.size h⟩)⟩
            have HC4 : Aside0 (∀ V, Below w4.heap.size w4 V → Calls Tryd.prog 18 #[.pointer (some ⟨g, 0, none⟩)] V fun e w' => e = .returned (.int .u64 0) ∧ Below w4.heap.size w4 w') := ⟨fun V hV => (last_calls (HAG.out V hV).ln.ln).mono (by rintro e w' ⟨rfl, rfl⟩; exact ⟨by rw [HLA.out], hV⟩)⟩
            have HC5 : Aside0 (∀ V, Below w4.heap.size w4 V → Calls Tryd.prog 13 #[.pointer (some ⟨g, 0, none⟩), .int .u64 F2] V fun e w' => e = .returned (.int .i64 ST) ∧ Below w4.heap.size w4 w') := ⟨fun V hV => (state_calls (HAG.out V hV).ln.ln hfw).mono (by rintro e w' ⟨rfl, rfl⟩; exact ⟨by rw [hST], hV⟩)⟩
            have HC6 : Aside0 (∀ V, Below w4.heap.size w4 V → Calls Tryd.prog 19 #[.slice At ys.length ct, .int .u64 F2] V fun e w' => e = .returned (.int .i64 ST) ∧ Below w4.heap.size w4 w') := ⟨fun V hV => (transeptref15_State.calls 1000 At ct ys F2 _ V (Kd.R_reads' (HAG.out V hV).rt).2.2 HCX.out (state_f ys F2 1000 hlen (by omega))).mono (by rintro e w' ⟨rfl, h⟩; exact ⟨by rw [← hST, HP2.out.st], below_then hV hV.size h⟩)⟩
            have hce : ∀ V, Below w4.heap.size w4 V → V.cell? ⟨(ad.add (I.toNat * 10)).block, (ad.add (I.toNat * 10)).off + 2, none⟩ = some (.int .u64 F2) := fun V hV => pw_cell_below hV e2
            clear hF2 hfw hST hOP hlen
            go_region_held3 (fun V => Below w4.heap.size w4 V) (first | assumption | exact pw_below_drewN (Below.refl _ _) 1 | exact Below.refl _ _) (first
              | (go_at_call 16; refine (HC1.out _ (by assumption)).mono ?_; rintro e w' ⟨rfl, hb⟩)
              | (go_at_call 14; refine (HC2.out _ (by assumption)).mono ?_; rintro e w' ⟨rfl, hb⟩)
              | (go_at_call 17; refine (HC3.out _ (by assumption)).mono ?_; rintro e w' ⟨rfl, hb⟩)
              | (go_at_call 18; refine (HC4.out _ (by assumption)).mono ?_; rintro e w' ⟨rfl, hb⟩)
              | (go_at_call 13; refine (HC5.out _ (by assumption)).mono ?_; rintro e w' ⟨rfl, hb⟩)
              | (go_at_call 19; refine (HC6.out _ (by assumption)).mono ?_; rintro e w' ⟨rfl, hb⟩))
            all_goals
              go_wp2
              go_roundg (gk - 1)
              case measure => omega
              case rel => exact ⟨I + 1, _, _, _, rfl, rfl, by omega, by omega, by omega, ⟨HAG.out _ (by assumption), HP2.out, HLZ.out⟩⟩
        case pos =>
        subst hr0
        have HTK := Aside0.mk ((feedF_ok X _).1 HRR.out)
        have HX3b : Aside0 (Ag w w4 g gm (.slice At ys.length ct) (next X (rd_T31 l I)) ys) := by have t := HX3.out; rw [feedF_next HTK.out] at t; exact ⟨t⟩
        clear HX3
        have HP2 := Aside0.mk (HP.out.step HTK.out)
        go_wp2_with (first
          | ((with_reducible refine gate_dst (N := 45) rfl ?_); refine Kd.R_append k31 (w0 := w) w.heap.size ?hgd_m (.tmp 39) (.tmp 44) 22 31 (.agg #[.int .i64 0, .int .u64 0, .int .u64 0, .string ⟨#[]⟩, .string ⟨#[]⟩, .string ⟨#[]⟩, .string ⟨#[]⟩, .int .i64 0, .int .i64 0, .int .i64 0]) 112 ?ho_m Tryd.underlying22 info31 rfl (by decide) (by decide) (.slice At ys.length ct) ys (rd_T31 l I) [.int .i64 (rd_T31 l I).f0, .int .u64 (rd_T31 l I).f1, .int .u64 (rd_T31 l I).f2, .string (rd_T31 l I).f3, .string (rd_T31 l I).f4, .string (rd_T31 l I).f5, .string (rd_T31 l I).f6, .int .i64 (rd_T31 l I).f7, .int .i64 (rd_T31 l I).f8, .int .i64 (rd_T31 l I).f9] (fun k => k ≠ g ∧ k ≠ gm) (fun _ => False) ?hs_m ?hx_m (k31_mkM _ _ _ _) (fun _ h => h.elim) HX3b.out.fresh HX3b.out.rt HX3b.out.ln.bel HX3b.out.ln.bel.size ?hl_m ?_; (case hgd_m => rfl); (case ho_m => rfl); (case hs_m => rfl); (case hx_m => rfl); (case hl_m => have h_ := HLL.out; omega); intro v1 w4 hR2 hb2 hg2 hat2; have HX4 := Aside0.mk (HX3b.out.push hR2 hb2 hg2); clear hR2 hb2 hg2 hat2 HX3b; obtain ⟨Az, cz, hvz, hcz, hCz⟩ := Kd.R_reads HX4.out.rt; subst hvz; have HCZ := Aside0.mk hcz; clear hcz hCz; obtain ⟨zs, hzs⟩ : ∃ zs, ys ++ [rd_T31 l I] = zs := ⟨_, rfl⟩; rw [hzs] at HX4 HCZ HP2 ⊢; have HZS := Aside0.mk hzs; clear hzs; obtain ⟨m2, hm2⟩ : ∃ m : Int, (zs.length : Int) = m := ⟨_, rfl⟩; have HM2 := Aside0.mk hm2; have hm21 : m2 ≤ 200 := (by rw [← hm2, ← HZS.out, List.length_append, List.length_singleton]; have h := HLL.out; omega); have hp : 0 < m2 := (by rw [← hm2, ← HZS.out, List.length_append, List.length_singleton]; omega); have HLZ : Aside0 ((zs.length : Int) ≤ I + 1) := (by rw [← HZS.out, List.length_append, List.length_singleton]; exact ⟨by have h := HLL.out; omega⟩); have hm20 : 0 ≤ m2 := (by omega); clear e0 e1 e2 e3 e4 e5 e6 e7 e8 e9; obtain ⟨ad5, hA5, e0, e1, e2, e3, e4, e5, e6, e7, e8, e9⟩ := at_T31 (Kd.C_below HR.out HX4.out.ln.bel) I hI0 (by have := HN.out; omega); obtain rfl := Option.some.inj hA5; clear hA5; obtain ⟨az, hAz, z0, z1, z2, z3, z4, z5, z6, z7, z8, z9⟩ := at_T31 (Kd.R_reads' HX4.out.rt).2.2 (m2 - 1) (by omega) (by omega); subst hAz; rw [show (rd_T31 zs (m2 - 1)).f1 = (next X (rd_T31 l I)).last by rw [← hm2]; exact (HP2.out.last (by omega)).symm] at z1; rw [show (m2 - 1).toNat = m2.toNat - 1 by omega] at z1; clear z0 z2 z3 z4 z5 z6 z7 z8 z9))
        have HCX := HCZ
        have HLA : Aside0 ((next X (rd_T31 l I)).last = (next X (rd_T31 l I)).last) := ⟨rfl⟩
        obtain ⟨F2, hF2⟩ : ∃ F, (rd_T31 l I).f2 = F := ⟨_, rfl⟩
        have hfw := HWF.out I
        rw [hF2] at hfw e2
        obtain ⟨ST, hST⟩ : ∃ s, (next X (rd_T31 l I)).st F2 = s := ⟨_, rfl⟩
        obtain ⟨OP, hOP⟩ : ∃ s, (next X (rd_T31 l I)).op = s := ⟨_, rfl⟩
        have hlen : zs.length ≤ 200 := by have h := HM2.out; omega
        have HAG := Aside0.mk (show ∀ V, Below w4.heap.size w4 V → Ag w V g gm (.slice (some az) zs.length cz) (next X (rd_T31 l I)) zs from fun V hV => HX4.out.below hV)
        have HC1 : Aside0 (∀ V, Below w4.heap.size w4 V → Calls Tryd.prog 16 #[.pointer (some ⟨g, 0, none⟩)] V fun e w' => e = .returned (.int .i64 m2) ∧ Below w4.heap.size w4 w') := ⟨fun V hV => (count_calls (HAG.out V hV).ln.ln).mono (by rintro e w' ⟨rfl, rfl⟩; exact ⟨by rw [HP2.out.c, HM2.out], hV⟩)⟩
        have HC2 : Aside0 (∀ V, Below w4.heap.size w4 V → Calls Tryd.prog 14 #[.pointer (some ⟨g, 0, none⟩)] V fun e w' => e = .returned (.int .i64 OP) ∧ Below w4.heap.size w4 w') := ⟨fun V hV => (open_calls (HAG.out V hV).ln.ln).mono (by rintro e w' ⟨rfl, rfl⟩; exact ⟨by rw [hOP], hV⟩)⟩
        have HC3 : Aside0 (∀ V, Below w4.heap.size w4 V → Calls Tryd.prog 17 #[.slice (some az) zs.length cz] V fun e w' => e = .returned (.int .i64 OP) ∧ Below w4.heap.size w4 w') := ⟨fun V hV => (transeptref15_Open.calls 1000 (some az) cz zs _ V (Kd.R_reads' (HAG.out V hV).rt).2.2 HCX.out (open_f zs 1000 hlen (by omega))).mono (by rintro e w' ⟨rfl, h⟩; exact ⟨by rw [← hOP, HP2.out.opn], below_then hV hV.size h⟩)⟩
        have HC4 : Aside0 (∀ V, Below w4.heap.size w4 V → Calls Tryd.prog 18 #[.pointer (some ⟨g, 0, none⟩)] V fun e w' => e = .returned (.int .u64 (next X (rd_T31 l I)).last) ∧ Below w4.heap.size w4 w') := ⟨fun V hV => (last_calls (HAG.out V hV).ln.ln).mono (by rintro e w' ⟨rfl, rfl⟩; exact ⟨by rw [HLA.out], hV⟩)⟩
        have HC5 : Aside0 (∀ V, Below w4.heap.size w4 V → Calls Tryd.prog 13 #[.pointer (some ⟨g, 0, none⟩), .int .u64 F2] V fun e w' => e = .returned (.int .i64 ST) ∧ Below w4.heap.size w4 w') := ⟨fun V hV => (state_calls (HAG.out V hV).ln.ln hfw).mono (by rintro e w' ⟨rfl, rfl⟩; exact ⟨by rw [hST], hV⟩)⟩
        have HC6 : Aside0 (∀ V, Below w4.heap.size w4 V → Calls Tryd.prog 19 #[.slice (some az) zs.length cz, .int .u64 F2] V fun e w' => e = .returned (.int .i64 ST) ∧ Below w4.heap.size w4 w') := ⟨fun V hV => (transeptref15_State.calls 1000 (some az) cz zs F2 _ V (Kd.R_reads' (HAG.out V hV).rt).2.2 HCX.out (state_f zs F2 1000 hlen (by omega))).mono (by rintro e w' ⟨rfl, h⟩; exact ⟨by rw [← hST, HP2.out.st], below_then hV hV.size h⟩)⟩
        have hce : ∀ V, Below w4.heap.size w4 V → V.cell? ⟨(ad.add (I.toNat * 10)).block, (ad.add (I.toNat * 10)).off + 2, none⟩ = some (.int .u64 F2) := fun V hV => pw_cell_below hV e2
        clear hF2 hfw hST hOP hlen
        go_region_held3 (fun V => Below w4.heap.size w4 V) (first | assumption | exact pw_below_drewN (Below.refl _ _) 1 | exact Below.refl _ _) (first
          | (go_at_call 16; refine (HC1.out _ (by assumption)).mono ?_; rintro e w' ⟨rfl, hb⟩)
          | (go_at_call 14; refine (HC2.out _ (by assumption)).mono ?_; rintro e w' ⟨rfl, hb⟩)
          | (go_at_call 17; refine (HC3.out _ (by assumption)).mono ?_; rintro e w' ⟨rfl, hb⟩)
          | (go_at_call 18; refine (HC4.out _ (by assumption)).mono ?_; rintro e w' ⟨rfl, hb⟩)
          | (go_at_call 13; refine (HC5.out _ (by assumption)).mono ?_; rintro e w' ⟨rfl, hb⟩)
          | (go_at_call 19; refine (HC6.out _ (by assumption)).mono ?_; rintro e w' ⟨rfl, hb⟩))
        all_goals
          go_wp2
          go_roundg (gk - 1)
          case measure => omega
          case rel => exact ⟨I + 1, _, _, _, rfl, rfl, by omega, by omega, by omega, ⟨HAG.out _ (by assumption), HP2.out, HLZ.out⟩⟩
      · go_wp2
        go_ret
        exact ⟨rfl, HX.out.ln.bel⟩
    · go_wp2
      go_ret
      exact ⟨rfl, HX.out.ln.bel⟩
end Go.Proofs.YtjflbjlkcifpdaaDoor.Ext
