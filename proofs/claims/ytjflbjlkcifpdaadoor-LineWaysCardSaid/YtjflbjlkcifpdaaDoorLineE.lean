/- The line takes an event, once it may: by hand. Written by wip/tools/lined.py. -/
import Derived.Test.YtjflbjlkcifpdaaDoorLineD
namespace Go.Proofs.YtjflbjlkcifpdaaDoor.Ext
open Go.RowKit Go.Proofs.YtjflbjlkcifpdaaDoor.Xa Go.Proofs.YtjflbjlkcifpdaaDoorW.PrintWords Go.Proofs.YtjflbjlkcifpdaaDoorW.PrintLast Go.Proofs.YtjflbjlkcifpdaaDoorW.PrintMore
open Go.Maps (Keyed)
set_option linter.unusedVariables false
set_option linter.unusedSimpArgs false
theorem way_wf (K : Int) (h4 : 4 ≤ K) (h14 : K ≤ 14) : (Lit.int .i64 (wayOf K).2).wf = true := by
  obtain ⟨K', rfl⟩ := Int.eq_ofNat_of_zero_le (show 0 ≤ K by omega)
  have : ∀ K : Fin 15, 4 ≤ K.val → (Lit.int .i64 (wayOf (K.val : Int)).2).wf = true := by decide
  exact this ⟨K', by omega⟩ (by simp; omega)
theorem cell_setCell_far (W : World) (a b : Addr) (u : Value) (h : b.block ≠ a.block) : (W.setCell a u).cell? b = W.cell? b := by
  simp [World.cell?, Below.heap_setCell W a u b.block h]
set_option maxHeartbeats 4000000 in
theorem feed_start {w : World} {g gm : Nat} {X : LS} (a1 a2 : Int) (a3 a4 a5 a6 : ByteArray) (a7 a8 a9 : Int) (hG : Glob w) (h : Ln w g gm X) (hr : rightF 3 a2 a3 a4 a5 a6 a7 a8 a9 = true) (hw : (Lit.int .u64 a2).wf = true) (hm : mayF X 3 a2 = true) (hc : ((X.c : Int) == 4096) = false) (ht : decide (a1 < X.last) = false) (ho : (X.op == 64) = false) : Calls Tryd.prog 11 #[.pointer (some ⟨g, 0, none⟩), .agg #[.int .i64 3, .int .u64 a1, .int .u64 a2, .string a3, .string a4, .string a5, .string a6, .int .i64 a7, .int .i64 a8, .int .i64 a9]] w fun r w' => r = .returned (.int .i64 0) ∧ Ln w' g gm ⟨X.c + 1, a1, X.op + 1, X.D.put (.int .u64 a2) (.lit (.int .i64 1))⟩ ∧ Mv w w' g gm := by
  obtain ⟨W, hW⟩ : ∃ W, w.alloc (.cells #[.int .i64 3, .int .u64 a1, .int .u64 a2, .string a3, .string a4, .string a5, .string a6, .int .i64 a7, .int .i64 a8, .int .i64 a9] 31) = W := ⟨_, rfl⟩
  obtain ⟨q, hq⟩ : ∃ q, w.heap.size = q := ⟨_, rfl⟩
  have H := InW.start h #[.int .i64 3, .int .u64 a1, .int .u64 a2, .string a3, .string a4, .string a5, .string a6, .int .i64 a7, .int .i64 a8, .int .i64 a9]
  rw [hW, hq] at H
  have HI := Aside0.mk H
  obtain ⟨f0, f1, f2, f3, f4, f5, f6, f7, f8, f9, c0, c1, c2, c3⟩ := H.facts
  have HG := Aside0.mk (hG.below (by have hb := H.bel; exact hb))
  have HRT := Aside0.mk hr
  have HLE := Aside0.mk h.le
  have HOP := Aside0.mk (And.intro h.lo h.hi)
  obtain ⟨C, hC⟩ : ∃ C : Int, (X.c : Int) = C := ⟨_, rfl⟩
  obtain ⟨L, hL⟩ : ∃ L : Int, X.last = L := ⟨_, rfl⟩
  obtain ⟨O, hO⟩ : ∃ O : Int, X.op = O := ⟨_, rfl⟩
  rw [hC] at c0
  rw [hL] at c1
  rw [hO] at c3
  have HC := Aside0.mk hC
  have HL := Aside0.mk hL
  have HO := Aside0.mk hO
  have HWF := Aside0.mk hw
  have HM := Aside0.mk hm
  rw [hC] at hc
  rw [hL] at ht
  clear hw hm
  rw [hO] at ho ⊢
  have hC0 : 0 ≤ C := by omega
  have hC1 : C < 4096 := by have := h.le; have := beq_eq_false_iff_ne.1 hc; omega
  have hO0 : -4096 ≤ O := by have := h.le; have := h.lo; omega
  have hO1 : O ≤ 4096 := by have := h.le; have := h.hi; omega
  clear H h hG hr hC hL hO
  go_enter Tryd.func11, Tryd.ntmps11
  go_wp2_with (fail)
  refine (right_calls (3) a1 a2 a3 a4 a5 a6 a7 a8 a9 W HG.out).mono ?_
  rw [HRT.out]
  rintro e w1 ⟨rfl, hb1⟩
  have H1 := HI.out.then_ hb1
  clear f0 f1 f2 f3 f4 f5 f6 f7 f8 f9 c0 c1 c2 c3 HI hb1
  have HI := Aside0.mk H1
  obtain ⟨f0, f1, f2, f3, f4, f5, f6, f7, f8, f9, c0, c1, c2, c3⟩ := H1.facts
  rw [HC.out] at c0
  rw [HL.out] at c1
  rw [HO.out] at c3
  clear H1
  go_wp2
  go_region_held3 (fun V => V.cell? ⟨q, 0, none⟩ = some (.int .i64 3) ∧ V.cell? ⟨q, 1, none⟩ = some (.int .u64 a1) ∧ V.cell? ⟨q, 2, none⟩ = some (.int .u64 a2) ∧ V.cell? ⟨q, 3, none⟩ = some (.string a3) ∧ V.cell? ⟨q, 4, none⟩ = some (.string a4) ∧ V.cell? ⟨q, 5, none⟩ = some (.string a5) ∧ V.cell? ⟨q, 6, none⟩ = some (.string a6) ∧ V.cell? ⟨q, 7, none⟩ = some (.int .i64 a7) ∧ V.cell? ⟨q, 8, none⟩ = some (.int .i64 a8) ∧ V.cell? ⟨q, 9, none⟩ = some (.int .i64 a9) ∧ V.cell? ⟨g, 1, none⟩ = some (.int .u64 L) ∧ Below w1.heap.size w1 V) (first | exact ⟨f0, f1, f2, f3, f4, f5, f6, f7, f8, f9, c1, pw_below_drewN (Below.refl _ _) _⟩ | exact ⟨f0, f1, f2, f3, f4, f5, f6, f7, f8, f9, c1, Below.refl _ _⟩ | exact ⟨g0, g1, g2, g3, g4, g5, g6, g7, g8, g9, d1, hb2⟩ | exact ⟨g0, g1, g2, g3, g4, g5, g6, g7, g8, g9, d1, pw_below_drewN hb2 _⟩) (first | (go_at_call 23; refine (may_calls (3) a1 a2 a3 a4 a5 a6 a7 a8 a9 (HI.out.ln.below (by first | exact pw_below_drewN (Below.refl _ _) _ | exact Below.refl _ _)) (by decide) (by decide) HWF.out).mono ?_; rw [HM.out]; rintro e w2 ⟨rfl, hb⟩; have hb2 : Below w1.heap.size w1 w2 := (by first | exact hb | exact below_then (pw_below_drewN (Below.refl _ _) 1) (Nat.le_refl _) hb); have H2 := HI.out.then_ hb2; have HI2 := Aside0.mk H2; obtain ⟨g0, g1, g2, g3, g4, g5, g6, g7, g8, g9, d0, d1, d2, d3⟩ := H2.facts; rw [HC.out] at d0; rw [HL.out] at d1; rw [HO.out] at d3; clear H2 hb))
  have HI2f := blk_frozen HI2.out.ln.blk
  have fz0 := HI2f 0
  have fz1 := HI2f 1
  have fz3 := HI2f 3
  clear HI2f
  have nqg := HI2.out.nog
  have ngq := Ne.symm nqg
  obtain ⟨W4, hW4⟩ : ∃ W4, ((w2.setCell ⟨g, 0, none⟩ (.int .i64 (C + 1))).setCell ⟨g, 1, none⟩ (.int .u64 a1)).setCell ⟨g, 3, none⟩ (.int .i64 (O + 1)) = W4 := ⟨_, rfl⟩
  have ne := HI2.out.ln.ne
  have b4 : W4.heap[g]? = some (.cells ((⟨X.c + 1, a1, O + 1, X.D⟩ : LS).cells gm) 46 (0, 0)) := by
    rw [← hW4, ← HC.out]; exact blk_set (blk_set (blk_set HI2.out.ln.blk 0 _) 1 _) 3 _
  have o4 : W4.ownsMap Tryd.prog 29 (plainElem Tryd.prog 3) gm X.c X.D := by
    rw [← hW4]; exact ((HI2.out.ln.own.setCell (a := ⟨g, 0, none⟩) (Ne.symm ne) _).setCell (a := ⟨g, 1, none⟩) (Ne.symm ne) _).setCell (a := ⟨g, 3, none⟩) (Ne.symm ne) _
  have v4 : Mv w W4 g gm := by rw [← hW4]; exact (((Mv.of_below HI2.out.bel).set 0 _).set 1 _).set 3 _
  have q4 : W4.cell? ⟨q, 2, none⟩ = some (.int .u64 a2) := by
    have e4 := blk_far (p := ⟨g, 3, none⟩) (blk_far (p := ⟨g, 1, none⟩) (blk_far (p := ⟨g, 0, none⟩) HI2.out.ev nqg (.int .i64 (C + 1))) nqg (.int .u64 a1)) nqg (.int .i64 (O + 1))
    rw [hW4] at e4
    exact blk_cell e4 2
  have m4 : W4.cell? ⟨g, 2, none⟩ = some (.map (some gm)) := blk_cell b4 2
  obtain ⟨f, hf, hf2⟩ := put_ex (id := a2) (tv := 1) o4 HLE.out HWF.out (by decide)
  have hf1 := hf 1
  rw [show W4.drewN 1 = W4.drew from rfl] at hf1
  have B4 := Aside0.mk b4
  have V4 := Aside0.mk v4
  have F4 := Aside0.mk hf2
  have NE := Aside0.mk ne
  clear b4 o4 v4 hf2 ne
  go_wp2
  go_region
  go_wp2
  all_goals (go_ret; refine ⟨rfl, Ln.taken B4.out NE.out (F4.out _).2 (F4.out _).1 ?_ ?_ ?_, V4.out.grown (F4.out _).2⟩ <;> (simp only; have := HC.out; have := HOP.out; have := HO.out; omega))
set_option maxHeartbeats 4000000 in
theorem feed_on {w : World} {g gm : Nat} {X : LS} (k : Int) (a1 a2 : Int) (a3 a4 a5 a6 : ByteArray) (a7 a8 a9 : Int) (hG : Glob w) (h : Ln w g gm X) (hr : rightF k a2 a3 a4 a5 a6 a7 a8 a9 = true) (hk4 : 4 ≤ k) (hk14 : k ≤ 14) (hz : ((wayOf k).2 == 0) = false) (hw : (Lit.int .u64 a2).wf = true) (hm : mayF X k a2 = true) (hc : ((X.c : Int) == 4096) = false) (ht : decide (a1 < X.last) = false) : Calls Tryd.prog 11 #[.pointer (some ⟨g, 0, none⟩), .agg #[.int .i64 k, .int .u64 a1, .int .u64 a2, .string a3, .string a4, .string a5, .string a6, .int .i64 a7, .int .i64 a8, .int .i64 a9]] w fun r w' => r = .returned (.int .i64 0) ∧ Ln w' g gm ⟨X.c + 1, a1, X.op, X.D.put (.int .u64 a2) (.lit (.int .i64 (wayOf k).2))⟩ ∧ Mv w w' g gm := by
  obtain ⟨W, hW⟩ : ∃ W, w.alloc (.cells #[.int .i64 k, .int .u64 a1, .int .u64 a2, .string a3, .string a4, .string a5, .string a6, .int .i64 a7, .int .i64 a8, .int .i64 a9] 31) = W := ⟨_, rfl⟩
  obtain ⟨q, hq⟩ : ∃ q, w.heap.size = q := ⟨_, rfl⟩
  have H := InW.start h #[.int .i64 k, .int .u64 a1, .int .u64 a2, .string a3, .string a4, .string a5, .string a6, .int .i64 a7, .int .i64 a8, .int .i64 a9]
  rw [hW, hq] at H
  have HI := Aside0.mk H
  obtain ⟨f0, f1, f2, f3, f4, f5, f6, f7, f8, f9, c0, c1, c2, c3⟩ := H.facts
  have HG := Aside0.mk (hG.below (by have hb := H.bel; exact hb))
  have HRT := Aside0.mk hr
  have HLE := Aside0.mk h.le
  have HOP := Aside0.mk (And.intro h.lo h.hi)
  obtain ⟨C, hC⟩ : ∃ C : Int, (X.c : Int) = C := ⟨_, rfl⟩
  obtain ⟨L, hL⟩ : ∃ L : Int, X.last = L := ⟨_, rfl⟩
  obtain ⟨O, hO⟩ : ∃ O : Int, X.op = O := ⟨_, rfl⟩
  rw [hC] at c0
  rw [hL] at c1
  rw [hO] at c3
  have HC := Aside0.mk hC
  have HL := Aside0.mk hL
  have HO := Aside0.mk hO
  have HWF := Aside0.mk hw
  have HM := Aside0.mk hm
  rw [hC] at hc
  rw [hL] at ht
  clear hw hm
  rw [hO]
  have hC0 : 0 ≤ C := by omega
  have hC1 : C < 4096 := by have := h.le; have := beq_eq_false_iff_ne.1 hc; omega
  have hO0 : -4096 ≤ O := by have := h.le; have := h.lo; omega
  have hO1 : O ≤ 4096 := by have := h.le; have := h.hi; omega
  have HK := Aside0.mk (And.intro (show 1 ≤ k by omega) hk14)
  have HK4 := Aside0.mk hk4
  have HK14 := Aside0.mk hk14
  have k1 : (k == 1) = false := by rw [beq_eq_false_iff_ne]; omega
  have k2 : (k == 2) = false := by rw [beq_eq_false_iff_ne]; omega
  have k3 : (k == 3) = false := by rw [beq_eq_false_iff_ne]; omega
  have hf1 := field48_1
  clear hk4 hk14
  clear H h hG hr hC hL hO
  go_enter Tryd.func11, Tryd.ntmps11
  go_wp2_with (fail)
  refine (right_calls k a1 a2 a3 a4 a5 a6 a7 a8 a9 W HG.out).mono ?_
  rw [HRT.out]
  rintro e w1 ⟨rfl, hb1⟩
  have H1 := HI.out.then_ hb1
  clear f0 f1 f2 f3 f4 f5 f6 f7 f8 f9 c0 c1 c2 c3 HI hb1
  have HI := Aside0.mk H1
  obtain ⟨f0, f1, f2, f3, f4, f5, f6, f7, f8, f9, c0, c1, c2, c3⟩ := H1.facts
  rw [HC.out] at c0
  rw [HL.out] at c1
  rw [HO.out] at c3
  clear H1
  go_wp2
  go_region_held3 (fun V => V.cell? ⟨q, 0, none⟩ = some (.int .i64 k) ∧ V.cell? ⟨q, 1, none⟩ = some (.int .u64 a1) ∧ V.cell? ⟨q, 2, none⟩ = some (.int .u64 a2) ∧ V.cell? ⟨q, 3, none⟩ = some (.string a3) ∧ V.cell? ⟨q, 4, none⟩ = some (.string a4) ∧ V.cell? ⟨q, 5, none⟩ = some (.string a5) ∧ V.cell? ⟨q, 6, none⟩ = some (.string a6) ∧ V.cell? ⟨q, 7, none⟩ = some (.int .i64 a7) ∧ V.cell? ⟨q, 8, none⟩ = some (.int .i64 a8) ∧ V.cell? ⟨q, 9, none⟩ = some (.int .i64 a9) ∧ V.cell? ⟨g, 1, none⟩ = some (.int .u64 L) ∧ Below w1.heap.size w1 V) (first | exact ⟨f0, f1, f2, f3, f4, f5, f6, f7, f8, f9, c1, pw_below_drewN (Below.refl _ _) _⟩ | exact ⟨f0, f1, f2, f3, f4, f5, f6, f7, f8, f9, c1, Below.refl _ _⟩ | exact ⟨g0, g1, g2, g3, g4, g5, g6, g7, g8, g9, d1, hb2⟩ | exact ⟨g0, g1, g2, g3, g4, g5, g6, g7, g8, g9, d1, pw_below_drewN hb2 _⟩) (first | (go_at_call 23; refine (may_calls k a1 a2 a3 a4 a5 a6 a7 a8 a9 (HI.out.ln.below (by first | exact pw_below_drewN (Below.refl _ _) _ | exact Below.refl _ _)) HK.out.1 HK.out.2 HWF.out).mono ?_; rw [HM.out]; rintro e w2 ⟨rfl, hb⟩; have hb2 : Below w1.heap.size w1 w2 := (by first | exact hb | exact below_then (pw_below_drewN (Below.refl _ _) 1) (Nat.le_refl _) hb); have H2 := HI.out.then_ hb2; have HI2 := Aside0.mk H2; obtain ⟨g0, g1, g2, g3, g4, g5, g6, g7, g8, g9, d0, d1, d2, d3⟩ := H2.facts; rw [HC.out] at d0; rw [HL.out] at d1; rw [HO.out] at d3; clear H2 hb))
  have HI2f := blk_frozen HI2.out.ln.blk
  have fz0 := HI2f 0
  have fz1 := HI2f 1
  have fz3 := HI2f 3
  clear HI2f
  have nqg := HI2.out.nog
  have ngq := Ne.symm nqg
  obtain ⟨W3, hW3⟩ : ∃ W3, (w2.setCell ⟨g, 0, none⟩ (.int .i64 (C + 1))).setCell ⟨g, 1, none⟩ (.int .u64 a1) = W3 := ⟨_, rfl⟩
  have ne := HI2.out.ln.ne
  have B3 : Aside0 (W3.heap[g]? = some (.cells ((⟨X.c + 1, a1, O, X.D⟩ : LS).cells gm) 46 (0, 0))) := by
    rw [← hW3, ← HC.out, ← HO.out]; exact ⟨blk_set (blk_set HI2.out.ln.blk 0 _) 1 _⟩
  have O3 : Aside0 (W3.ownsMap Tryd.prog 29 (plainElem Tryd.prog 3) gm X.c X.D) := by
    rw [← hW3]; exact ⟨(HI2.out.ln.own.setCell (a := ⟨g, 0, none⟩) (Ne.symm ne) _).setCell (a := ⟨g, 1, none⟩) (Ne.symm ne) _⟩
  have V3 : Aside0 (Mv w W3 g gm) := by rw [← hW3]; exact ⟨((Mv.of_below HI2.out.bel).set 0 _).set 1 _⟩
  have e3 := blk_far (p := ⟨g, 1, none⟩) (blk_far (p := ⟨g, 0, none⟩) HI2.out.ev nqg (.int .i64 (C + 1))) nqg (.int .u64 a1)
  rw [hW3] at e3
  have p0 : W3.cell? ⟨q, 0, none⟩ = some (.int .i64 k) := blk_cell e3 0
  have p2 : W3.cell? ⟨q, 2, none⟩ = some (.int .u64 a2) := blk_cell e3 2
  have r3 : W3.cell? ⟨g, 3, none⟩ = some (.int .i64 O) := blk_cell B3.out 3
  have NE := Aside0.mk ne
  clear e3 ne
  go_wp2
  go_region_held3 (fun V => V.cell? ⟨q, 0, none⟩ = some (.int .i64 k) ∧ Below W3.heap.size W3 V) (first | exact ⟨p0, pw_below_drewN (Below.refl _ _) _⟩ | exact ⟨p0, Below.refl _ _⟩ | exact ⟨p4, hb4⟩ | exact ⟨p4, pw_below_drewN hb4 _⟩) (first | (go_at_call 24; refine (ways_z _ k HK4.out HK14.out).mono ?_; rintro e w4 ⟨b, A, n, rfl, hWz⟩; have hb4 : Below W3.heap.size W3 w4 := (by first | exact hWz.bel | exact below_then (pw_below_drewN (Below.refl _ _) 1) (Nat.le_refl _) hWz.bel); have p4 : w4.cell? ⟨q, 0, none⟩ = some (.int .i64 k) := pw_cell_below hb4 p0; have p42 : w4.cell? ⟨q, 2, none⟩ = some (.int .u64 a2) := pw_cell_below hb4 p2; have r4 : w4.cell? ⟨g, 3, none⟩ = some (.int .i64 O) := pw_cell_below hb4 r3; have hlk := hWz.look w4 rfl; have hlkd := hWz.look w4.drew rfl; have hlkn := fun m => hWz.look (w4.drewN m) rfl))
  have B4 : Aside0 (w4.heap[g]? = some (.cells ((⟨X.c + 1, a1, O, X.D⟩ : LS).cells gm) 46 (0, 0))) := ⟨blk_below B3.out hb4⟩
  have fz4 := blk_frozen B4.out 3
  have O4 : Aside0 (w4.ownsMap Tryd.prog 29 (plainElem Tryd.prog 3) gm X.c X.D) := ⟨O3.out.kept (grown_of_below hb4 none) (by simp)⟩
  have V4 : Aside0 (Mv w w4 g gm) := ⟨V3.out.trans (Mv.of_below hb4)⟩
  have m4 : w4.cell? ⟨g, 2, none⟩ = some (.map (some gm)) := blk_cell B4.out 2
  obtain ⟨f, hf, hf2⟩ := put_ex (id := a2) (tv := (wayOf k).2) O4.out HLE.out HWF.out (way_wf k HK4.out HK14.out)
  have F4 := Aside0.mk hf2
  clear hf2
  have hf0 := hf 0
  have hf3 := hf 1
  rw [show w4.drewN 1 = w4.drew from rfl] at hf3
  rw [show w4.drewN 0 = w4 from rfl] at hf0
  go_wp2
  go_region
  go_wp2
  all_goals (go_ret; refine ⟨rfl, Ln.taken B4.out NE.out (F4.out _).2 (F4.out _).1 ?_ ?_ ?_, V4.out.grown (F4.out _).2⟩ <;> (simp only; have := HC.out; have := HOP.out; have := HO.out; omega))
set_option maxHeartbeats 4000000 in
theorem feed_end {w : World} {g gm : Nat} {X : LS} (k : Int) (a1 a2 : Int) (a3 a4 a5 a6 : ByteArray) (a7 a8 a9 : Int) (hG : Glob w) (h : Ln w g gm X) (hr : rightF k a2 a3 a4 a5 a6 a7 a8 a9 = true) (hk4 : 4 ≤ k) (hk14 : k ≤ 14) (hz : ((wayOf k).2 == 0) = true) (hw : (Lit.int .u64 a2).wf = true) (hm : mayF X k a2 = true) (hc : ((X.c : Int) == 4096) = false) (ht : decide (a1 < X.last) = false) : Calls Tryd.prog 11 #[.pointer (some ⟨g, 0, none⟩), .agg #[.int .i64 k, .int .u64 a1, .int .u64 a2, .string a3, .string a4, .string a5, .string a6, .int .i64 a7, .int .i64 a8, .int .i64 a9]] w fun r w' => r = .returned (.int .i64 0) ∧ Ln w' g gm ⟨X.c + 1, a1, X.op - 1, X.D.put (.int .u64 a2) (.lit (.int .i64 (wayOf k).2))⟩ ∧ Mv w w' g gm := by
  obtain ⟨W, hW⟩ : ∃ W, w.alloc (.cells #[.int .i64 k, .int .u64 a1, .int .u64 a2, .string a3, .string a4, .string a5, .string a6, .int .i64 a7, .int .i64 a8, .int .i64 a9] 31) = W := ⟨_, rfl⟩
  obtain ⟨q, hq⟩ : ∃ q, w.heap.size = q := ⟨_, rfl⟩
  have H := InW.start h #[.int .i64 k, .int .u64 a1, .int .u64 a2, .string a3, .string a4, .string a5, .string a6, .int .i64 a7, .int .i64 a8, .int .i64 a9]
  rw [hW, hq] at H
  have HI := Aside0.mk H
  obtain ⟨f0, f1, f2, f3, f4, f5, f6, f7, f8, f9, c0, c1, c2, c3⟩ := H.facts
  have HG := Aside0.mk (hG.below (by have hb := H.bel; exact hb))
  have HRT := Aside0.mk hr
  have HLE := Aside0.mk h.le
  have HOP := Aside0.mk (And.intro h.lo h.hi)
  obtain ⟨C, hC⟩ : ∃ C : Int, (X.c : Int) = C := ⟨_, rfl⟩
  obtain ⟨L, hL⟩ : ∃ L : Int, X.last = L := ⟨_, rfl⟩
  obtain ⟨O, hO⟩ : ∃ O : Int, X.op = O := ⟨_, rfl⟩
  rw [hC] at c0
  rw [hL] at c1
  rw [hO] at c3
  have HC := Aside0.mk hC
  have HL := Aside0.mk hL
  have HO := Aside0.mk hO
  have HWF := Aside0.mk hw
  have HM := Aside0.mk hm
  rw [hC] at hc
  rw [hL] at ht
  clear hw hm
  rw [hO]
  have hC0 : 0 ≤ C := by omega
  have hC1 : C < 4096 := by have := h.le; have := beq_eq_false_iff_ne.1 hc; omega
  have hO0 : -4096 ≤ O := by have := h.le; have := h.lo; omega
  have hO1 : O ≤ 4096 := by have := h.le; have := h.hi; omega
  have HK := Aside0.mk (And.intro (show 1 ≤ k by omega) hk14)
  have HK4 := Aside0.mk hk4
  have HK14 := Aside0.mk hk14
  have k1 : (k == 1) = false := by rw [beq_eq_false_iff_ne]; omega
  have k2 : (k == 2) = false := by rw [beq_eq_false_iff_ne]; omega
  have k3 : (k == 3) = false := by rw [beq_eq_false_iff_ne]; omega
  have hf1 := field48_1
  clear hk4 hk14
  clear H h hG hr hC hL hO
  go_enter Tryd.func11, Tryd.ntmps11
  go_wp2_with (fail)
  refine (right_calls k a1 a2 a3 a4 a5 a6 a7 a8 a9 W HG.out).mono ?_
  rw [HRT.out]
  rintro e w1 ⟨rfl, hb1⟩
  have H1 := HI.out.then_ hb1
  clear f0 f1 f2 f3 f4 f5 f6 f7 f8 f9 c0 c1 c2 c3 HI hb1
  have HI := Aside0.mk H1
  obtain ⟨f0, f1, f2, f3, f4, f5, f6, f7, f8, f9, c0, c1, c2, c3⟩ := H1.facts
  rw [HC.out] at c0
  rw [HL.out] at c1
  rw [HO.out] at c3
  clear H1
  go_wp2
  go_region_held3 (fun V => V.cell? ⟨q, 0, none⟩ = some (.int .i64 k) ∧ V.cell? ⟨q, 1, none⟩ = some (.int .u64 a1) ∧ V.cell? ⟨q, 2, none⟩ = some (.int .u64 a2) ∧ V.cell? ⟨q, 3, none⟩ = some (.string a3) ∧ V.cell? ⟨q, 4, none⟩ = some (.string a4) ∧ V.cell? ⟨q, 5, none⟩ = some (.string a5) ∧ V.cell? ⟨q, 6, none⟩ = some (.string a6) ∧ V.cell? ⟨q, 7, none⟩ = some (.int .i64 a7) ∧ V.cell? ⟨q, 8, none⟩ = some (.int .i64 a8) ∧ V.cell? ⟨q, 9, none⟩ = some (.int .i64 a9) ∧ V.cell? ⟨g, 1, none⟩ = some (.int .u64 L) ∧ Below w1.heap.size w1 V) (first | exact ⟨f0, f1, f2, f3, f4, f5, f6, f7, f8, f9, c1, pw_below_drewN (Below.refl _ _) _⟩ | exact ⟨f0, f1, f2, f3, f4, f5, f6, f7, f8, f9, c1, Below.refl _ _⟩ | exact ⟨g0, g1, g2, g3, g4, g5, g6, g7, g8, g9, d1, hb2⟩ | exact ⟨g0, g1, g2, g3, g4, g5, g6, g7, g8, g9, d1, pw_below_drewN hb2 _⟩) (first | (go_at_call 23; refine (may_calls k a1 a2 a3 a4 a5 a6 a7 a8 a9 (HI.out.ln.below (by first | exact pw_below_drewN (Below.refl _ _) _ | exact Below.refl _ _)) HK.out.1 HK.out.2 HWF.out).mono ?_; rw [HM.out]; rintro e w2 ⟨rfl, hb⟩; have hb2 : Below w1.heap.size w1 w2 := (by first | exact hb | exact below_then (pw_below_drewN (Below.refl _ _) 1) (Nat.le_refl _) hb); have H2 := HI.out.then_ hb2; have HI2 := Aside0.mk H2; obtain ⟨g0, g1, g2, g3, g4, g5, g6, g7, g8, g9, d0, d1, d2, d3⟩ := H2.facts; rw [HC.out] at d0; rw [HL.out] at d1; rw [HO.out] at d3; clear H2 hb))
  have HI2f := blk_frozen HI2.out.ln.blk
  have fz0 := HI2f 0
  have fz1 := HI2f 1
  have fz3 := HI2f 3
  clear HI2f
  have nqg := HI2.out.nog
  have ngq := Ne.symm nqg
  obtain ⟨W3, hW3⟩ : ∃ W3, (w2.setCell ⟨g, 0, none⟩ (.int .i64 (C + 1))).setCell ⟨g, 1, none⟩ (.int .u64 a1) = W3 := ⟨_, rfl⟩
  have ne := HI2.out.ln.ne
  have B3 : Aside0 (W3.heap[g]? = some (.cells ((⟨X.c + 1, a1, O, X.D⟩ : LS).cells gm) 46 (0, 0))) := by
    rw [← hW3, ← HC.out, ← HO.out]; exact ⟨blk_set (blk_set HI2.out.ln.blk 0 _) 1 _⟩
  have O3 : Aside0 (W3.ownsMap Tryd.prog 29 (plainElem Tryd.prog 3) gm X.c X.D) := by
    rw [← hW3]; exact ⟨(HI2.out.ln.own.setCell (a := ⟨g, 0, none⟩) (Ne.symm ne) _).setCell (a := ⟨g, 1, none⟩) (Ne.symm ne) _⟩
  have V3 : Aside0 (Mv w W3 g gm) := by rw [← hW3]; exact ⟨((Mv.of_below HI2.out.bel).set 0 _).set 1 _⟩
  have e3 := blk_far (p := ⟨g, 1, none⟩) (blk_far (p := ⟨g, 0, none⟩) HI2.out.ev nqg (.int .i64 (C + 1))) nqg (.int .u64 a1)
  rw [hW3] at e3
  have p0 : W3.cell? ⟨q, 0, none⟩ = some (.int .i64 k) := blk_cell e3 0
  have p2 : W3.cell? ⟨q, 2, none⟩ = some (.int .u64 a2) := blk_cell e3 2
  have r3 : W3.cell? ⟨g, 3, none⟩ = some (.int .i64 O) := blk_cell B3.out 3
  have NE := Aside0.mk ne
  clear e3 ne
  go_wp2
  go_region_held3 (fun V => V.cell? ⟨q, 0, none⟩ = some (.int .i64 k) ∧ Below W3.heap.size W3 V) (first | exact ⟨p0, pw_below_drewN (Below.refl _ _) _⟩ | exact ⟨p0, Below.refl _ _⟩ | exact ⟨p4, hb4⟩ | exact ⟨p4, pw_below_drewN hb4 _⟩) (first | (go_at_call 24; refine (ways_z _ k HK4.out HK14.out).mono ?_; rintro e w4 ⟨b, A, n, rfl, hWz⟩; have hb4 : Below W3.heap.size W3 w4 := (by first | exact hWz.bel | exact below_then (pw_below_drewN (Below.refl _ _) 1) (Nat.le_refl _) hWz.bel); have p4 : w4.cell? ⟨q, 0, none⟩ = some (.int .i64 k) := pw_cell_below hb4 p0; have p42 : w4.cell? ⟨q, 2, none⟩ = some (.int .u64 a2) := pw_cell_below hb4 p2; have r4 : w4.cell? ⟨g, 3, none⟩ = some (.int .i64 O) := pw_cell_below hb4 r3; have hlk := hWz.look w4 rfl; have hlkd := hWz.look w4.drew rfl; have hlkn := fun m => hWz.look (w4.drewN m) rfl))
  have B4 : Aside0 (w4.heap[g]? = some (.cells ((⟨X.c + 1, a1, O, X.D⟩ : LS).cells gm) 46 (0, 0))) := ⟨blk_below B3.out hb4⟩
  have fz4 := blk_frozen B4.out 3
  have O4 : Aside0 (w4.ownsMap Tryd.prog 29 (plainElem Tryd.prog 3) gm X.c X.D) := ⟨O3.out.kept (grown_of_below hb4 none) (by simp)⟩
  have V4 : Aside0 (Mv w w4 g gm) := ⟨V3.out.trans (Mv.of_below hb4)⟩
  have m4 : w4.cell? ⟨g, 2, none⟩ = some (.map (some gm)) := blk_cell B4.out 2
  obtain ⟨W5, hW5⟩ : ∃ W5, w4.setCell ⟨g, 3, none⟩ (.int .i64 (O - 1)) = W5 := ⟨_, rfl⟩
  have B5 : Aside0 (W5.heap[g]? = some (.cells ((⟨X.c + 1, a1, O - 1, X.D⟩ : LS).cells gm) 46 (0, 0))) := by
    rw [← hW5]; exact ⟨blk_set B4.out 3 _⟩
  have O5 : Aside0 (W5.ownsMap Tryd.prog 29 (plainElem Tryd.prog 3) gm X.c X.D) := by
    rw [← hW5]; exact ⟨O4.out.setCell (a := ⟨g, 3, none⟩) (Ne.symm NE.out) _⟩
  have V5 : Aside0 (Mv w W5 g gm) := by rw [← hW5]; exact ⟨V4.out.set 3 _⟩
  have m5 : W5.cell? ⟨g, 2, none⟩ = some (.map (some gm)) := blk_cell B5.out 2
  have p5 : W5.cell? ⟨q, 2, none⟩ = some (.int .u64 a2) := by rw [← hW5]; rw [cell_setCell_far _ _ _ _ (by simpa using nqg)]; exact p42
  obtain ⟨f, hf, hf2⟩ := put_ex (id := a2) (tv := (wayOf k).2) O5.out HLE.out HWF.out (way_wf k HK4.out HK14.out)
  have F4 := Aside0.mk hf2
  clear hf2 B4 O4 V4
  have B4 := B5
  have V4 := V5
  clear B5 V5 O5
  have hf0 := hf 0
  have hf3 := hf 1
  rw [show W5.drewN 1 = W5.drew from rfl] at hf3
  rw [show W5.drewN 0 = W5 from rfl] at hf0
  go_wp2
  go_region
  go_wp2
  all_goals (go_ret; refine ⟨rfl, Ln.taken B4.out NE.out (F4.out _).2 (F4.out _).1 ?_ ?_ ?_, V4.out.grown (F4.out _).2⟩ <;> (simp only; have := HC.out; have := HOP.out; have := HO.out; omega))
def rightS (e : S31) : Bool := rightF e.f0 e.f2 e.f3 e.f4 e.f5 e.f6 e.f7 e.f8 e.f9
def evV (e : S31) : Value := .agg #[.int .i64 e.f0, .int .u64 e.f1, .int .u64 e.f2, .string e.f3, .string e.f4, .string e.f5, .string e.f6, .int .i64 e.f7, .int .i64 e.f8, .int .i64 e.f9]
/-- What a line answers to an event, and what it is then. -/
def feedF (X : LS) (e : S31) : Int × LS :=
  if rightS e = false then (1, X)
  else if X.c = 4096 then (5, X)
  else if e.f1 < X.last then (6, X)
  else if mayF X e.f0 e.f2 = false then (6, X)
  else if e.f0 = 3 then (if X.op = 64 then (5, X) else (0, ⟨X.c + 1, e.f1, X.op + 1, X.D.put (.int .u64 e.f2) (.lit (.int .i64 1))⟩))
  else if e.f0 = 1 ∨ e.f0 = 2 then (0, ⟨X.c + 1, e.f1, X.op, X.D⟩)
  else (0, ⟨X.c + 1, e.f1, if (wayOf e.f0).2 = 0 then X.op - 1 else X.op, X.D.put (.int .u64 e.f2) (.lit (.int .i64 (wayOf e.f0).2))⟩)
theorem rightS_kind {e : S31} (h : rightS e = true) : 1 ≤ e.f0 ∧ e.f0 ≤ 14 := by
  unfold rightS rightF at h
  simp only [Bool.and_eq_true, decide_eq_true_eq] at h
  exact h.1.1.1
theorem feed_calls {w : World} {g gm : Nat} {X : LS} (e : S31) (hG : Glob w) (h : Ln w g gm X) (hw : (Lit.int .u64 e.f2).wf = true) : Calls Tryd.prog 11 #[.pointer (some ⟨g, 0, none⟩), evV e] w fun r w' => r = .returned (.int .i64 (feedF X e).1) ∧ Ln w' g gm (feedF X e).2 ∧ Mv w w' g gm := by
  unfold feedF
  cases hr : rightS e with
  | false => rw [if_pos rfl]; exact feed_wrong e.f0 e.f1 e.f2 e.f3 e.f4 e.f5 e.f6 e.f7 e.f8 e.f9 hG h hr
  | true =>
    obtain ⟨k1, k14⟩ := rightS_kind hr
    rw [if_neg (by decide)]
    by_cases hc : X.c = 4096
    · rw [if_pos hc]; exact feed_full e.f0 e.f1 e.f2 e.f3 e.f4 e.f5 e.f6 e.f7 e.f8 e.f9 hG h hr (show (X.c : Int) = 4096 by omega)
    rw [if_neg hc]
    have hc' : ((X.c : Int) == 4096) = false := by rw [beq_eq_false_iff_ne]; omega
    by_cases ht : e.f1 < X.last
    · rw [if_pos ht]; exact feed_late e.f0 e.f1 e.f2 e.f3 e.f4 e.f5 e.f6 e.f7 e.f8 e.f9 hG h hr hc' (decide_eq_true ht)
    rw [if_neg ht]
    have ht' : decide (e.f1 < X.last) = false := decide_eq_false ht
    cases hm : mayF X e.f0 e.f2 with
    | false => rw [if_pos rfl]; exact feed_not e.f0 e.f1 e.f2 e.f3 e.f4 e.f5 e.f6 e.f7 e.f8 e.f9 hG h hr ⟨k1, k14⟩ hw hm hc' ht'
    | true =>
      rw [if_neg (by decide)]
      by_cases h3 : e.f0 = 3
      · rw [if_pos h3]
        have hr3 : rightF 3 e.f2 e.f3 e.f4 e.f5 e.f6 e.f7 e.f8 e.f9 = true := by rw [← h3]; exact hr
        have hm3 : mayF X 3 e.f2 = true := by rw [← h3]; exact hm
        unfold evV
        rw [h3]
        by_cases ho : X.op = 64
        · rw [if_pos ho]; exact feed_over e.f1 e.f2 e.f3 e.f4 e.f5 e.f6 e.f7 e.f8 e.f9 hG h hr3 hw hm3 hc' ht' ho
        · rw [if_neg ho]; exact feed_start e.f1 e.f2 e.f3 e.f4 e.f5 e.f6 e.f7 e.f8 e.f9 hG h hr3 hw hm3 hc' ht' (by rw [beq_eq_false_iff_ne]; exact ho)
      rw [if_neg h3]
      by_cases h1 : e.f0 = 1
      · rw [if_pos (.inl h1)]
        have hr3 : rightF 1 e.f2 e.f3 e.f4 e.f5 e.f6 e.f7 e.f8 e.f9 = true := by rw [← h1]; exact hr
        have hm3 : mayF X 1 e.f2 = true := by rw [← h1]; exact hm
        unfold evV
        rw [h1]
        exact feed_page e.f1 e.f2 e.f3 e.f4 e.f5 e.f6 e.f7 e.f8 e.f9 hG h hr3 hw hm3 hc' ht'
      by_cases h2 : e.f0 = 2
      · rw [if_pos (.inr h2)]
        have hr3 : rightF 2 e.f2 e.f3 e.f4 e.f5 e.f6 e.f7 e.f8 e.f9 = true := by rw [← h2]; exact hr
        have hm3 : mayF X 2 e.f2 = true := by rw [← h2]; exact hm
        unfold evV
        rw [h2]
        exact feed_policy e.f1 e.f2 e.f3 e.f4 e.f5 e.f6 e.f7 e.f8 e.f9 hG h hr3 hw hm3 hc' ht'
      rw [if_neg (by omega)]
      by_cases hz : (wayOf e.f0).2 = 0
      · rw [if_pos hz]
        exact feed_end e.f0 e.f1 e.f2 e.f3 e.f4 e.f5 e.f6 e.f7 e.f8 e.f9 hG h hr (by omega) k14 (by rw [hz]; rfl) hw hm hc' ht'
      · rw [if_neg hz]
        exact feed_on e.f0 e.f1 e.f2 e.f3 e.f4 e.f5 e.f6 e.f7 e.f8 e.f9 hG h hr (by omega) k14 (by rw [beq_eq_false_iff_ne]; exact hz) hw hm hc' ht'
end Go.Proofs.YtjflbjlkcifpdaaDoor.Ext
