/- LineLater: by hand. Written by wip/tools/lineh.py. -/
import Derived.Test.YtjflbjlkcifpdaaDoorLineH
import Derived.Deep.WholeRow
namespace Go.Proofs.YtjflbjlkcifpdaaDoor.Ext
open Go.RowKit Go.Proofs.YtjflbjlkcifpdaaDoor.Xa Go.Proofs.YtjflbjlkcifpdaaDoorW.PrintWords Go.Proofs.YtjflbjlkcifpdaaDoorW.PrintLast Go.Proofs.YtjflbjlkcifpdaaDoorW.PrintMore
open Go.Maps (Keyed)
set_option linter.unusedVariables false
set_option linter.unusedSimpArgs false
theorem store29 {W : World} {q : Nat} {cs : Array Value} {t : TypeId} (hb : W.heap[q]? = some (.cells cs t (0, 0))) (i : Nat) (hi : i < cs.size) (v : Int) : (storeVar 29 ⟨q, i, none⟩ (.int .u64 v)).run Tryd.prog W = .ok () (W.setCell ⟨q, i, none⟩ (.int .u64 v)) := by
  have h1 : W.cell? ⟨q, i, none⟩ = some cs[i] := by rw [blk_cell hb i]; exact Array.getElem?_eq_getElem hi
  have h2 := blk_frozen hb i
  simp [go_sem, h1, h2]
attribute [-go_sem] storeVar
theorem store31 (W : World) (c c' : Array Value) (h : c.size = 10) (h' : c'.size = 10) (h1 : c'.all (·.oneCell') = true) : (storeVar 31 ⟨W.heap.size, 0, none⟩ (.agg c')).run Tryd.prog (W.alloc (.cells c 31)) = .ok () (W.alloc (.cells c' 31)) :=
  run_storeVar_new W 31 c c' (by rw [h']; kernel_rfl) (by rw [h, h']) h1
set_option maxHeartbeats 4000000 in
theorem later_calls (A0 : Option Addr) (c0 : Nat) (l : List S31) (w : World) (hG : Glob w) (hr : Kd.C k31 w A0 l.length l) (hwf : ∀ i, (Lit.int .u64 (rd_T31 l i).f2).wf = true) (hwt : ∀ i, (Lit.int .u64 (rd_T31 l i).f1).wf = true) :
    Calls Tryd.prog 7 #[.slice A0 l.length c0] w fun e w' => e = .returned (.bool true) ∧ Below w.heap.size w w' := by
  have HG := Aside0.mk hG
  have HR := Aside0.mk hr
  have HWF := Aside0.mk hwf
  have HWT := Aside0.mk hwt
  obtain ⟨n, hnl⟩ : ∃ n : Int, (l.length : Int) = n := ⟨_, rfl⟩
  have HN := Aside0.mk hnl
  have hn0 : 0 ≤ n := by omega
  have hn1 : n ≤ 9223372036854775807 := by have := hr.2.1; omega
  clear hG hr hwf hwt
  go_enter Tryd.func7, Tryd.ntmps7
  go_wp2_with (fail)
  refine (shown_calls w HG.out).mono ?_
  rintro e w0 ⟨rfl, hb0⟩
  have HB0 := Aside0.mk hb0
  clear hb0
  go_wp2_with (fail)
  refine (new_calls w0).mono ?_
  rintro e w1 ⟨g, gm, rfl, hl, hg, hm, hb⟩
  have H1 := Aside0.mk (Wl.mk (below_then HB0.out HB0.out.size hb) hl (Nat.le_trans HB0.out.size hg) (Nat.le_trans HB0.out.size hm))
  clear hl hg hm hb
  go_wp2_with (fail)
  refine (new_calls w1).mono ?_
  rintro e w2 ⟨h, hm, rfl, hl, hh, hhm, hb⟩
  have H2 := Aside0.mk (W2.start H1.out hl hh hhm hb)
  clear hl hh hhm hb H1
  go_wp2_with (fail)
  go_loopg [6] n.toNat (fun m v6 W => ∃ (I : Int) (X : LS), v6 = .int .i64 I ∧ 0 ≤ I ∧ I ≤ 150 ∧ I + m = n ∧ Aside0 (W2 w W g gm h hm X X ∧ okT X))
  case atStart => exact ⟨0, L0, rfl, Int.le_refl _, by omega, by omega, ⟨H2.out, by decide, by decide⟩⟩
  case round =>
    obtain ⟨I, X, rfl, hI0, hI150, hIm, HXT⟩ := hrel
    have HX := Aside0.mk HXT.out.1
    have HT := Aside0.mk HXT.out.2
    clear HXT
    by_cases hi : I < n
    · by_cases hi2 : I < 150
      · go_wp2_with (fail)
        refine (last_calls HX.out.a.ln).mono ?_
        rintro e w3 ⟨rfl, hw3⟩
        subst w3
        obtain ⟨L, hL⟩ : ∃ L, X.last = L := ⟨_, rfl⟩
        have HL := Aside0.mk hL
        rw [hL]
        have hL1 : L < 18446744073709551616 := by rw [← hL]; exact HT.out.2
        clear hL
        by_cases hp : 0 < L
        · obtain ⟨ad, hA, e0, e1, e2, e3, e4, e5, e6, e7, e8, e9⟩ := at_T31 (Kd.C_below HR.out HX.out.a.bel) I hI0 (by have := HN.out; omega)
          subst hA
          obtain ⟨q, hq⟩ : ∃ q, wr.heap.size = q := ⟨_, rfl⟩
          obtain ⟨Wz, hWz⟩ : ∃ W, wr.alloc (.cells #[.int .i64 0, .int .u64 0, .int .u64 0, .string ⟨#[]⟩, .string ⟨#[]⟩, .string ⟨#[]⟩, .string ⟨#[]⟩, .int .i64 0, .int .i64 0, .int .i64 0] 31) = W := ⟨_, rfl⟩
          obtain ⟨W5, hW5⟩ : ∃ W, wr.alloc (.cells #[.int .i64 (rd_T31 l I).f0, .int .u64 (rd_T31 l I).f1, .int .u64 (rd_T31 l I).f2, .string (rd_T31 l I).f3, .string (rd_T31 l I).f4, .string (rd_T31 l I).f5, .string (rd_T31 l I).f6, .int .i64 (rd_T31 l I).f7, .int .i64 (rd_T31 l I).f8, .int .i64 (rd_T31 l I).f9] 31) = W := ⟨_, rfl⟩
          have hst := store31 wr #[.int .i64 0, .int .u64 0, .int .u64 0, .string ⟨#[]⟩, .string ⟨#[]⟩, .string ⟨#[]⟩, .string ⟨#[]⟩, .int .i64 0, .int .i64 0, .int .i64 0] #[.int .i64 (rd_T31 l I).f0, .int .u64 (rd_T31 l I).f1, .int .u64 (rd_T31 l I).f2, .string (rd_T31 l I).f3, .string (rd_T31 l I).f4, .string (rd_T31 l I).f5, .string (rd_T31 l I).f6, .int .i64 (rd_T31 l I).f7, .int .i64 (rd_T31 l I).f8, .int .i64 (rd_T31 l I).f9] rfl rfl (by kernel_rfl)
          have hb5 : Below wr.heap.size wr W5 := by rw [← hW5]; exact below_alloc (Below.refl _ _) _
          have hq5 : W5.heap[q]? = some (.cells #[.int .i64 (rd_T31 l I).f0, .int .u64 (rd_T31 l I).f1, .int .u64 (rd_T31 l I).f2, .string (rd_T31 l I).f3, .string (rd_T31 l I).f4, .string (rd_T31 l I).f5, .string (rd_T31 l I).f6, .int .i64 (rd_T31 l I).f7, .int .i64 (rd_T31 l I).f8, .int .i64 (rd_T31 l I).f9] 31 (0, 0)) := by rw [← hW5, ← hq]; exact blk_new _ _
          have hb6 : Below wr.heap.size wr (W5.setCell ⟨q, 1, none⟩ (.int .u64 (L - 1))) := hb5.setCell (by rw [← hq]; exact Nat.le_refl _) _
          have hq6 := blk_set hq5 1 (.int .u64 (L - 1))
          have hst2 := store29 hq5 1 (by simp) (L - 1)
          obtain ⟨W6, hW6⟩ : ∃ W, W5.setCell ⟨q, 1, none⟩ (.int .u64 (L - 1)) = W := ⟨_, rfl⟩
          rw [hW6] at hb6 hq6 hst2
          rw [hq, hWz, hW5] at hst
          have HX5 := Aside0.mk (HX.out.below hb5)
          have HX6 := Aside0.mk (HX.out.below hb6)
          have HQ := Aside0.mk hq6
          clear hb5 hb6 hq5 hq6 hW6 hW5
          have hL2 : 0 ≤ L - 1 := by omega
          go_wp2_with (fail)
          refine (last_calls HX5.out.a.ln).mono ?_
          rw [HL.out]
          rintro e w3 ⟨rfl, hw3⟩
          subst w3
          go_wp2_with (fail)
          refine (count_calls HX6.out.a.ln).mono ?_
          obtain ⟨C, hC⟩ : ∃ C : Int, (X.c : Int) = C := ⟨_, rfl⟩
          have HC := Aside0.mk hC
          rw [hC]
          clear hC
          rintro e w3 ⟨rfl, hw3⟩
          subst w3
          have q0 := blk_cell HQ.out 0
          have q1 := blk_cell HQ.out 1
          have q2 := blk_cell HQ.out 2
          have q3 := blk_cell HQ.out 3
          have q4 := blk_cell HQ.out 4
          have q5 := blk_cell HQ.out 5
          have q6 := blk_cell HQ.out 6
          have q7 := blk_cell HQ.out 7
          have q8 := blk_cell HQ.out 8
          have q9 := blk_cell HQ.out 9
          go_wp2_with (fail)
          have hlate := late_no (X := X) (e := ⟨(rd_T31 l I).f0, L - 1, (rd_T31 l I).f2, (rd_T31 l I).f3, (rd_T31 l I).f4, (rd_T31 l I).f5, (rd_T31 l I).f6, (rd_T31 l I).f7, (rd_T31 l I).f8, (rd_T31 l I).f9⟩) (by rw [HL.out]; show L - 1 < L; omega)
          refine (feed_calls ⟨(rd_T31 l I).f0, L - 1, (rd_T31 l I).f2, (rd_T31 l I).f3, (rd_T31 l I).f4, (rd_T31 l I).f5, (rd_T31 l I).f6, (rd_T31 l I).f7, (rd_T31 l I).f8, (rd_T31 l I).f9⟩ (HG.out.below HX6.out.a.bel) HX6.out.a.ln (HWF.out I)).mono ?_
          obtain ⟨r, hr⟩ : ∃ r, (feedF X ⟨(rd_T31 l I).f0, L - 1, (rd_T31 l I).f2, (rd_T31 l I).f3, (rd_T31 l I).f4, (rd_T31 l I).f5, (rd_T31 l I).f6, (rd_T31 l I).f7, (rd_T31 l I).f8, (rd_T31 l I).f9⟩).1 = r := ⟨_, rfl⟩
          rw [hr] at hlate ⊢
          rw [hlate.1]
          have hr3 := hlate.2
          clear hlate hr
          rintro e w3 ⟨rfl, hl, hv⟩
          have HX7 := Aside0.mk (HX6.out.feedA hl hv)
          clear hl hv HX5 HX6 HQ q0 q1 q2 q3 q4 q5 q6 q7 q8 q9 e0 e1 e2 e3 e4 e5 e6 e7 e8 e9 HX hst hst2
          have HX := HX7
          clear HX7
          rcases hr3 with rfl | rfl | rfl
          · go_wp2_with (fail)
            refine (count_calls HX.out.a.ln).mono ?_
            rw [HC.out]
            rintro e w4 ⟨rfl, hw4⟩
            subst w4
            go_wp2_with (fail)
            
            obtain ⟨ad1, hA, e0, e1, e2, e3, e4, e5, e6, e7, e8, e9⟩ := at_T31 (Kd.C_below HR.out HX.out.a.bel) I hI0 (by have := HN.out; omega)
            obtain rfl := Option.some.inj hA
            clear hA
            go_wp2
            obtain ⟨r, hr⟩ : ∃ r, (feedF X (rd_T31 l I)).1 = r := ⟨_, rfl⟩
            have HRR := Aside0.mk hr
            clear hr
            go_region_held3 (fun V => V.cell? (ad.add (I.toNat * 10)) = some (.int .i64 (rd_T31 l I).f0) ∧ V.cell? ⟨(ad.add (I.toNat * 10)).block, (ad.add (I.toNat * 10)).off + 1, none⟩ = some (.int .u64 (rd_T31 l I).f1) ∧ V.cell? ⟨(ad.add (I.toNat * 10)).block, (ad.add (I.toNat * 10)).off + 2, none⟩ = some (.int .u64 (rd_T31 l I).f2) ∧ V.cell? ⟨(ad.add (I.toNat * 10)).block, (ad.add (I.toNat * 10)).off + 3, none⟩ = some (.string (rd_T31 l I).f3) ∧ V.cell? ⟨(ad.add (I.toNat * 10)).block, (ad.add (I.toNat * 10)).off + 4, none⟩ = some (.string (rd_T31 l I).f4) ∧ V.cell? ⟨(ad.add (I.toNat * 10)).block, (ad.add (I.toNat * 10)).off + 5, none⟩ = some (.string (rd_T31 l I).f5) ∧ V.cell? ⟨(ad.add (I.toNat * 10)).block, (ad.add (I.toNat * 10)).off + 6, none⟩ = some (.string (rd_T31 l I).f6) ∧ V.cell? ⟨(ad.add (I.toNat * 10)).block, (ad.add (I.toNat * 10)).off + 7, none⟩ = some (.int .i64 (rd_T31 l I).f7) ∧ V.cell? ⟨(ad.add (I.toNat * 10)).block, (ad.add (I.toNat * 10)).off + 8, none⟩ = some (.int .i64 (rd_T31 l I).f8) ∧ V.cell? ⟨(ad.add (I.toNat * 10)).block, (ad.add (I.toNat * 10)).off + 9, none⟩ = some (.int .i64 (rd_T31 l I).f9)) (first | exact ⟨e0, e1, e2, e3, e4, e5, e6, e7, e8, e9⟩ | exact ⟨x0, x1, x2, x3, x4, x5, x6, x7, x8, x9⟩ | exact ⟨y0, y1, y2, y3, y4, y5, y6, y7, y8, y9⟩) (first
              | (have z_ := HY; clear z_; go_at_call 11; refine (feed_calls (rd_T31 l I) (HG.out.below (by first | exact HY.out.a.bel | exact (HY.out.drewN _).a.bel)) (by first | exact HY.out.b.ln | exact (HY.out.drewN _).b.ln) (HWF.out I)).mono ?_; rw [HRR.out]; rintro e w6 ⟨rfl, hl, hv⟩; have HY2 := Aside0.mk (by first | exact HY.out.feedB hl hv | exact (HY.out.drewN _).feedB hl hv); obtain ⟨ad2, hA2, y0, y1, y2, y3, y4, y5, y6, y7, y8, y9⟩ := at_T31 (Kd.C_below HR.out HY2.out.a.bel) I hI0 (by have := HN.out; omega); obtain rfl := Option.some.inj hA2; clear hA2 hl hv)
              | (go_at_call 11; refine (feed_calls (rd_T31 l I) (HG.out.below (by first | exact HX.out.a.bel | exact (HX.out.drewN _).a.bel)) (by first | exact HX.out.a.ln | exact (HX.out.drewN _).a.ln) (HWF.out I)).mono ?_; rw [HRR.out]; rintro e w5 ⟨rfl, hl, hv⟩; have HY := Aside0.mk (by first | exact HX.out.feedA hl hv | exact (HX.out.drewN _).feedA hl hv); obtain ⟨ad2, hA2, x0, x1, x2, x3, x4, x5, x6, x7, x8, x9⟩ := at_T31 (Kd.C_below HR.out HY.out.a.bel) I hI0 (by have := HN.out; omega); obtain rfl := Option.some.inj hA2; clear hA2 hl hv))
            all_goals
              go_wp2
              go_roundg (gk - 1)
              case measure => omega
              case rel => exact ⟨I + 1, _, rfl, by omega, by omega, by omega, ⟨by first | exact HY2.out | exact HY2.out.drewN _, okT_feed HT.out (HWT.out I)⟩⟩
          · go_wp2_with (fail)
            refine (count_calls HX.out.a.ln).mono ?_
            rw [HC.out]
            rintro e w4 ⟨rfl, hw4⟩
            subst w4
            go_wp2_with (fail)
            
            obtain ⟨ad1, hA, e0, e1, e2, e3, e4, e5, e6, e7, e8, e9⟩ := at_T31 (Kd.C_below HR.out HX.out.a.bel) I hI0 (by have := HN.out; omega)
            obtain rfl := Option.some.inj hA
            clear hA
            go_wp2
            obtain ⟨r, hr⟩ : ∃ r, (feedF X (rd_T31 l I)).1 = r := ⟨_, rfl⟩
            have HRR := Aside0.mk hr
            clear hr
            go_region_held3 (fun V => V.cell? (ad.add (I.toNat * 10)) = some (.int .i64 (rd_T31 l I).f0) ∧ V.cell? ⟨(ad.add (I.toNat * 10)).block, (ad.add (I.toNat * 10)).off + 1, none⟩ = some (.int .u64 (rd_T31 l I).f1) ∧ V.cell? ⟨(ad.add (I.toNat * 10)).block, (ad.add (I.toNat * 10)).off + 2, none⟩ = some (.int .u64 (rd_T31 l I).f2) ∧ V.cell? ⟨(ad.add (I.toNat * 10)).block, (ad.add (I.toNat * 10)).off + 3, none⟩ = some (.string (rd_T31 l I).f3) ∧ V.cell? ⟨(ad.add (I.toNat * 10)).block, (ad.add (I.toNat * 10)).off + 4, none⟩ = some (.string (rd_T31 l I).f4) ∧ V.cell? ⟨(ad.add (I.toNat * 10)).block, (ad.add (I.toNat * 10)).off + 5, none⟩ = some (.string (rd_T31 l I).f5) ∧ V.cell? ⟨(ad.add (I.toNat * 10)).block, (ad.add (I.toNat * 10)).off + 6, none⟩ = some (.string (rd_T31 l I).f6) ∧ V.cell? ⟨(ad.add (I.toNat * 10)).block, (ad.add (I.toNat * 10)).off + 7, none⟩ = some (.int .i64 (rd_T31 l I).f7) ∧ V.cell? ⟨(ad.add (I.toNat * 10)).block, (ad.add (I.toNat * 10)).off + 8, none⟩ = some (.int .i64 (rd_T31 l I).f8) ∧ V.cell? ⟨(ad.add (I.toNat * 10)).block, (ad.add (I.toNat * 10)).off + 9, none⟩ = some (.int .i64 (rd_T31 l I).f9)) (first | exact ⟨e0, e1, e2, e3, e4, e5, e6, e7, e8, e9⟩ | exact ⟨x0, x1, x2, x3, x4, x5, x6, x7, x8, x9⟩ | exact ⟨y0, y1, y2, y3, y4, y5, y6, y7, y8, y9⟩) (first
              | (have z_ := HY; clear z_; go_at_call 11; refine (feed_calls (rd_T31 l I) (HG.out.below (by first | exact HY.out.a.bel | exact (HY.out.drewN _).a.bel)) (by first | exact HY.out.b.ln | exact (HY.out.drewN _).b.ln) (HWF.out I)).mono ?_; rw [HRR.out]; rintro e w6 ⟨rfl, hl, hv⟩; have HY2 := Aside0.mk (by first | exact HY.out.feedB hl hv | exact (HY.out.drewN _).feedB hl hv); obtain ⟨ad2, hA2, y0, y1, y2, y3, y4, y5, y6, y7, y8, y9⟩ := at_T31 (Kd.C_below HR.out HY2.out.a.bel) I hI0 (by have := HN.out; omega); obtain rfl := Option.some.inj hA2; clear hA2 hl hv)
              | (go_at_call 11; refine (feed_calls (rd_T31 l I) (HG.out.below (by first | exact HX.out.a.bel | exact (HX.out.drewN _).a.bel)) (by first | exact HX.out.a.ln | exact (HX.out.drewN _).a.ln) (HWF.out I)).mono ?_; rw [HRR.out]; rintro e w5 ⟨rfl, hl, hv⟩; have HY := Aside0.mk (by first | exact HX.out.feedA hl hv | exact (HX.out.drewN _).feedA hl hv); obtain ⟨ad2, hA2, x0, x1, x2, x3, x4, x5, x6, x7, x8, x9⟩ := at_T31 (Kd.C_below HR.out HY.out.a.bel) I hI0 (by have := HN.out; omega); obtain rfl := Option.some.inj hA2; clear hA2 hl hv))
            all_goals
              go_wp2
              go_roundg (gk - 1)
              case measure => omega
              case rel => exact ⟨I + 1, _, rfl, by omega, by omega, by omega, ⟨by first | exact HY2.out | exact HY2.out.drewN _, okT_feed HT.out (HWT.out I)⟩⟩
          · go_wp2_with (fail)
            refine (count_calls HX.out.a.ln).mono ?_
            rw [HC.out]
            rintro e w4 ⟨rfl, hw4⟩
            subst w4
            go_wp2_with (fail)
            
            obtain ⟨ad1, hA, e0, e1, e2, e3, e4, e5, e6, e7, e8, e9⟩ := at_T31 (Kd.C_below HR.out HX.out.a.bel) I hI0 (by have := HN.out; omega)
            obtain rfl := Option.some.inj hA
            clear hA
            go_wp2
            obtain ⟨r, hr⟩ : ∃ r, (feedF X (rd_T31 l I)).1 = r := ⟨_, rfl⟩
            have HRR := Aside0.mk hr
            clear hr
            go_region_held3 (fun V => V.cell? (ad.add (I.toNat * 10)) = some (.int .i64 (rd_T31 l I).f0) ∧ V.cell? ⟨(ad.add (I.toNat * 10)).block, (ad.add (I.toNat * 10)).off + 1, none⟩ = some (.int .u64 (rd_T31 l I).f1) ∧ V.cell? ⟨(ad.add (I.toNat * 10)).block, (ad.add (I.toNat * 10)).off + 2, none⟩ = some (.int .u64 (rd_T31 l I).f2) ∧ V.cell? ⟨(ad.add (I.toNat * 10)).block, (ad.add (I.toNat * 10)).off + 3, none⟩ = some (.string (rd_T31 l I).f3) ∧ V.cell? ⟨(ad.add (I.toNat * 10)).block, (ad.add (I.toNat * 10)).off + 4, none⟩ = some (.string (rd_T31 l I).f4) ∧ V.cell? ⟨(ad.add (I.toNat * 10)).block, (ad.add (I.toNat * 10)).off + 5, none⟩ = some (.string (rd_T31 l I).f5) ∧ V.cell? ⟨(ad.add (I.toNat * 10)).block, (ad.add (I.toNat * 10)).off + 6, none⟩ = some (.string (rd_T31 l I).f6) ∧ V.cell? ⟨(ad.add (I.toNat * 10)).block, (ad.add (I.toNat * 10)).off + 7, none⟩ = some (.int .i64 (rd_T31 l I).f7) ∧ V.cell? ⟨(ad.add (I.toNat * 10)).block, (ad.add (I.toNat * 10)).off + 8, none⟩ = some (.int .i64 (rd_T31 l I).f8) ∧ V.cell? ⟨(ad.add (I.toNat * 10)).block, (ad.add (I.toNat * 10)).off + 9, none⟩ = some (.int .i64 (rd_T31 l I).f9)) (first | exact ⟨e0, e1, e2, e3, e4, e5, e6, e7, e8, e9⟩ | exact ⟨x0, x1, x2, x3, x4, x5, x6, x7, x8, x9⟩ | exact ⟨y0, y1, y2, y3, y4, y5, y6, y7, y8, y9⟩) (first
              | (have z_ := HY; clear z_; go_at_call 11; refine (feed_calls (rd_T31 l I) (HG.out.below (by first | exact HY.out.a.bel | exact (HY.out.drewN _).a.bel)) (by first | exact HY.out.b.ln | exact (HY.out.drewN _).b.ln) (HWF.out I)).mono ?_; rw [HRR.out]; rintro e w6 ⟨rfl, hl, hv⟩; have HY2 := Aside0.mk (by first | exact HY.out.feedB hl hv | exact (HY.out.drewN _).feedB hl hv); obtain ⟨ad2, hA2, y0, y1, y2, y3, y4, y5, y6, y7, y8, y9⟩ := at_T31 (Kd.C_below HR.out HY2.out.a.bel) I hI0 (by have := HN.out; omega); obtain rfl := Option.some.inj hA2; clear hA2 hl hv)
              | (go_at_call 11; refine (feed_calls (rd_T31 l I) (HG.out.below (by first | exact HX.out.a.bel | exact (HX.out.drewN _).a.bel)) (by first | exact HX.out.a.ln | exact (HX.out.drewN _).a.ln) (HWF.out I)).mono ?_; rw [HRR.out]; rintro e w5 ⟨rfl, hl, hv⟩; have HY := Aside0.mk (by first | exact HX.out.feedA hl hv | exact (HX.out.drewN _).feedA hl hv); obtain ⟨ad2, hA2, x0, x1, x2, x3, x4, x5, x6, x7, x8, x9⟩ := at_T31 (Kd.C_below HR.out HY.out.a.bel) I hI0 (by have := HN.out; omega); obtain rfl := Option.some.inj hA2; clear hA2 hl hv))
            all_goals
              go_wp2
              go_roundg (gk - 1)
              case measure => omega
              case rel => exact ⟨I + 1, _, rfl, by omega, by omega, by omega, ⟨by first | exact HY2.out | exact HY2.out.drewN _, okT_feed HT.out (HWT.out I)⟩⟩
        · obtain ⟨ad, hA, e0, e1, e2, e3, e4, e5, e6, e7, e8, e9⟩ := at_T31 (Kd.C_below HR.out HX.out.a.bel) I hI0 (by have := HN.out; omega)
          subst hA
          go_wp2
          obtain ⟨r, hr⟩ : ∃ r, (feedF X (rd_T31 l I)).1 = r := ⟨_, rfl⟩
          have HRR := Aside0.mk hr
          clear hr
          go_region_held3 (fun V => V.cell? (ad.add (I.toNat * 10)) = some (.int .i64 (rd_T31 l I).f0) ∧ V.cell? ⟨(ad.add (I.toNat * 10)).block, (ad.add (I.toNat * 10)).off + 1, none⟩ = some (.int .u64 (rd_T31 l I).f1) ∧ V.cell? ⟨(ad.add (I.toNat * 10)).block, (ad.add (I.toNat * 10)).off + 2, none⟩ = some (.int .u64 (rd_T31 l I).f2) ∧ V.cell? ⟨(ad.add (I.toNat * 10)).block, (ad.add (I.toNat * 10)).off + 3, none⟩ = some (.string (rd_T31 l I).f3) ∧ V.cell? ⟨(ad.add (I.toNat * 10)).block, (ad.add (I.toNat * 10)).off + 4, none⟩ = some (.string (rd_T31 l I).f4) ∧ V.cell? ⟨(ad.add (I.toNat * 10)).block, (ad.add (I.toNat * 10)).off + 5, none⟩ = some (.string (rd_T31 l I).f5) ∧ V.cell? ⟨(ad.add (I.toNat * 10)).block, (ad.add (I.toNat * 10)).off + 6, none⟩ = some (.string (rd_T31 l I).f6) ∧ V.cell? ⟨(ad.add (I.toNat * 10)).block, (ad.add (I.toNat * 10)).off + 7, none⟩ = some (.int .i64 (rd_T31 l I).f7) ∧ V.cell? ⟨(ad.add (I.toNat * 10)).block, (ad.add (I.toNat * 10)).off + 8, none⟩ = some (.int .i64 (rd_T31 l I).f8) ∧ V.cell? ⟨(ad.add (I.toNat * 10)).block, (ad.add (I.toNat * 10)).off + 9, none⟩ = some (.int .i64 (rd_T31 l I).f9)) (first | exact ⟨e0, e1, e2, e3, e4, e5, e6, e7, e8, e9⟩ | exact ⟨x0, x1, x2, x3, x4, x5, x6, x7, x8, x9⟩ | exact ⟨y0, y1, y2, y3, y4, y5, y6, y7, y8, y9⟩) (first
            | (have z_ := HY; clear z_; go_at_call 11; refine (feed_calls (rd_T31 l I) (HG.out.below (by first | exact HY.out.a.bel | exact (HY.out.drewN _).a.bel)) (by first | exact HY.out.b.ln | exact (HY.out.drewN _).b.ln) (HWF.out I)).mono ?_; rw [HRR.out]; rintro e w6 ⟨rfl, hl, hv⟩; have HY2 := Aside0.mk (by first | exact HY.out.feedB hl hv | exact (HY.out.drewN _).feedB hl hv); obtain ⟨ad2, hA2, y0, y1, y2, y3, y4, y5, y6, y7, y8, y9⟩ := at_T31 (Kd.C_below HR.out HY2.out.a.bel) I hI0 (by have := HN.out; omega); obtain rfl := Option.some.inj hA2; clear hA2 hl hv)
            | (go_at_call 11; refine (feed_calls (rd_T31 l I) (HG.out.below (by first | exact HX.out.a.bel | exact (HX.out.drewN _).a.bel)) (by first | exact HX.out.a.ln | exact (HX.out.drewN _).a.ln) (HWF.out I)).mono ?_; rw [HRR.out]; rintro e w5 ⟨rfl, hl, hv⟩; have HY := Aside0.mk (by first | exact HX.out.feedA hl hv | exact (HX.out.drewN _).feedA hl hv); obtain ⟨ad2, hA2, x0, x1, x2, x3, x4, x5, x6, x7, x8, x9⟩ := at_T31 (Kd.C_below HR.out HY.out.a.bel) I hI0 (by have := HN.out; omega); obtain rfl := Option.some.inj hA2; clear hA2 hl hv))
          all_goals
            go_wp2
            go_roundg (gk - 1)
            case measure => omega
            case rel => exact ⟨I + 1, _, rfl, by omega, by omega, by omega, ⟨by first | exact HY2.out | exact HY2.out.drewN _, okT_feed HT.out (HWT.out I)⟩⟩
      · go_wp2_with (fail)
        refine (count_calls HX.out.a.ln).mono ?_
        rintro e w3 ⟨rfl, hw3⟩
        subst w3
        go_wp2_with (fail)
        refine (count_calls HX.out.b.ln).mono ?_
        rintro e w3 ⟨rfl, hw3⟩
        subst w3
        go_wp2_with (fail)
        refine (open_calls HX.out.a.ln).mono ?_
        rintro e w3 ⟨rfl, hw3⟩
        subst w3
        go_wp2_with (fail)
        refine (open_calls HX.out.b.ln).mono ?_
        rintro e w3 ⟨rfl, hw3⟩
        subst w3
        go_wp2_with (fail)
        refine (last_calls HX.out.a.ln).mono ?_
        rintro e w3 ⟨rfl, hw3⟩
        subst w3
        go_wp2_with (fail)
        refine (last_calls HX.out.b.ln).mono ?_
        rintro e w3 ⟨rfl, hw3⟩
        subst w3
        go_wp2
        go_ret
        exact ⟨rfl, HX.out.a.bel⟩
    · go_wp2_with (fail)
      refine (count_calls HX.out.a.ln).mono ?_
      rintro e w3 ⟨rfl, hw3⟩
      subst w3
      go_wp2_with (fail)
      refine (count_calls HX.out.b.ln).mono ?_
      rintro e w3 ⟨rfl, hw3⟩
      subst w3
      go_wp2_with (fail)
      refine (open_calls HX.out.a.ln).mono ?_
      rintro e w3 ⟨rfl, hw3⟩
      subst w3
      go_wp2_with (fail)
      refine (open_calls HX.out.b.ln).mono ?_
      rintro e w3 ⟨rfl, hw3⟩
      subst w3
      go_wp2_with (fail)
      refine (last_calls HX.out.a.ln).mono ?_
      rintro e w3 ⟨rfl, hw3⟩
      subst w3
      go_wp2_with (fail)
      refine (last_calls HX.out.b.ln).mono ?_
      rintro e w3 ⟨rfl, hw3⟩
      subst w3
      go_wp2
      go_ret
      exact ⟨rfl, HX.out.a.bel⟩
end Go.Proofs.YtjflbjlkcifpdaaDoor.Ext
