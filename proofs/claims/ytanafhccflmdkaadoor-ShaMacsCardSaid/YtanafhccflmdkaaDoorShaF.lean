/- The laws' own small case; texts. -/
import Derived.Test.YtanafhccflmdkaaDoorShaE
namespace Go.Proofs.YtanafhccflmdkaaDoor.Ext
open Go.RowKit Go.Proofs.YtanafhccflmdkaaDoorW.PrintWords Go.Proofs.YtanafhccflmdkaaDoorW.PrintLast Go.Proofs.YtanafhccflmdkaaDoorW.PrintMore
set_option linter.unusedVariables false
set_option linter.unusedSimpArgs false
attribute [local go_sem] max2_int min2_int max_two min_two
/-- A row of constant bytes that was just laid reads so. -/
theorem reads_lit (w : World) (xs : List Int) (fr : Nat × Nat) (h : xs.length ≤ 9223372036854775807) : Kd.C (Kd.int .u8) (w.alloc (.cells (nums .u8 xs).toArray 5 fr)) (some ⟨w.heap.size, 0, none⟩) xs.length xs := by
  refine Kd.C_of_reads (d := (0 : Int)) (h1 := fun _ => rfl) ⟨rfl, h, fun hn => ⟨_, rfl, fun j hj => ?_⟩⟩
  rw [add_plain, cell_of_row _ _ _ _ _ _ (heap_alloc_new w _)]
  simp [nums, List.getElem?_eq_getElem hj, List.getD_eq_getElem?_getD]
theorem dv_get (x : D8) (i : Nat) (h : i < 32) : (dv x)[i]? = some (.int .u8 ((outs x).getD i 0)) := by
  unfold dv
  have hl : i < (outs x).length := by rw [outs_len]; exact h
  simp [hl, List.getD_eq_getElem?_getD]
def jefe : List Int := [74, 101, 102, 101]
def what : List Int := [119, 104, 97, 116, 32, 100, 111, 32, 121, 97, 32, 119, 97, 110, 116, 32, 102, 111, 114, 32, 110, 111, 116, 104, 105, 110, 103, 63]
theorem ev_abc : (digest [97, 98, 99]).getD 0 0 = 186 ∧ (digest [97, 98, 99]).getD 1 0 = 120 ∧ (digest [97, 98, 99]).getD 31 0 = 173 := by decide +kernel
theorem ev_nil : (digest []).getD 0 0 = 227 ∧ (digest []).getD 31 0 = 85 := by decide +kernel
theorem ev_mac : (mac jefe what).getD 0 0 = 91 ∧ (mac jefe what).getD 1 0 = 220 ∧ (mac jefe what).getD 31 0 = 67 := by decide +kernel
set_option maxHeartbeats 4000000 in
set_option maxRecDepth 100000 in
theorem shown_calls (w : World) (hG : Glob w) : Calls Tryd.prog 9 #[] w fun e w' => e = .returned (.bool true) ∧ Below w.heap.size w w' := by
  have kc := fun (w : World) (C : Array Value) (n c : Nat) => Lib.run_convert_bytes_const (P := Tryd.prog) w 22 5 C n c Tryd.underlying22 Tryd.underlying5
  have kc2 : ∀ (w : World) (A : Obj) (C : Array Value) (n c : Nat), (convert 22 22 (.slice (some ⟨w.heap.size + 1, 0, none⟩) n c)).run Tryd.prog ((w.alloc A).alloc (.cells C 5)) = .ok (.slice (some ⟨w.heap.size + 1, 0, none⟩) n c) ((w.alloc A).alloc (.cells C 5 (C.size, C.size + 1))) := by
    intro w A C n c
    have h_ := kc (w.alloc A) C n c
    have e_ : (w.alloc A).heap.size = w.heap.size + 1 := by simp
    rw [e_] at h_
    exact h_
  have hz := zero25
  obtain ⟨Z, hZ⟩ : ∃ Z, Z = Z25 := ⟨_, rfl⟩
  rw [← hZ] at hz
  have HZ := Aside0.mk (show Z.size = 32 by rw [hZ]; rfl)
  have HG := Aside0.mk hG
  clear hZ hG
  go_enter Tryd.func9, Tryd.ntmps9
  go_wp2_with fail
  refine (digest_calls (some ⟨w.heap.size, 0, none⟩) 3 [97, 98, 99] _ (HG.out.alloc _) (reads_lit w [97, 98, 99] (3, 4) (by decide)) (by decide) (by unfold Bytes; decide) (by decide)).mono ?_
  rintro e w1 ⟨rfl, hb1⟩
  have HB1 := Aside0.mk (below_then (below_alloc (Below.refl w.heap.size w) _) (by simp) hb1)
  clear hb1
  obtain ⟨X, hX⟩ : ∃ X, X = DW [97, 98, 99] := ⟨_, rfl⟩
  rw [← hX]
  have HX := Aside0.mk (show outs X = digest [97, 98, 99] by rw [hX]; rfl)
  clear hX
  go_wp2_with ((with_reducible refine gate_store (p := 1) rfl ?_); refine st_row ?hgd_1 25 (.tmp 1) (.tmp 6) ?ho_1 w1.heap.size (dv X) ?hx_1 ?hy_1 25 Z ?hg_1 ?hi_1 ?hold_1 (dv_one _) ?_; (case hgd_1 => rfl); (case ho_1 => rfl); (case hx_1 => rfl); (case hy_1 => rfl); (case hg_1 => exact blk_new _ _); (case hi_1 => rw [dv_size]; exact size25); (case hold_1 => rw [HZ.out, dv_size]); intro w2 hb2 hg2)
  have HB2 := Aside0.mk ((below_alloc HB1.out _).trans (gr_below hg2.out HB1.out.size (below_alloc HB1.out (.cells Z 25)).size))
  obtain ⟨g1, hg1⟩ : ∃ g, g = w1.heap.size := ⟨_, rfl⟩
  rw [← hg1] at hb2 ⊢
  clear hg2 HB1
  refine (digest_calls none 0 [] w2 (HG.out.below HB2.out) (Kd.C_nil _ _) (by decide) (by intro x hx; simp at hx) (by decide)).mono ?_
  rintro e w3 ⟨rfl, hb3⟩
  have HB3 := Aside0.mk (below_step HB2.out hb3)
  have HG3 := Aside0.mk (blk_below hb2.out hb3)
  clear hb3 HB2 hb2 hg1
  obtain ⟨Y, hY⟩ : ∃ X, X = DW [] := ⟨_, rfl⟩
  rw [← hY]
  have HY := Aside0.mk (show outs Y = digest [] by rw [hY]; rfl)
  clear hY
  go_wp2_with ((with_reducible refine gate_store (p := 2) rfl ?_); refine st_row ?hgd_2 25 (.tmp 2) (.tmp 7) ?ho_2 w3.heap.size (dv Y) ?hx_2 ?hy_2 25 Z ?hg_2 ?hi_2 ?hold_2 (dv_one _) ?_; (case hgd_2 => rfl); (case ho_2 => rfl); (case hx_2 => rfl); (case hy_2 => rfl); (case hg_2 => exact blk_new _ _); (case hi_2 => rw [dv_size]; exact size25); (case hold_2 => rw [HZ.out, dv_size]); intro w4 hb4 hg4)
  have HB4 := Aside0.mk ((below_alloc HB3.out _).trans (gr_below hg4.out HB3.out.size (below_alloc HB3.out (.cells Z 25)).size))
  have HG4 := Aside0.mk (gr_blk hg4.out (blk_alloc HG3.out _) (by have h_ := blk_lt HG3.out; omega))
  obtain ⟨g2, hg2⟩ : ∃ g, g = w3.heap.size := ⟨_, rfl⟩
  rw [← hg2] at hb4 ⊢
  clear hg4 HB3 HG3
  obtain ⟨W5, hW5⟩ : ∃ W5, W5 = (w4.alloc (Obj.cells (nums .u8 jefe).toArray 5 (4, 5))).alloc (Obj.cells (nums .u8 what).toArray 5 (28, 29)) := ⟨_, rfl⟩
  have HB5 := Aside0.mk (show Below w.heap.size w W5 by rw [hW5]; exact below_alloc (below_alloc HB4.out _) _)
  have HG5 := Aside0.mk (show W5.heap[g1]? = some (.cells (dv X) 25 (0, 0)) by rw [hW5]; exact blk_alloc (blk_alloc HG4.out _) _)
  have HH5 := Aside0.mk (show W5.heap[g2]? = some (.cells (dv Y) 25 (0, 0)) by rw [hW5]; exact blk_alloc (blk_alloc hb4.out _) _)
  have HC5 := Aside0.mk (show Kd.C (Kd.int .u8) W5 (some ⟨w4.heap.size, 0, none⟩) jefe.length jefe by rw [hW5]; exact Kd.C_alloc (reads_lit w4 jefe (4, 5) (by decide)) _)
  have HD5 := Aside0.mk (show Kd.C (Kd.int .u8) W5 (some ⟨w4.heap.size + 1, 0, none⟩) what.length what by
    have e_ : (w4.alloc (Obj.cells (nums .u8 jefe).toArray 5 (4, 5))).heap.size = w4.heap.size + 1 := by simp
    rw [hW5, ← e_]; exact reads_lit _ what (28, 29) (by decide))
  have hW6 : W5 = (w4.alloc (Obj.cells #[.int .u8 74, .int .u8 101, .int .u8 102, .int .u8 101] 5 (4, 5))).alloc (Obj.cells #[.int .u8 119, .int .u8 104, .int .u8 97, .int .u8 116, .int .u8 32, .int .u8 100, .int .u8 111, .int .u8 32, .int .u8 121, .int .u8 97, .int .u8 32, .int .u8 119, .int .u8 97, .int .u8 110, .int .u8 116, .int .u8 32, .int .u8 102, .int .u8 111, .int .u8 114, .int .u8 32, .int .u8 110, .int .u8 111, .int .u8 116, .int .u8 104, .int .u8 105, .int .u8 110, .int .u8 103, .int .u8 63] 5 (28, 29)) := hW5
  rw [← hW6]
  clear hW5 hW6 HB4 HG4 hg2 hb4
  refine (mac_calls (some ⟨w4.heap.size, 0, none⟩) 4 jefe (some ⟨w4.heap.size + 1, 0, none⟩) 28 what W5 (HG.out.below HB5.out) HC5.out (by decide) (by unfold Bytes; decide) (by decide) HD5.out (by decide) (by unfold Bytes; decide) (by decide)).mono ?_
  rintro e w6 ⟨T, hT, rfl, hb6⟩
  have HT := Aside0.mk hT
  have HB6 := Aside0.mk (below_step HB5.out hb6)
  have HG6 := Aside0.mk (blk_below HG5.out hb6)
  have HH6 := Aside0.mk (blk_below HH5.out hb6)
  clear hb6 HB5 HG5 HH5 HC5 HD5 hT kc kc2
  go_upto_region 4 with ((with_reducible refine gate_store (p := 3) rfl ?_); refine st_row ?hgd_3 25 (.tmp 3) (.tmp 12) ?ho_3 w6.heap.size (dv T) ?hx_3 ?hy_3 25 Z ?hg_3 ?hi_3 ?hold_3 (dv_one _) ?_; (case hgd_3 => rfl); (case ho_3 => rfl); (case hx_3 => rfl); (case hy_3 => rfl); (case hg_3 => exact blk_new _ _); (case hi_3 => rw [dv_size]; exact size25); (case hold_3 => rw [HZ.out, dv_size]); intro w7 hb7 hg7)
  have HB7 := Aside0.mk ((below_alloc HB6.out _).trans (gr_below hg7.out HB6.out.size (below_alloc HB6.out (.cells Z 25)).size))
  have HG7 := Aside0.mk (gr_blk hg7.out (blk_alloc HG6.out _) (by have h_ := blk_lt HG6.out; omega))
  have HH7 := Aside0.mk (gr_blk hg7.out (blk_alloc HH6.out _) (by have h_ := blk_lt HH6.out; omega))
  obtain ⟨g3, hg3⟩ : ∃ g, g = w6.heap.size := ⟨_, rfl⟩
  rw [← hg3] at hb7 ⊢
  clear hg7 HB6 HG6 HH6 hg3
  have a0 : w7.cell? ⟨g1, 0, none⟩ = some (.int .u8 186) := by rw [blk_cell HG7.out, dv_get _ _ (by decide), HX.out, ev_abc.1]
  have a1 : w7.cell? ⟨g1, 1, none⟩ = some (.int .u8 120) := by rw [blk_cell HG7.out, dv_get _ _ (by decide), HX.out, ev_abc.2.1]
  have a2 : w7.cell? ⟨g1, 31, none⟩ = some (.int .u8 173) := by rw [blk_cell HG7.out, dv_get _ _ (by decide), HX.out, ev_abc.2.2]
  have b0 : w7.cell? ⟨g2, 0, none⟩ = some (.int .u8 227) := by rw [blk_cell HH7.out, dv_get _ _ (by decide), HY.out, ev_nil.1]
  have b1 : w7.cell? ⟨g2, 31, none⟩ = some (.int .u8 85) := by rw [blk_cell HH7.out, dv_get _ _ (by decide), HY.out, ev_nil.2]
  have m0 : w7.cell? ⟨g3, 0, none⟩ = some (.int .u8 91) := by rw [blk_cell hb7.out, dv_get _ _ (by decide), HT.out, ev_mac.1]
  have m1 : w7.cell? ⟨g3, 1, none⟩ = some (.int .u8 220) := by rw [blk_cell hb7.out, dv_get _ _ (by decide), HT.out, ev_mac.2.1]
  have m2 : w7.cell? ⟨g3, 31, none⟩ = some (.int .u8 67) := by rw [blk_cell hb7.out, dv_get _ _ (by decide), HT.out, ev_mac.2.2]
  go_wp2_with (fail)
  go_ret
  exact ⟨rfl, HB7.out⟩
/-- A digest as a text. -/
def strOuts (x : D8) : ByteArray := strOfNums (outs x)
set_option maxHeartbeats 4000000 in
theorem text_calls (x : D8) (w : World) : Calls Tryd.prog 10 #[.agg (dv x)] w fun e w' => e = .returned (.string (strOuts x)) ∧ Below w.heap.size w w' := by
  have hcv := fun (W : World) (g : Nat) (h : W.heap[g]? = some (.cells (dv x) 25 (0, 0))) => Kd.C_string (P := Tryd.prog) (c := 32) Tryd.underlying22 Tryd.underlying5 Tryd.underlying9 (dv_C x h)
  have h1 := hcv (w.alloc (.cells (dv x) 25)) w.heap.size (blk_new _ _)
  rw [outs_len] at h1
  obtain ⟨D, hD⟩ : ∃ D, D = dv x := ⟨_, rfl⟩
  rw [← hD] at h1 ⊢
  clear hcv hD
  go_enter Tryd.func10, Tryd.ntmps10
  go_wp2_with (fail)
  go_ret
  exact ⟨rfl, below_alloc (Below.refl _ _) _⟩
end Go.Proofs.YtanafhccflmdkaaDoor.Ext
