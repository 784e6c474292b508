/- States: Sum; a digest; keys; tags. -/
import Derived.Test.YtanafhccflmdkaaDoorShaC
import Derived.Test.YtanafhccflmdkaaDoorWSized
import Derived.Lib.SlBytesConst
import Derived.Deep.Cut
namespace Go.Proofs.YtanafhccflmdkaaDoor.Ext
open Go.RowKit Go.Proofs.YtanafhccflmdkaaDoorW.PrintWords Go.Proofs.YtanafhccflmdkaaDoorW.PrintLast Go.Proofs.YtanafhccflmdkaaDoorW.PrintMore
set_option linter.unusedVariables false
set_option linter.unusedSimpArgs false
attribute [local go_sem] max2_int min2_int max_two min_two
/-- A digest as a value. -/
def dv (x : D8) : Array Value := ((outs x).map (Value.int .u8)).toArray
theorem info5 : (Tryd.prog.info? 5).map (fun i => (i.zero, i.size, i.bytes)) = some (some (.int .u8 0), 1, 1) := by kernel_rfl
theorem below_of_gr {w w1 : World} (h : w.grownBy w1 none) : Below w.heap.size w w1 := ⟨h.os, h.tape, h.output, h.size, fun k hk => h.block k hk (by simp)⟩
theorem eight_get (M j : Nat) (h : j < 8) : (eight M)[j]? = some (byteAt M (56 - 8 * j)) := by
  match j, h with
  | 0, _ | 1, _ | 2, _ | 3, _ | 4, _ | 5, _ | 6, _ | 7, _ => rfl
theorem byteAt_I (M e : Nat) : ((M : Int) / 2 ^ e % 256) = byteAt M e := by
  unfold byteAt; simp
theorem byte_le (M e : Nat) : 0 ≤ byteAt M e ∧ byteAt M e < 256 := by unfold byteAt; omega
theorem padding_bytes (n : Nat) : Bytes (padding n) := by
  intro x hx
  unfold padding at hx
  rcases List.mem_append.1 hx with hx | hx
  · rcases List.mem_cons.1 hx with rfl | hx
    · decide
    · rw [List.eq_of_mem_replicate hx]; decide
  · unfold eight at hx
    simp only [List.mem_cons, List.not_mem_nil, or_false] at hx
    rcases hx with rfl | rfl | rfl | rfl | rfl | rfl | rfl | rfl <;> exact byte_le _ _
theorem St_bytes (l : List Int) (h : Bytes l) : Bytes (St l).r := more_bytes l st0 (fun x hx => by rw [List.eq_of_mem_replicate hx]; decide) h
/-- The digest's bytes so far. -/
def zc (x : D8) (i : Nat) : Array Value := (((outs x).take i).map (Value.int .u8) ++ List.replicate (32 - i) (Value.int .u8 0)).toArray
theorem zc_zero (x : D8) (i : Nat) (h : i < 32) : (zc x i)[i]? = some (.int .u8 0) := by
  unfold zc
  have hl : (((outs x).take i).map (Value.int .u8)).length = i := by rw [List.length_map, List.length_take, outs_len]; omega
  rw [List.getElem?_toArray, List.getElem?_append_right (by omega), hl, Nat.sub_self, List.getElem?_replicate, if_pos (by omega)]
theorem zc_set (x : D8) (i : Nat) (h : i < 32) : (zc x i).setIfInBounds i (.int .u8 (outB x i)) = zc x (i + 1) := by
  unfold zc
  apply Array.ext'
  rw [Array.toList_setIfInBounds]
  simp only []
  have hl : ((outs x).take i).length = i := by rw [List.length_take, outs_len]; omega
  have hg : (outs x)[i]? = some (outB x i) := by unfold outs; simp [h]
  rw [List.set_append_right _ _ (by rw [List.length_map, hl]; exact Nat.le_refl _), List.length_map, hl, Nat.sub_self, List.take_add_one, hg, show 32 - i = (32 - (i + 1)) + 1 by omega, List.replicate_succ]
  simp
theorem zc_end (x : D8) : zc x 32 = dv x := by
  unfold zc dv; rw [List.take_of_length_le (by rw [outs_len]; exact Nat.le_refl _)]; simp
theorem dv_size (x : D8) : (dv x).size = 32 := by unfold dv; rw [List.size_toArray, List.length_map, outs_len]
theorem dv_one (x : D8) : (dv x).all (·.oneCell') = true := by
  rw [Array.all_eq_true_iff_forall_mem]
  intro v hv
  unfold dv at hv
  simp only [List.mem_toArray, List.mem_map] at hv
  obtain ⟨y, _, rfl⟩ := hv
  rfl
theorem eight_len (M : Nat) : (eight M).length = 8 := rfl
set_option maxHeartbeats 4000000 in
set_option maxRecDepth 100000 in
theorem sum_calls (l : List Int) (w : World) (hG : Glob w) (hl : Bytes l) (hn : l.length ≤ 1000000) :
    Calls Tryd.prog 16 #[.agg (sv (St l))] w fun e w' => e = .returned (.agg (dv (DW l))) ∧ Below w.heap.size w w' := by
  have hz := zero25
  obtain ⟨Z, hZ⟩ : ∃ Z, Z = Z25 := ⟨_, rfl⟩
  rw [← hZ] at hz
  obtain ⟨n, hnn⟩ : ∃ n, n = l.length := ⟨_, rfl⟩
  obtain ⟨SV, hSV⟩ : ∃ SV, SV = sv (St l) := ⟨_, rfl⟩
  rw [← hSV]
  have hsn : SV[72]? = some (.int .u64 (n : Int)) := by
    rw [hSV]; unfold sv; rw [sc_n _ _ _ rfl (St_r l), St_n, hnn]
  have HSN := Aside0.mk hsn
  have HSV := Aside0.mk hSV
  have HZ := Aside0.mk hZ
  have HG := Aside0.mk hG
  have HL := Aside0.mk hl
  have HN := Aside0.mk hn
  have HNN := Aside0.mk hnn
  clear hZ hSV hG hl hn hsn hnn
  go_enter Tryd.func16, Tryd.ntmps16
  go_upto_region 1 with (fail)
  obtain ⟨g, hg⟩ : ∃ g, g = w.heap.size := ⟨_, rfl⟩
  obtain ⟨z, hz_⟩ : ∃ z, z = w.heap.size + 1 := ⟨_, rfl⟩
  obtain ⟨W2, hW2⟩ : ∃ W1, W1 = (w.alloc (Obj.cells SV 40)).alloc (Obj.cells Z 25) := ⟨_, rfl⟩
  rw [← hW2, ← hz_, ← hg]
  have HBG := Aside0.mk (show W2.heap[g]? = some (.cells SV 40 (0, 0)) by rw [hW2, hg]; exact blk_alloc (blk_new _ _) _)
  have HBZ := Aside0.mk (show W2.heap[z]? = some (.cells Z 25 (0, 0)) by
    have e : z = (w.alloc (Obj.cells SV 40)).heap.size := by rw [hz_]; simp
    rw [hW2, e]; exact blk_new _ _)
  have HB2 := Aside0.mk (show Below w.heap.size w W2 by rw [hW2]; exact below_alloc (below_alloc (Below.refl _ _) _) _)
  have HGZ := Aside0.mk (show w.heap.size ≤ g ∧ w.heap.size ≤ z ∧ g ≠ z by omega)
  have c72 : W2.cell? ⟨g, 72, none⟩ = some (.int .u64 (n : Int)) := by rw [blk_cell HBG.out]; exact HSN.out
  clear hW2 hg hz_
  obtain ⟨at_, hat_⟩ : ∃ a, a = n % 64 := ⟨_, rfl⟩
  obtain ⟨pz, hpz_⟩ : ∃ a, a = (119 - at_) % 64 := ⟨_, rfl⟩
  obtain ⟨M, hM⟩ : ∃ a, a = n * 8 := ⟨_, rfl⟩
  have hmul : (n : Int) * 8 = (M : Int) := by omega
  have hat : (n : Int) % 64 = (at_ : Int) := by omega
  have a0 : (0 : Int) ≤ (at_ : Int) := by omega
  have a1 : (at_ : Int) < 64 := by omega
  have hpz : ((119 : Int) - (at_ : Int)) % 64 = (pz : Int) := by omega
  have p0 : (0 : Int) ≤ (pz : Int) := by omega
  have p1 : (pz : Int) < 64 := by omega
  have n0 : (0 : Int) ≤ (n : Int) := by omega
  have n1 : (n : Int) ≤ 1000000 := by have := HN.out; have := HNN.out; omega
  have HT := Aside0.mk (show (1 + (pz : Int)).toNat = pz + 1 by omega)
  have HPZ := Aside0.mk (show pz = (119 - n % 64) % 64 by rw [hpz_, hat_])
  have HM := Aside0.mk hM
  clear hat_ hpz_ hM
  go_upto_region 3 with ((with_reducible refine gate_dst (N := 17) rfl ?_); refine Kd.R_make (Kd.int .u8) (w0 := W2) W2.heap.size 5 rfl (N := 17) rfl 22 (.tmp 16) (.tmp 16) rfl (1 + (pz : Int)) rfl rfl Tryd.underlying22 (.int .u8 0) 1 info5 rfl (by decide) (by decide) 0 (ok := fun _ => True) (okp := fun _ => False) rfl (fun _ _ => trivial) trivial (by omega) (by omega) (Below.refl _ _) (Nat.le_refl _) ?_; intro v1 w3 hv1 hb3 hg3 _; rw [HT.out] at hv1; have HV3 := Aside0.mk hv1; have HB3 := Aside0.mk hb3; clear hv1 hb3 hg3)
  obtain ⟨gr, cap, rfl, hgr, _, _⟩ := Kd.R_form HV3.out (by rw [List.length_replicate]; omega)
  rw [List.length_replicate]
  have HV3b := HV3.out
  obtain ⟨r0, f0⟩ := Kd.R_cell 0 HV3b 0 (by omega) (by rw [List.length_replicate]; omega)
  simp only [Int.toNat_zero] at r0 f0
  have HV4 := Aside0.mk (Kd.R_put HV3b 0 128).1
  have HB4 := Aside0.mk (show Below W2.heap.size W2 (w3.setCell ⟨gr, (0 : Int).toNat, none⟩ (.int .u8 128)) from HB3.out.setCell (p := ⟨gr, _, none⟩) hgr _)
  have hset : (List.replicate (pz + 1) (0 : Int)).set (0 : Int).toNat 128 = 128 :: List.replicate pz 0 := rfl
  rw [hset] at HV4
  have hz0 : (0 : Int).toNat = 0 := rfl
  simp only [Int.toNat_zero] at HV4 HB4
  clear HV3 HV3b HB3 hset hz0
  go_wp2_with (fail)
  clear r0 f0
  obtain ⟨P0, hP0⟩ : ∃ P0 : List Int, P0 = 128 :: List.replicate pz 0 := ⟨_, rfl⟩
  have hpl : P0.length = pz + 1 := by rw [hP0]; simp
  go_loopg [4, 5] 8 (fun gm v4 v5 w' => ∃ j : Nat, v5 = .int .i64 (56 - 8 * (j : Int)) ∧ j + gm = 8 ∧ Aside0 (Kd.R (Kd.int .u8) 5 w' W2.heap.size (fun _ => True) v4 (P0 ++ (eight M).take j)) ∧ Aside0 (Below W2.heap.size W2 w'))
  case atStart =>
    refine ⟨0, rfl, rfl, ⟨?_⟩, HB4⟩
    rw [List.take_zero, List.append_nil, hP0]
    have h_ := HV4.out
    rw [List.length_replicate] at h_
    exact h_
  case round =>
    obtain ⟨j, rfl, hj, HV, HB⟩ := hrel
    clear HV4 HB4
    by_cases hlt : j < 8
    · obtain ⟨e, he⟩ : ∃ e : Nat, e = 56 - 8 * j := ⟨_, rfl⟩
      have hE : (56 : Int) - 8 * (j : Int) = (e : Int) := by omega
      have e0 : (0 : Int) ≤ (e : Int) := by omega
      have e1 : (e : Int) ≤ 56 := by omega
      have M0 : (0 : Int) ≤ (M : Int) := by omega
      rw [hE]
      have d1 : decide ((0 : Int) ≤ (e : Int)) = true := by simp only [decide_eq_true_eq]; omega
      have HE := Aside0.mk hE
      have HEE := Aside0.mk he
      clear hE he
      obtain ⟨A4, c4, rfl⟩ := Kd.R_slice HV.out
      have hxl : (P0 ++ (eight M).take j).length = pz + 1 + j := by rw [List.length_append, hpl, List.length_take, eight_len]; omega
      have HXL := Aside0.mk hxl
      rw [hxl]
      have HVx := Aside0.mk (show Kd.R (Kd.int .u8) 5 wr W2.heap.size (fun _ => True) (.slice A4 (pz + 1 + j) c4) (P0 ++ (eight M).take j) by rw [← hxl]; exact HV.out)
      clear hxl
      go_wp2_with ((with_reducible refine gate_builtin (b := .append) (xs := #[.tmp 24, .tmp 29]) rfl ?_); at_builtin; refine Kd.R_append (Kd.int .u8) (w0 := W2) W2.heap.size rfl (.tmp 24) (.tmp 29) 22 5 (.int .u8 0) 1 rfl Tryd.underlying22 info5 rfl (by decide) (by decide) (.slice A4 (pz + 1 + j) c4) (P0 ++ (eight M).take j) ((M : Int) / 2 ^ e % 256) [.int .u8 ((M : Int) / 2 ^ e % 256)] (fun _ => True) (fun _ => False) rfl rfl rfl (fun _ h => h.elim) (fun _ _ => trivial) HVx.out HB.out HB.out.size (by rw [HXL.out]; omega) ?_; intro v5 w5 hv5 hb5 _ _; have HV5 := Aside0.mk hv5; have HB5 := Aside0.mk hb5; clear hv5 hb5)
      go_roundg (gk - 1)
      case measure => omega
      case rel =>
        refine ⟨j + 1, congrArg (Value.int .i64) (by have := HE.out; omega), by omega, ⟨?_⟩, HB5⟩
        have h_ := HV5.out
        rw [byteAt_I, List.append_assoc] at h_
        rw [List.take_add_one, eight_get M j hlt, ← HEE.out]
        exact h_
    · obtain rfl : j = 8 := by omega
      have d1 : decide ((0 : Int) ≤ (56 : Int) - 8 * ((8 : Nat) : Int)) = false := by decide
      have hfull : Aside0 (P0 ++ (eight M).take 8 = padding n) := ⟨by rw [hP0, List.take_of_length_le (by rw [eight_len]; exact Nat.le_refl _)]; unfold padding; rw [HPZ.out, HM.out]⟩
      rw [hfull.out] at HV
      have HPP := hfull
      clear hfull
      obtain ⟨A4, c4, rfl, hc4, hC4⟩ := Kd.R_reads HV.out
      have HC4 := Aside0.mk hC4
      have HL4 := Aside0.mk hc4
      have HBGr := Aside0.mk (blk_below HBG.out HB.out)
      have HBZr := Aside0.mk (blk_below HBZ.out HB.out)
      have HBr := Aside0.mk (below_step HB2.out HB.out)
      have HS73 := Aside0.mk (show SV.size = 73 by rw [HSV.out]; exact sv_size _ (St_r l))
      clear hC4 hc4 c72
      have hcon := more_calls (St l) A4 c4 (padding n) wr (HG.out.below HBr.out) HC4.out HL4.out (padding_bytes n) (St_r l) (St_bytes l HL.out) (by rw [St_n, padding_len]; have := HN.out; omega)
      rw [← HSV.out, HNN.out, ← St_append, ← HNN.out] at hcon
      have HCON := Aside0.mk hcon
      clear hcon
      go_wp2_with ((with_reducible refine gate_dst (N := 31) rfl ?_); refine wpList_load_row ?hgd_31 40 (.tmp 1) ?ho_31 g ?hx_31 40 SV (0, 0) ?d_31 ?hg_31 ?hu_31 ?hd_31 ?hi_31 ?_; (case hgd_31 => rfl); (case ho_31 => rfl); (case hx_31 => rfl); (case hg_31 => exact HBGr.out); (case hu_31 => exact Tryd.underlying40); (case hd_31 => rfl); (case hi_31 => rw [HS73.out]; exact size40))
      refine HCON.out.mono ?_
      rintro e w6 ⟨rfl, hb6⟩
      have HBG6 := Aside0.mk (blk_below HBGr.out hb6)
      have HBZ6 := Aside0.mk (blk_below HBZr.out hb6)
      have HB6 := Aside0.mk (below_step HBr.out hb6)
      obtain ⟨T, hT⟩ : ∃ T, T = St (l ++ padding n) := ⟨_, rfl⟩
      rw [← hT]
      have HTR := Aside0.mk (show T.r.length = 64 by rw [hT]; exact St_r _)
      have HTD := Aside0.mk (show T.d = DW l by rw [hT, HNN.out]; rfl)
      clear hb6 HCON HBGr HBZr HBr hT
      go_wp2_with ((with_reducible refine gate_store (p := 1) rfl ?_); refine st_row ?hgd_1 40 (.tmp 1) (.tmp 33) ?ho_1 g (sv T) ?hx_1 ?hy_1 40 SV ?hg_1 ?hi_1 ?hold_1 (sv_one _) ?_; (case hgd_1 => rfl); (case ho_1 => rfl); (case hx_1 => rfl); (case hy_1 => rfl); (case hg_1 => exact HBG6.out); (case hi_1 => rw [sv_size T HTR.out]; exact size40); (case hold_1 => rw [HS73.out, sv_size T HTR.out]); intro w8 hb8 hg8)
      have HBZ8 := Aside0.mk (gr_blk hg8.out HBZ6.out HGZ.out.2.2.symm)
      have HB8 := Aside0.mk (HB6.out.trans (gr_below hg8.out HGZ.out.1 HB6.out.size))
      clear HBZ6 HBG6 HB6
      go_loopg [34] 32 (fun gm v34 w' => ∃ i : Nat, v34 = .int .i64 i ∧ i + gm = 32 ∧ Aside0 (w'.heap[g]? = some (.cells (sv T) 40 (0, 0))) ∧ Aside0 (w'.heap[z]? = some (.cells (zc (DW l) i) 25 (0, 0))) ∧ Aside0 (Below w.heap.size w w'))
      case atStart => exact ⟨0, rfl, rfl, hb8, ⟨by rw [show zc (DW l) 0 = Z from by rw [HZ.out]; rfl]; exact HBZ8.out⟩, HB8⟩
      case round =>
        obtain ⟨i, rfl, hi, hbg, hbz, hbw⟩ := hrel
        clear hb8 HBZ8 HB8
        by_cases hlt : i < 32
        · have d2 : decide ((i : Int) < 32) = true := by simp only [decide_eq_true_eq]; omega
          obtain ⟨q4, hq4⟩ : ∃ q, q = i / 4 := ⟨_, rfl⟩
          obtain ⟨r4, hr4⟩ : ∃ q, q = i % 4 := ⟨_, rfl⟩
          obtain ⟨e, he⟩ : ∃ e, e = 24 - r4 * 8 := ⟨_, rfl⟩
          have i0 : (0 : Int) ≤ (i : Int) := by omega
          have i1 : (i : Int) < 32 := by omega
          have hQ : (i : Int) / 4 = (q4 : Int) := by omega
          have hR : (i : Int) % 4 = (r4 : Int) := by omega
          have q0 : (0 : Int) ≤ (q4 : Int) := by omega
          have q1 : (q4 : Int) < 8 := by omega
          have r0 : (0 : Int) ≤ (r4 : Int) := by omega
          have r1 : (r4 : Int) < 4 := by omega
          have hE : (24 : Int) - (r4 : Int) * 8 = (e : Int) := by omega
          have e0 : (0 : Int) ≤ (e : Int) := by omega
          have e1 : (e : Int) < 32 := by omega
          obtain ⟨x, hx⟩ : ∃ x, x = T.d.ws.getD q4 0 := ⟨_, rfl⟩
          have xb := B_range x
          have x0 := xb.1
          have c1 : wr.cell? ⟨g, q4, none⟩ = some (.int .u32 (B x)) := by
            rw [blk_cell hbg.out, hx]; exact sc_d _ _ _ _ (by show q4 < 8; omega)
          have f2 := blk_frozen hbz.out i
          have c2 : wr.cell? ⟨z, i, none⟩ = some (.int .u8 0) := by rw [blk_cell hbz.out]; exact zc_zero _ _ hlt
          have HO := Aside0.mk (show ((x >>> e).toNat % 256 : Nat) = (outB (DW l) i) by rw [hx, HTD.out, he, hq4, hr4]; rfl)
          clear hq4 hr4 he hx xb
          go_wp2_with (fail)
          go_roundg (gk - 1)
          case measure => omega
          case rel =>
            refine ⟨i + 1, by go_num, by omega, ⟨blk_far hbg.out (p := ⟨z, i, none⟩) HGZ.out.2.2 _⟩, ⟨?_⟩, ⟨hbw.out.setCell (p := ⟨z, i, none⟩) HGZ.out.2.1 _⟩⟩
            have hv : B x / 2 ^ e % 256 = outB (DW l) i := by
              rw [shrB, ← HO.out]; unfold B; simp
            rw [hv]
            exact blk_put hbz.out i _ (zc_set _ i hlt)
        · obtain rfl : i = 32 := by omega
          have d2 : decide (((32 : Nat) : Int) < 32) = false := by decide
          rw [zc_end] at hbz
          have HDS := Aside0.mk (show (dv (DW l)).size = 32 by unfold dv; rw [List.size_toArray, List.length_map, outs_len])
          have HDO := Aside0.mk (show (dv (DW l)).all (·.oneCell') = true by
            rw [Array.all_eq_true_iff_forall_mem]
            intro x hx
            unfold dv at hx
            simp only [List.mem_toArray, List.mem_map] at hx
            obtain ⟨y, _, rfl⟩ := hx
            rfl)
          generalize hDD : dv (DW l) = DD at *
          go_wp2_with (first | ((with_reducible refine gate_dst (N := 51) rfl ?_); refine wpList_load_row ?hgd_51 25 (.tmp 2) ?ho_51 z ?hx_51 25 DD (0, 0) ?d_51 ?hg_51 ?hu_51 ?hd_51 ?hi_51 ?_; (case hgd_51 => rfl); (case ho_51 => rfl); (case hx_51 => rfl); (case hg_51 => exact hbz.out); (case hu_51 => exact Tryd.underlying25); (case hd_51 => rfl); (case hi_51 => rw [HDS.out]; exact size25)) | ((with_reducible refine gate_store (p := 2) rfl ?_); refine st_row ?hgd_2 25 (.tmp 2) (.tmp 51) ?ho_2 z DD ?hx_2 ?hy_2 25 DD ?hg_2 ?hi_2 ?hold_2 HDO.out ?_; (case hgd_2 => rfl); (case ho_2 => rfl); (case hx_2 => rfl); (case hy_2 => rfl); (case hg_2 => exact hbz.out); (case hi_2 => rw [HDS.out]; exact size25); (case hold_2 => rfl); intro w9 hb9 hg9))
          refine bodyPost_ret (results_cell_row (fn := Tryd.f16) rfl _ _ z 25 _ (0, 0) _ rfl hb9.out Tryd.underlying25 rfl (by rw [HDS.out]; exact size25)) rfl ?_
          exact ⟨by rw [hDD], hbw.out.trans (gr_below hg9.out HGZ.out.2.1 hbw.out.size)⟩
set_option maxHeartbeats 4000000 in
set_option maxRecDepth 100000 in
theorem digest_calls (A : Option Addr) (c : Nat) (b : List Int) (w : World) (hG : Glob w) (hC : Kd.C (Kd.int .u8) w A b.length b) (hc : b.length ≤ c) (hb : Bytes b) (hn : b.length ≤ 1000000) :
    Calls Tryd.prog 11 #[.slice A b.length c] w fun e w' => e = .returned (.agg (dv (DW b))) ∧ Below w.heap.size w w' := by
  have hz := zero25
  obtain ⟨Z, hZ⟩ : ∃ Z, Z = Z25 := ⟨_, rfl⟩
  rw [← hZ] at hz
  have HZ := Aside0.mk hZ
  have HG := Aside0.mk hG
  have HC := Aside0.mk hC
  have HL := Aside0.mk hc
  have HB := Aside0.mk hb
  have HN := Aside0.mk hn
  clear hZ hG hC hc hb hn
  go_enter Tryd.func11, Tryd.ntmps11
  go_wp2_with (fail)
  have HBZ := Aside0.mk (blk_new w (.cells Z 25))
  have HB0 := Aside0.mk (below_alloc (Below.refl w.heap.size w) (.cells Z 25))
  refine (start_calls _).mono ?_
  rintro e w1 ⟨rfl, hb1⟩
  have HBZ1 := Aside0.mk (blk_below HBZ.out hb1)
  have HB1 := Aside0.mk (below_step HB0.out hb1)
  clear hb1 HBZ HB0
  go_wp2_with (fail)
  refine (more_calls st0 A c b w1 (HG.out.below HB1.out) (Kd.C_below HC.out HB1.out) HL.out HB.out rfl (fun x hx => by rw [List.eq_of_mem_replicate hx]; decide) (by show 0 + _ < _; have := HN.out; omega)).mono ?_
  rintro e w2 ⟨rfl, hb2⟩
  have HBZ2 := Aside0.mk (blk_below HBZ1.out hb2)
  have HB2 := Aside0.mk (below_step HB1.out hb2)
  clear hb2 HBZ1 HB1
  go_wp2_with (fail)
  refine (sum_calls b w2 (HG.out.below HB2.out) HB.out HN.out).mono ?_
  rintro e w3 ⟨rfl, hb3⟩
  have HBZ3 := Aside0.mk (blk_below HBZ2.out hb3)
  have HB3 := Aside0.mk (below_step HB2.out hb3)
  clear hb3 HBZ2 HB2
  obtain ⟨z, hz2⟩ : ∃ z, z = w.heap.size := ⟨_, rfl⟩
  rw [← hz2]
  rw [← hz2] at HBZ3
  have HZL := Aside0.mk (show w.heap.size ≤ z by omega)
  clear hz2
  go_wp2_with ((with_reducible refine gate_store (p := 2) rfl ?_); refine st_row ?hgd_2 25 (.tmp 2) (.tmp 6) ?ho_2 z (dv (DW b)) ?hx_2 ?hy_2 25 Z ?hg_2 ?hi_2 ?hold_2 (dv_one _) ?_; (case hgd_2 => rfl); (case ho_2 => rfl); (case hx_2 => rfl); (case hy_2 => rfl); (case hg_2 => exact HBZ3.out); (case hi_2 => rw [dv_size]; exact size25); (case hold_2 => rw [HZ.out, dv_size]; rfl); intro w9 hb9 hg9)
  refine bodyPost_ret (results_cell_row (fn := Tryd.f11) rfl _ _ z 25 _ (0, 0) _ rfl hb9.out Tryd.underlying25 rfl (by rw [dv_size]; exact size25)) rfl ?_
  exact ⟨rfl, HB3.out.trans (gr_below hg9.out HZL.out HB3.out.size)⟩
end Go.Proofs.YtanafhccflmdkaaDoor.Ext
