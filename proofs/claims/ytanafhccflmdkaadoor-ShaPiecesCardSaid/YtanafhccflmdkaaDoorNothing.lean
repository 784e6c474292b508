/- ShaNothing, by hand. -/
import Derived.Test.YtanafhccflmdkaaDoorForks
import Derived.Deep.RegionHeld3
namespace Go.Proofs.YtanafhccflmdkaaDoor.Ext
open Go.RowKit Go.Proofs.YtanafhccflmdkaaDoorW.PrintWords Go.Proofs.YtanafhccflmdkaaDoorW.PrintLast Go.Proofs.YtanafhccflmdkaaDoorW.PrintMore
set_option linter.unusedVariables false
set_option linter.unusedSimpArgs false
attribute [local go_sem] min2_mn max_two min_two
theorem and7 (a : Int) : ∃ x : Nat, x ≤ 7 ∧ Go.bits .and .i64 a 7 = (x : Int) := by
  simp only [bits]
  have h : ((BitVec.ofInt IntKind.i64.bits a &&& BitVec.ofInt IntKind.i64.bits 7).toNat) ≤ 7 := by
    rw [BitVec.toNat_and]
    exact Nat.le_trans Nat.and_le_right (by decide +kernel)
  generalize (BitVec.ofInt IntKind.i64.bits a &&& BitVec.ofInt IntKind.i64.bits 7).toNat = n at *
  refine ⟨n, h, ?_⟩
  rw [IntKind.wrap_i64]; omega
theorem ld40 {W : World} {g : Nat} {X : Sta} (h : W.heap[g]? = some (.cells (sv X) 40 (0, 0))) (hr : X.r.length = 64) : (loadVar 40 ⟨g, 0, none⟩).run Tryd.prog W = .ok (.agg (sv X)) W := by
  exact run_loadVar_row W g 40 40 (sv X) (0, 0) _ h Tryd.underlying40 rfl (by rw [sv_size _ hr]; exact size40)
theorem moreN (b : List Int) (w : World) (hG : Glob w) (hb : Bytes b) (hn : b.length ≤ 1000) :
    Calls Tryd.prog 17 #[.agg (sv (St b)), .slice none 0 0] w fun e w' => e = .returned (.agg (sv (St b))) ∧ Below w.heap.size w w' := by
  have h_ := moreS b none 0 [] w hG (Kd.C_nil _ _) (by decide) hb (by intro x hx; simp at hx) (by simp only [List.length_nil]; omega)
  rw [List.append_nil] at h_
  exact h_
attribute [-go_sem] loadVar
set_option maxHeartbeats 4000000 in
set_option maxRecDepth 100000 in
theorem nothing_calls (A0 : Option Addr) (c0 : Nat) (l0 : List Int) (n : Int) (w : World) (hG : Glob w)
    (hC0 : Kd.C (Kd.int .u8) w A0 l0.length l0) (hc0 : l0.length ≤ c0) (hb0 : Bytes l0) :
    Calls Tryd.prog 8 #[.slice A0 l0.length c0, .int .i64 n] w fun e w' => e = .returned (.bool true) ∧ Below w.heap.size w w' := by
  obtain ⟨m0, hm0, hmn0, hcut0⟩ := cut_at A0 l0.length c0 300 300 rfl hc0
  obtain ⟨L0, hL0⟩ : ∃ L, L = l0.take m0 := ⟨_, rfl⟩
  have hLl0 : L0.length = m0 := by rw [hL0, List.length_take]; omega
  have HC0 := Aside0.mk (show Kd.C (Kd.int .u8) w A0 L0.length L0 by rw [hL0]; exact Kd.C_take hC0 (by omega))
  have HB0 := Aside0.mk (show Bytes L0 by rw [hL0]; exact fun x hx => hb0 x (List.mem_of_mem_take hx))
  have HLE0 := Aside0.mk (show L0.length ≤ c0 ∧ L0.length ≤ 300 by omega)
  rw [← hLl0] at hmn0 hcut0
  clear hL0 hLl0 hC0 hb0 hc0 hm0
  have HG := Aside0.mk hG
  clear hG
  obtain ⟨N, hN7, hand⟩ := and7 n
  have hz := zero40
  obtain ⟨Z, hZ⟩ : ∃ Z, Z = Z40 := ⟨_, rfl⟩
  rw [← hZ] at hz
  have HZ := Aside0.mk (show Z.size = 73 by rw [hZ]; rfl)
  clear hZ
  have heq : ∀ (x : D8) (W : World), (Op.equalIn 10000 25 (.agg (dv x)) (.agg (dv x))).run Tryd.prog W = .ok true W := fun x W => eq_dv 9998 x W
  go_enter Tryd.func8, Tryd.ntmps8
  go_wp2_with (fail)
  refine (shown_calls w HG.out).mono ?_
  rintro e wz ⟨rfl, hb⟩
  have HBw1 := Aside0.mk (hb)
  clear hb
  go_wp2_with (fail)
  refine (start_calls _).mono ?_
  rintro e wz ⟨rfl, hb⟩
  have HBw2 := Aside0.mk (below_step HBw1.out hb)
  clear hb HBw1
  go_wp2_with (fail)
  refine (moreS0 A0 c0 L0 _ (HG.out.below HBw2.out) (Kd.C_below HC0.out HBw2.out) HLE0.out.1 HB0.out (by have h_ := HLE0.out; omega)).mono ?_
  rintro e wz ⟨rfl, hb⟩
  have HBw3 := Aside0.mk (below_step HBw2.out hb)
  clear hb HBw2
  go_upto_region 4 with (first
    | ((with_reducible refine gate_store (p := 6) rfl ?_); refine st_row ?hgd_s6_17 40 (.tmp 6) (.tmp 17) ?ho_s6_17 wz.heap.size (sv (St L0)) ?hx_s6_17 ?hy_s6_17 40 (Z) ?hg_s6_17 ?hi_s6_17 ?hold_s6_17 (sv_one _) ?_; (case hgd_s6_17 => rfl); (case ho_s6_17 => rfl); (case hx_s6_17 => rfl); (case hy_s6_17 => rfl); (case hg_s6_17 => exact blk_new _ _); (case hi_s6_17 => rw [sv_size _ (St_r _)]; exact size40); (case hold_s6_17 => rw [HZ.out, sv_size _ (St_r _)]); intro w6 hb6 hg6)
    | fail)
  have HS6 := hb6
  have HBw4 := Aside0.mk ((below_alloc HBw3.out _).trans (gr_below hg6.out HBw3.out.size (below_alloc HBw3.out (.cells Z 40)).size))
  obtain ⟨ga, hga⟩ : ∃ g, g = wz.heap.size := ⟨_, rfl⟩
  rw [← hga] at HS6 ⊢
  clear hga hb6 hg6 HBw3
  obtain ⟨wz, hwz⟩ : ∃ W_ : World, W_ = w6 := ⟨_, rfl⟩
  subst hwz
  have HL6 := Aside0.mk (blk_lt HS6.out)
  go_upto_region 5 with (first
    | ((with_reducible refine gate_dst (N := 18) rfl ?_); refine wpList_load_row ?hgd_18 40 (.tmp 6) ?ho_18 ga ?hx_18 40 (sv (St L0)) (0, 0) ?d_18 ?hg_18 ?hu_18 ?hd_18 ?hi_18 ?_; (case hgd_18 => rfl); (case ho_18 => rfl); (case hx_18 => rfl); (case hg_18 => exact HS6.out); (case hu_18 => exact Tryd.underlying40); (case hd_18 => rfl); (case hi_18 => rw [sv_size _ (St_r _)]; exact size40))
    | ((with_reducible refine gate_store (p := 7) rfl ?_); refine st_row ?hgd_s7_18 40 (.tmp 7) (.tmp 18) ?ho_s7_18 wz.heap.size (sv (St L0)) ?hx_s7_18 ?hy_s7_18 40 (Z) ?hg_s7_18 ?hi_s7_18 ?hold_s7_18 (sv_one _) ?_; (case hgd_s7_18 => rfl); (case ho_s7_18 => rfl); (case hx_s7_18 => rfl); (case hy_s7_18 => rfl); (case hg_s7_18 => exact blk_new _ _); (case hi_s7_18 => rw [sv_size _ (St_r _)]; exact size40); (case hold_s7_18 => rw [HZ.out, sv_size _ (St_r _)]); intro w7 hb7 hg7)
    | fail)
  have HS7 := hb7
  have HBw5 := Aside0.mk ((below_alloc HBw4.out _).trans (gr_below hg7.out HBw4.out.size (below_alloc HBw4.out (.cells Z 40)).size))
  have HS6' := Aside0.mk (gr_blk hg7.out (blk_alloc HS6.out _) (by have h_ := blk_lt HS6.out; omega))
  clear HS6
  have HS6 := HS6'
  clear HS6'
  obtain ⟨gb, hgb⟩ : ∃ g, g = wz.heap.size := ⟨_, rfl⟩
  rw [← hgb] at HS7 ⊢
  have HNE := Aside0.mk (show ga ≠ gb by have h_ := HL6.out; omega)
  clear HL6
  have HLB := Aside0.mk (show w.heap.size ≤ gb by have h_ := HBw4.out.size; omega)
  clear hgb hb7 hg7 HBw4
  obtain ⟨wz, hwz⟩ : ∃ W_ : World, W_ = w7 := ⟨_, rfl⟩
  subst hwz
  go_wp2_with (fail)
  go_loopg [8] N (fun gm v8 w' => ∃ j : Nat, v8 = .int .i64 j ∧ Aside0 (j + gm = N) ∧ Aside0 (w'.heap[ga]? = some (.cells (sv (St L0)) 40 (0, 0))) ∧ Aside0 (w'.heap[gb]? = some (.cells (sv (St L0)) 40 (0, 0))) ∧ Aside0 (Below w.heap.size w w'))
  case atStart => exact ⟨0, rfl, ⟨by omega⟩, HS6, HS7, HBw5⟩
  case round =>
    obtain ⟨j, rfl, HJ, HR6, HR7, HB⟩ := hrel
    clear HS6 HS7 HBw5
    by_cases hlt : (j : Int) < (N : Int)
    · have hj7 : (j : Int) ≤ 7 := by omega
      go_wp2_with (first
        | ((with_reducible refine gate_dst (N := 25) rfl ?_); refine wpList_load_row ?hgd_25 40 (.tmp 7) ?ho_25 gb ?hx_25 40 (sv (St L0)) (0, 0) ?d_25 ?hg_25 ?hu_25 ?hd_25 ?hi_25 ?_; (case hgd_25 => rfl); (case ho_25 => rfl); (case hx_25 => rfl); (case hg_25 => exact HR7.out); (case hu_25 => exact Tryd.underlying40); (case hd_25 => rfl); (case hi_25 => rw [sv_size _ (St_r _)]; exact size40))
        | fail)
      refine (moreN L0 _ (HG.out.below HB.out) HB0.out (by have h_ := HLE0.out; omega)).mono ?_
      rintro e wz ⟨rfl, hb⟩
      have HBw1 := Aside0.mk (below_step HB.out hb)
      have HR6' := Aside0.mk (blk_below HR6.out hb)
      clear HR6
      have HR6 := HR6'
      clear HR6'
      have HR7' := Aside0.mk (blk_below HR7.out hb)
      clear HR7
      have HR7 := HR7'
      clear HR7'
      clear hb HB
      go_upto_region 9 with (first
        | ((with_reducible refine gate_store (p := 7) rfl ?_); refine st_row ?hgd_s7_26 40 (.tmp 7) (.tmp 26) ?ho_s7_26 gb (sv (St L0)) ?hx_s7_26 ?hy_s7_26 40 (sv (St L0)) ?hg_s7_26 ?hi_s7_26 ?hold_s7_26 (sv_one _) ?_; (case hgd_s7_26 => rfl); (case ho_s7_26 => rfl); (case hx_s7_26 => rfl); (case hy_s7_26 => rfl); (case hg_s7_26 => exact HR7.out); (case hi_s7_26 => rw [sv_size _ (St_r _)]; exact size40); (case hold_s7_26 => rfl); intro w7 hb7 hg7)
        | fail)
      have HB2 := Aside0.mk (HBw1.out.trans (gr_below hg7.out HLB.out HBw1.out.size))
      have HR6' := Aside0.mk (gr_blk hg7.out HR6.out HNE.out)
      clear HR6 HR7
      clear HBw1 hg7
      obtain ⟨wz, hwz⟩ : ∃ W_ : World, W_ = w7 := ⟨_, rfl⟩
      subst hwz
      go_wp2_with (first
        | ((with_reducible refine gate_dst (N := 27) rfl ?_); refine wpList_load_row ?hgd_27 40 (.tmp 7) ?ho_27 gb ?hx_27 40 (sv (St L0)) (0, 0) ?d_27 ?hg_27 ?hu_27 ?hd_27 ?hi_27 ?_; (case hgd_27 => rfl); (case ho_27 => rfl); (case hx_27 => rfl); (case hg_27 => exact hb7.out); (case hu_27 => exact Tryd.underlying40); (case hd_27 => rfl); (case hi_27 => rw [sv_size _ (St_r _)]; exact size40))
        | fail)
      refine (sum_calls L0 _ (HG.out.below HB2.out) HB0.out (by have h_ := HLE0.out; omega)).mono ?_
      rintro e wz ⟨rfl, hb⟩
      have HB3 := Aside0.mk (below_step HB2.out hb)
      have HR6 := Aside0.mk (blk_below HR6'.out hb)
      have HR7 := Aside0.mk (blk_below hb7.out hb)
      clear hb HB2 HR6' hb7
      go_wp2_with (fail)
      go_roundg (gk - 1)
      case measure => have h_ := HJ.out; omega
      case rel => exact ⟨j + 1, by go_num, ⟨by have h_ := HJ.out; omega⟩, HR6, HR7, HB3⟩
    · go_upto_region 10 with (fail)
      have HG8 := Aside0.mk (HG.out.below HB.out)
      have hl6 : ∀ W : World, Below wr.heap.size wr W → (loadVar 40 ⟨ga, 0, none⟩).run Tryd.prog W = .ok (.agg (sv (St L0))) W := fun W hB => ld40 (blk_below HR6.out hB) (St_r _)
      have hl7 : ∀ W : World, Below wr.heap.size wr W → (loadVar 40 ⟨gb, 0, none⟩).run Tryd.prog W = .ok (.agg (sv (St L0))) W := fun W hB => ld40 (blk_below HR7.out hB) (St_r _)
      have hsum : ∀ W : World, Below wr.heap.size wr W → Calls Tryd.prog 16 #[.agg (sv (St L0))] W fun e w' => e = .returned (.agg (dv (DW L0))) ∧ Below wr.heap.size wr w' := fun W hB => (sum_calls L0 W (HG8.out.below hB) HB0.out (by have h_ := HLE0.out; omega)).mono fun e w' h => ⟨h.1, below_step hB h.2⟩
      have hdig : ∀ W : World, Below wr.heap.size wr W → Calls Tryd.prog 11 #[.slice A0 L0.length c0] W fun e w' => e = .returned (.agg (dv (DW L0))) ∧ Below wr.heap.size wr w' := fun W hB => (digest_calls A0 c0 L0 W (HG8.out.below hB) (Kd.C_below HC0.out (HB.out.trans (hB.mono HB.out.size))) HLE0.out.1 HB0.out (by have h_ := HLE0.out; omega)).mono fun e w' h => ⟨h.1, below_step hB h.2⟩
      have HS := Aside0.mk (And.intro hsum hdig)
      clear hsum hdig
      go_region_held3 (fun W => Below wr.heap.size wr W) (first | assumption | exact pw_below_drewN (Below.refl _ _) 1) (first
        | (go_at_call 16; refine (HS.out.1 _ (by assumption)).mono ?_; rintro e w' ⟨rfl, hb⟩)
        | (go_at_call 11; refine (HS.out.2 _ (by assumption)).mono ?_; rintro e w' ⟨rfl, hb⟩))
      go_wp2_with (fail)
      go_ret
      exact ⟨rfl, below_step HB.out (by assumption)⟩
end Go.Proofs.YtanafhccflmdkaaDoor.Ext
