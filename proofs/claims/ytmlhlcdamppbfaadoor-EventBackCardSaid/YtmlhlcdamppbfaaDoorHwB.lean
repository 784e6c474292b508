/- The law EventBack: its walk, by hand. -/
import Derived.Test.YtmlhlcdamppbfaaDoorEvW
namespace Go.Proofs.YtmlhlcdamppbfaaDoor.Xa
open Go.RowKit Go.Proofs.YtmlhlcdamppbfaaDoor.Ext Go.Proofs.YtmlhlcdamppbfaaDoor.Pure Go.Proofs.YtmlhlcdamppbfaaDoorW.PrintWords Go.Proofs.YtmlhlcdamppbfaaDoorW.PrintLast Go.Proofs.YtmlhlcdamppbfaaDoorW.PrintMore
attribute [local go_sem] max2_int min2_int max_two min_two max_three min_three max_four min_four
set_option linter.unusedVariables false
set_option linter.unusedSimpArgs false
attribute [local go_sem high] eqA24
set_option maxHeartbeats 2000000 in
set_option maxRecDepth 100000 in
theorem back_walk00 (a0 a1 a2 : Int) (a3 a4 a5 a6 : ByteArray) (a7 a8 a9 : Int) (x3 x4 x5 x6 : ByteArray) (X : List Int) (A1 : Option Addr) (c1 M : Nat) (l b : List Int) (pos er : Int)
    (hc0 : ∀ w, Calls Tryd.prog 12 #[.agg (ten a0 a1 a2 a3 a4 a5 a6 a7 a8 a9)] w fun e w' => e = .returned (.agg (ten a0 a1 a2 x3 x4 x5 x6 a7 a8 a9)) ∧ Below w.heap.size w w')
    (hX : event_Encode.f a0 a1 a2 x3 x4 x5 x6 a7 a8 a9 = some (X, 1)) (hmin : (if 6000 < (l.length : Int) then 6000 else (l.length : Int)) = (M : Int)) (hM : M ≤ l.length) (hcl : l.length ≤ c1) (hbl : b.length = M)
    (w : World) (hCB : Kd.C (Kd.int .u8) w A1 M b) (hG : Glob w)
    (hD2 : event_Decode.f b = some (0, 0, 0, E0, E0, E0, E0, 0, 0, 0, pos, er)) (he : ¬ er = 0 ∧ 0 ≤ pos ∧ pos ≤ (M : Int)) :
    Calls Tryd.prog 5 #[.agg (ten a0 a1 a2 a3 a4 a5 a6 a7 a8 a9), .slice A1 l.length c1] w fun e w' => e = .returned (.bool true) ∧ Below w.heap.size w w' := by
  have HG := Aside0.mk hG
  have HC0 := Aside0.mk hc0
  have HX := Aside0.mk hX
  have HCB := Aside0.mk hCB
  have hM1 : M ≤ c1 := Nat.le_trans hM hcl
  have HB := Aside0.mk (show b.length = M ∧ M ≤ c1 from ⟨hbl, hM1⟩)
  have HD2 := Aside0.mk hD2
  have HE := Aside0.mk he
  clear hD2 he
  clear hG hc0 hX hCB hbl
  go_enter Tryd.func5, Tryd.ntmps5
  go_upto_region 1 with (fail)
  obtain ⟨g, hg⟩ : ∃ g, g = w.heap.size := ⟨_, rfl⟩
  obtain ⟨W1, hW1⟩ : ∃ W, W = w.alloc (.cells (ten a0 a1 a2 a3 a4 a5 a6 a7 a8 a9) 24) := ⟨_, rfl⟩
  rw [← hW1, ← hg]
  have A := Aside0.mk (show Box w W1 g (ten a0 a1 a2 a3 a4 a5 a6 a7 a8 a9) by rw [hW1, hg]; exact Box.new (Nat.le_refl _) _)
  have D := Aside0.mk (show Below w.heap.size w W1 by rw [hW1]; exact below_alloc (Below.refl _ _) _)
  clear hW1 hg
  go_upto_if 30 with (first | ((with_reducible refine gate_dst (N := 16) rfl ?_); (with_reducible refine gate_callee (f := 11) rfl ?_); refine goesL_ (some 16) rfl rfl Tryd.func11 (by kernel_rfl) rfl #[] rfl (by (try simp only [List.map_toArray, List.map_cons, List.map_nil]); first | done | rfl) ?_; refine (transeptlaw05_shown.calls true _ (HG.out.below D.out) rfl).mono ?_; rintro e wz_ ⟨rfl, hb⟩; refine ⟨_, rfl, ?_⟩; have n0_ := Aside0.mk (below_step D.out hb); have n1_ := Aside0.mk (A.out.then_ hb); clear D; clear A; have D := n0_; have A := n1_; clear n0_ n1_; clear hb) | ((with_reducible refine gate_dst (N := 17) rfl ?_); refine wpList_load_row ?hgd_17 24 (.tmp 2) ?ho_17 g ?hx_17 ?t_17 ?cs_17 ?fr_17 ?d_17 ?hg_17 ?hu_17 ?hd_17 ?hi_17 ?_; (case hgd_17 => rfl); (case ho_17 => rfl); (case hx_17 => rfl); (case hg_17 => exact A.out.blk); (case hu_17 => exact Tryd.underlying24); (case hd_17 => rfl); (case hi_17 => exact size24)) | ((with_reducible refine gate_dst (N := 25) rfl ?_); refine wpList_load_row ?hgd_25 24 (.tmp 2) ?ho_25 g ?hx_25 ?t_25 ?cs_25 ?fr_25 ?d_25 ?hg_25 ?hu_25 ?hd_25 ?hi_25 ?_; (case hgd_25 => rfl); (case ho_25 => rfl); (case hx_25 => rfl); (case hg_25 => exact A.out.blk); (case hu_25 => exact Tryd.underlying24); (case hd_25 => rfl); (case hi_25 => exact size24)) | ((with_reducible refine gate_dst (N := 18) rfl ?_); (with_reducible refine gate_callee (f := 12) rfl ?_); refine goesL_ (some 18) rfl rfl Tryd.func12 (by kernel_rfl) rfl #[.agg (ten a0 a1 a2 a3 a4 a5 a6 a7 a8 a9)] rfl (by (try simp only [List.map_toArray, List.map_cons, List.map_nil]); first | done | rfl) ?_; refine (HC0.out _).mono ?_; rintro e wz_ ⟨rfl, hb⟩; refine ⟨_, rfl, ?_⟩; have n0_ := Aside0.mk (below_step D.out hb); have n1_ := Aside0.mk (A.out.then_ hb); clear D; clear A; have D := n0_; have A := n1_; clear n0_ n1_; clear hb) | ((with_reducible refine gate_store (p := 2) rfl ?_); refine wpList_store_row ?hgd_s18 24 (.tmp 2) (.tmp 18) ?ho_s18 g (ten a0 a1 a2 x3 x4 x5 x6 a7 a8 a9) ?hx_s18 ?hy_s18 ?t_s18 ?old_s18 ?hg_s18 ?hi_s18 ?hold_s18 ?h1_s18 ?_; (case hgd_s18 => rfl); (case ho_s18 => rfl); (case hx_s18 => rfl); (case hy_s18 => rfl); (case hg_s18 => exact A.out.blk); (case hi_s18 => exact size24); (case hold_s18 => rfl); (case h1_s18 => exact ten_one _ _ _ _ _ _ _ _ _ _); have n0_ := Aside0.mk (setRow_below D.out A.out.base (ten a0 a1 a2 x3 x4 x5 x6 a7 a8 a9)); have n1_ := Aside0.mk (Box.row A.out (ten a0 a1 a2 x3 x4 x5 x6 a7 a8 a9)); clear D; clear A; have D := n0_; have A := n1_; clear n0_ n1_) | ((with_reducible refine gate_dst (N := 26) rfl ?_); (with_reducible refine gate_callee (f := 13) rfl ?_); refine goesL_ (some 26) rfl rfl Tryd.func13 (by kernel_rfl) rfl #[.agg (ten a0 a1 a2 x3 x4 x5 x6 a7 a8 a9)] rfl (by (try simp only [List.map_toArray, List.map_cons, List.map_nil]); first | done | rfl) ?_; refine (event_Encode.calls a0 a1 a2 x3 x4 x5 x6 a7 a8 a9 X _ _ (HG.out.below D.out) HX.out).mono ?_; rintro e wz_ ⟨v0, rfl, hR, hb⟩; obtain ⟨q0, k0, rfl, hk0_, hC⟩ := Kd.R_reads hR; refine ⟨_, rfl, ?_⟩; have K0 := Aside0.mk hk0_; clear hk0_; have C0 := Aside0.mk hC; clear hC hR; have n0_ := Aside0.mk (below_step D.out hb); have n1_ := Aside0.mk (A.out.then_ hb); clear D; clear A; have D := n0_; have A := n1_; clear n0_ n1_; clear hb))
  go_upto_if 57 with (first | ((with_reducible refine gate_dst (N := 52) rfl ?_); (with_reducible refine gate_callee (f := 17) rfl ?_); refine goesL_ (some 52) rfl rfl Tryd.func17 (by kernel_rfl) rfl #[.slice A1 M c1] rfl (by (try simp only [List.map_toArray, List.map_cons, List.map_nil]); first | done | rfl) ?_; refine (dec_w A1 c1 M b HB.out.1 HB.out.2 (HG.out.below D.out) (Kd.C_below HCB.out D.out) HD2.out).mono ?_; rintro e wz_ ⟨rfl, hb⟩; refine ⟨_, rfl, ?_⟩; have n0_ := Aside0.mk (below_step D.out hb); clear D; have D := n0_; clear n0_; clear hb; clear A; (try clear C0)))
  have F := Aside0.mk (Box.fresh D.out (ten 0 0 0 E0 E0 E0 E0 0 0 0))
  have D' := Aside0.mk (below_alloc D.out (.cells (ten 0 0 0 E0 E0 E0 E0 0 0 0) 24))
  clear D
  have D := D'
  clear D'
  obtain ⟨h0, h1, h2⟩ := HE.out
  go_wp2_with (first | ((with_reducible refine gate_dst (N := 60) rfl ?_); refine wpList_load_row ?hgd_60 24 (.tmp 11) ?ho_60 _ ?hx_60 ?t_60 ?cs_60 ?fr_60 ?d_60 ?hg_60 ?hu_60 ?hd_60 ?hi_60 ?_; (case hgd_60 => rfl); (case ho_60 => rfl); (case hx_60 => rfl); (case hg_60 => exact F.out.blk); (case hu_60 => exact Tryd.underlying24); (case hd_60 => rfl); (case hi_60 => exact size24)))
  go_ret
  exact ⟨rfl, D.out⟩
set_option maxHeartbeats 2000000 in
set_option maxRecDepth 100000 in
theorem back_walk01 (a0 a1 a2 : Int) (a3 a4 a5 a6 : ByteArray) (a7 a8 a9 : Int) (x3 x4 x5 x6 : ByteArray) (X : List Int) (A1 : Option Addr) (c1 M : Nat) (l b : List Int) (pos er : Int) (z0 z1 z2 : Int) (z3 z4 z5 z6 : ByteArray) (z7 z8 z9 : Int)
    (hc0 : ∀ w, Calls Tryd.prog 12 #[.agg (ten a0 a1 a2 a3 a4 a5 a6 a7 a8 a9)] w fun e w' => e = .returned (.agg (ten a0 a1 a2 x3 x4 x5 x6 a7 a8 a9)) ∧ Below w.heap.size w w')
    (hX : event_Encode.f a0 a1 a2 x3 x4 x5 x6 a7 a8 a9 = some (X, 1)) (hmin : (if 6000 < (l.length : Int) then 6000 else (l.length : Int)) = (M : Int)) (hM : M ≤ l.length) (hcl : l.length ≤ c1) (hbl : b.length = M)
    (w : World) (hCB : Kd.C (Kd.int .u8) w A1 M b) (hG : Glob w)
    (hD2 : event_Decode.f b = some (z0, z1, z2, z3, z4, z5, z6, z7, z8, z9, (M : Int), 0)) (hE1 : event_Encode.f z0 z1 z2 z3 z4 z5 z6 z7 z8 z9 = some (b, 0)) (hE2 : event_Right.f z0 z1 z2 z3 z4 z5 z6 z7 z8 z9 = some true) :
    Calls Tryd.prog 5 #[.agg (ten a0 a1 a2 a3 a4 a5 a6 a7 a8 a9), .slice A1 l.length c1] w fun e w' => e = .returned (.bool true) ∧ Below w.heap.size w w' := by
  have HG := Aside0.mk hG
  have HC0 := Aside0.mk hc0
  have HX := Aside0.mk hX
  have HCB := Aside0.mk hCB
  have hM1 : M ≤ c1 := Nat.le_trans hM hcl
  have HB := Aside0.mk (show b.length = M ∧ M ≤ c1 from ⟨hbl, hM1⟩)
  have HD2 := Aside0.mk hD2
  have HE1 := Aside0.mk hE1
  have HE2 := Aside0.mk hE2
  clear hD2 hE1 hE2
  clear hG hc0 hX hCB hbl
  go_enter Tryd.func5, Tryd.ntmps5
  go_upto_region 1 with (fail)
  obtain ⟨g, hg⟩ : ∃ g, g = w.heap.size := ⟨_, rfl⟩
  obtain ⟨W1, hW1⟩ : ∃ W, W = w.alloc (.cells (ten a0 a1 a2 a3 a4 a5 a6 a7 a8 a9) 24) := ⟨_, rfl⟩
  rw [← hW1, ← hg]
  have A := Aside0.mk (show Box w W1 g (ten a0 a1 a2 a3 a4 a5 a6 a7 a8 a9) by rw [hW1, hg]; exact Box.new (Nat.le_refl _) _)
  have D := Aside0.mk (show Below w.heap.size w W1 by rw [hW1]; exact below_alloc (Below.refl _ _) _)
  clear hW1 hg
  go_upto_if 30 with (first | ((with_reducible refine gate_dst (N := 16) rfl ?_); (with_reducible refine gate_callee (f := 11) rfl ?_); refine goesL_ (some 16) rfl rfl Tryd.func11 (by kernel_rfl) rfl #[] rfl (by (try simp only [List.map_toArray, List.map_cons, List.map_nil]); first | done | rfl) ?_; refine (transeptlaw05_shown.calls true _ (HG.out.below D.out) rfl).mono ?_; rintro e wz_ ⟨rfl, hb⟩; refine ⟨_, rfl, ?_⟩; have n0_ := Aside0.mk (below_step D.out hb); have n1_ := Aside0.mk (A.out.then_ hb); clear D; clear A; have D := n0_; have A := n1_; clear n0_ n1_; clear hb) | ((with_reducible refine gate_dst (N := 17) rfl ?_); refine wpList_load_row ?hgd_17 24 (.tmp 2) ?ho_17 g ?hx_17 ?t_17 ?cs_17 ?fr_17 ?d_17 ?hg_17 ?hu_17 ?hd_17 ?hi_17 ?_; (case hgd_17 => rfl); (case ho_17 => rfl); (case hx_17 => rfl); (case hg_17 => exact A.out.blk); (case hu_17 => exact Tryd.underlying24); (case hd_17 => rfl); (case hi_17 => exact size24)) | ((with_reducible refine gate_dst (N := 25) rfl ?_); refine wpList_load_row ?hgd_25 24 (.tmp 2) ?ho_25 g ?hx_25 ?t_25 ?cs_25 ?fr_25 ?d_25 ?hg_25 ?hu_25 ?hd_25 ?hi_25 ?_; (case hgd_25 => rfl); (case ho_25 => rfl); (case hx_25 => rfl); (case hg_25 => exact A.out.blk); (case hu_25 => exact Tryd.underlying24); (case hd_25 => rfl); (case hi_25 => exact size24)) | ((with_reducible refine gate_dst (N := 18) rfl ?_); (with_reducible refine gate_callee (f := 12) rfl ?_); refine goesL_ (some 18) rfl rfl Tryd.func12 (by kernel_rfl) rfl #[.agg (ten a0 a1 a2 a3 a4 a5 a6 a7 a8 a9)] rfl (by (try simp only [List.map_toArray, List.map_cons, List.map_nil]); first | done | rfl) ?_; refine (HC0.out _).mono ?_; rintro e wz_ ⟨rfl, hb⟩; refine ⟨_, rfl, ?_⟩; have n0_ := Aside0.mk (below_step D.out hb); have n1_ := Aside0.mk (A.out.then_ hb); clear D; clear A; have D := n0_; have A := n1_; clear n0_ n1_; clear hb) | ((with_reducible refine gate_store (p := 2) rfl ?_); refine wpList_store_row ?hgd_s18 24 (.tmp 2) (.tmp 18) ?ho_s18 g (ten a0 a1 a2 x3 x4 x5 x6 a7 a8 a9) ?hx_s18 ?hy_s18 ?t_s18 ?old_s18 ?hg_s18 ?hi_s18 ?hold_s18 ?h1_s18 ?_; (case hgd_s18 => rfl); (case ho_s18 => rfl); (case hx_s18 => rfl); (case hy_s18 => rfl); (case hg_s18 => exact A.out.blk); (case hi_s18 => exact size24); (case hold_s18 => rfl); (case h1_s18 => exact ten_one _ _ _ _ _ _ _ _ _ _); have n0_ := Aside0.mk (setRow_below D.out A.out.base (ten a0 a1 a2 x3 x4 x5 x6 a7 a8 a9)); have n1_ := Aside0.mk (Box.row A.out (ten a0 a1 a2 x3 x4 x5 x6 a7 a8 a9)); clear D; clear A; have D := n0_; have A := n1_; clear n0_ n1_) | ((with_reducible refine gate_dst (N := 26) rfl ?_); (with_reducible refine gate_callee (f := 13) rfl ?_); refine goesL_ (some 26) rfl rfl Tryd.func13 (by kernel_rfl) rfl #[.agg (ten a0 a1 a2 x3 x4 x5 x6 a7 a8 a9)] rfl (by (try simp only [List.map_toArray, List.map_cons, List.map_nil]); first | done | rfl) ?_; refine (event_Encode.calls a0 a1 a2 x3 x4 x5 x6 a7 a8 a9 X _ _ (HG.out.below D.out) HX.out).mono ?_; rintro e wz_ ⟨v0, rfl, hR, hb⟩; obtain ⟨q0, k0, rfl, hk0_, hC⟩ := Kd.R_reads hR; refine ⟨_, rfl, ?_⟩; have K0 := Aside0.mk hk0_; clear hk0_; have C0 := Aside0.mk hC; clear hC hR; have n0_ := Aside0.mk (below_step D.out hb); have n1_ := Aside0.mk (A.out.then_ hb); clear D; clear A; have D := n0_; have A := n1_; clear n0_ n1_; clear hb))
  go_upto_if 57 with (first | ((with_reducible refine gate_dst (N := 52) rfl ?_); (with_reducible refine gate_callee (f := 17) rfl ?_); refine goesL_ (some 52) rfl rfl Tryd.func17 (by kernel_rfl) rfl #[.slice A1 M c1] rfl (by (try simp only [List.map_toArray, List.map_cons, List.map_nil]); first | done | rfl) ?_; refine (dec_w A1 c1 M b HB.out.1 HB.out.2 (HG.out.below D.out) (Kd.C_below HCB.out D.out) HD2.out).mono ?_; rintro e wz_ ⟨rfl, hb⟩; refine ⟨_, rfl, ?_⟩; have n0_ := Aside0.mk (below_step D.out hb); clear D; have D := n0_; clear n0_; clear hb; clear A; (try clear C0)))
  have F := Aside0.mk (Box.fresh D.out (ten z0 z1 z2 z3 z4 z5 z6 z7 z8 z9))
  have D' := Aside0.mk (below_alloc D.out (.cells (ten z0 z1 z2 z3 z4 z5 z6 z7 z8 z9) 24))
  clear D
  have D := D'
  clear D'
  go_upto_region 13 with (first | ((with_reducible refine gate_dst (N := 75) rfl ?_); refine wpList_load_row ?hgd_75 24 (.tmp 11) ?ho_75 _ ?hx_75 ?t_75 ?cs_75 ?fr_75 ?d_75 ?hg_75 ?hu_75 ?hd_75 ?hi_75 ?_; (case hgd_75 => rfl); (case ho_75 => rfl); (case hx_75 => rfl); (case hg_75 => exact F.out.blk); (case hu_75 => exact Tryd.underlying24); (case hd_75 => rfl); (case hi_75 => exact size24)) | ((with_reducible refine gate_dst (N := 98) rfl ?_); refine wpList_load_row ?hgd_98 24 (.tmp 11) ?ho_98 _ ?hx_98 ?t_98 ?cs_98 ?fr_98 ?d_98 ?hg_98 ?hu_98 ?hd_98 ?hi_98 ?_; (case hgd_98 => rfl); (case ho_98 => rfl); (case hx_98 => rfl); (case hg_98 => exact F.out.blk); (case hu_98 => exact Tryd.underlying24); (case hd_98 => rfl); (case hi_98 => exact size24)) | ((with_reducible refine gate_dst (N := 76) rfl ?_); (with_reducible refine gate_callee (f := 13) rfl ?_); refine goesL_ (some 76) rfl rfl Tryd.func13 (by kernel_rfl) rfl #[.agg (ten z0 z1 z2 z3 z4 z5 z6 z7 z8 z9)] rfl (by (try simp only [List.map_toArray, List.map_cons, List.map_nil]); first | done | rfl) ?_; refine (event_Encode.calls z0 z1 z2 z3 z4 z5 z6 z7 z8 z9 b _ _ (HG.out.below D.out) HE1.out).mono ?_; rintro e wz_ ⟨v1, rfl, hR, hb⟩; obtain ⟨q1, k1, rfl, hk1_, hC⟩ := Kd.R_reads hR; refine ⟨_, rfl, ?_⟩; have K1 := Aside0.mk hk1_; clear hk1_; have C1 := Aside0.mk hC; clear hC hR; have n0_ := Aside0.mk (below_step D.out hb); have n1_ := Aside0.mk (F.out.then_ hb); clear D; clear F; have D := n0_; have F := n1_; clear n0_ n1_; clear hb))
  have v0 := str_of C1.out k1 0
  have v1 := str_of (Kd.C_below HCB.out D.out) c1 0
  simp only [World.drewN_zero] at v0 v1
  obtain ⟨f0, f1, f2, f3, f4, f5, f6, f7, f8, f9⟩ := F.out.read
  go_wp2_with (fail)
  refine (event_Right.calls z0 z1 z2 z3 z4 z5 z6 z7 z8 z9 true _ (HG.out.below D.out) HE2.out).mono ?_
  rintro e wz_ ⟨rfl, hb⟩
  have D' := Aside0.mk (below_step D.out hb)
  clear hb D f0 f1 f2 f3 f4 f5 f6 f7 f8 f9 v0 v1 F
  go_wp2
  go_ret
  exact ⟨rfl, D'.out⟩
set_option maxHeartbeats 2000000 in
set_option maxRecDepth 100000 in
theorem back_walk10 (a0 a1 a2 : Int) (a3 a4 a5 a6 : ByteArray) (a7 a8 a9 : Int) (x3 x4 x5 x6 : ByteArray) (X : List Int) (A1 : Option Addr) (c1 M : Nat) (l b : List Int) (pos er : Int)
    (hc0 : ∀ w, Calls Tryd.prog 12 #[.agg (ten a0 a1 a2 a3 a4 a5 a6 a7 a8 a9)] w fun e w' => e = .returned (.agg (ten a0 a1 a2 x3 x4 x5 x6 a7 a8 a9)) ∧ Below w.heap.size w w')
    (hX : event_Encode.f a0 a1 a2 x3 x4 x5 x6 a7 a8 a9 = some (X, 0)) (hD1 : event_Decode.f X = some (a0, a1, a2, x3, x4, x5, x6, a7, a8, a9, (X.length : Int), 0)) (hmin : (if 6000 < (l.length : Int) then 6000 else (l.length : Int)) = (M : Int)) (hM : M ≤ l.length) (hcl : l.length ≤ c1) (hbl : b.length = M)
    (w : World) (hCB : Kd.C (Kd.int .u8) w A1 M b) (hG : Glob w)
    (hD2 : event_Decode.f b = some (0, 0, 0, E0, E0, E0, E0, 0, 0, 0, pos, er)) (he : ¬ er = 0 ∧ 0 ≤ pos ∧ pos ≤ (M : Int)) :
    Calls Tryd.prog 5 #[.agg (ten a0 a1 a2 a3 a4 a5 a6 a7 a8 a9), .slice A1 l.length c1] w fun e w' => e = .returned (.bool true) ∧ Below w.heap.size w w' := by
  have HG := Aside0.mk hG
  have HC0 := Aside0.mk hc0
  have HX := Aside0.mk hX
  have HCB := Aside0.mk hCB
  have hM1 : M ≤ c1 := Nat.le_trans hM hcl
  have HB := Aside0.mk (show b.length = M ∧ M ≤ c1 from ⟨hbl, hM1⟩)
  have HD1 := Aside0.mk hD1
  clear hD1
  have HD2 := Aside0.mk hD2
  have HE := Aside0.mk he
  clear hD2 he
  clear hG hc0 hX hCB hbl
  go_enter Tryd.func5, Tryd.ntmps5
  go_upto_region 1 with (fail)
  obtain ⟨g, hg⟩ : ∃ g, g = w.heap.size := ⟨_, rfl⟩
  obtain ⟨W1, hW1⟩ : ∃ W, W = w.alloc (.cells (ten a0 a1 a2 a3 a4 a5 a6 a7 a8 a9) 24) := ⟨_, rfl⟩
  rw [← hW1, ← hg]
  have A := Aside0.mk (show Box w W1 g (ten a0 a1 a2 a3 a4 a5 a6 a7 a8 a9) by rw [hW1, hg]; exact Box.new (Nat.le_refl _) _)
  have D := Aside0.mk (show Below w.heap.size w W1 by rw [hW1]; exact below_alloc (Below.refl _ _) _)
  clear hW1 hg
  go_upto_if 30 with (first | ((with_reducible refine gate_dst (N := 16) rfl ?_); (with_reducible refine gate_callee (f := 11) rfl ?_); refine goesL_ (some 16) rfl rfl Tryd.func11 (by kernel_rfl) rfl #[] rfl (by (try simp only [List.map_toArray, List.map_cons, List.map_nil]); first | done | rfl) ?_; refine (transeptlaw05_shown.calls true _ (HG.out.below D.out) rfl).mono ?_; rintro e wz_ ⟨rfl, hb⟩; refine ⟨_, rfl, ?_⟩; have n0_ := Aside0.mk (below_step D.out hb); have n1_ := Aside0.mk (A.out.then_ hb); clear D; clear A; have D := n0_; have A := n1_; clear n0_ n1_; clear hb) | ((with_reducible refine gate_dst (N := 17) rfl ?_); refine wpList_load_row ?hgd_17 24 (.tmp 2) ?ho_17 g ?hx_17 ?t_17 ?cs_17 ?fr_17 ?d_17 ?hg_17 ?hu_17 ?hd_17 ?hi_17 ?_; (case hgd_17 => rfl); (case ho_17 => rfl); (case hx_17 => rfl); (case hg_17 => exact A.out.blk); (case hu_17 => exact Tryd.underlying24); (case hd_17 => rfl); (case hi_17 => exact size24)) | ((with_reducible refine gate_dst (N := 25) rfl ?_); refine wpList_load_row ?hgd_25 24 (.tmp 2) ?ho_25 g ?hx_25 ?t_25 ?cs_25 ?fr_25 ?d_25 ?hg_25 ?hu_25 ?hd_25 ?hi_25 ?_; (case hgd_25 => rfl); (case ho_25 => rfl); (case hx_25 => rfl); (case hg_25 => exact A.out.blk); (case hu_25 => exact Tryd.underlying24); (case hd_25 => rfl); (case hi_25 => exact size24)) | ((with_reducible refine gate_dst (N := 18) rfl ?_); (with_reducible refine gate_callee (f := 12) rfl ?_); refine goesL_ (some 18) rfl rfl Tryd.func12 (by kernel_rfl) rfl #[.agg (ten a0 a1 a2 a3 a4 a5 a6 a7 a8 a9)] rfl (by (try simp only [List.map_toArray, List.map_cons, List.map_nil]); first | done | rfl) ?_; refine (HC0.out _).mono ?_; rintro e wz_ ⟨rfl, hb⟩; refine ⟨_, rfl, ?_⟩; have n0_ := Aside0.mk (below_step D.out hb); have n1_ := Aside0.mk (A.out.then_ hb); clear D; clear A; have D := n0_; have A := n1_; clear n0_ n1_; clear hb) | ((with_reducible refine gate_store (p := 2) rfl ?_); refine wpList_store_row ?hgd_s18 24 (.tmp 2) (.tmp 18) ?ho_s18 g (ten a0 a1 a2 x3 x4 x5 x6 a7 a8 a9) ?hx_s18 ?hy_s18 ?t_s18 ?old_s18 ?hg_s18 ?hi_s18 ?hold_s18 ?h1_s18 ?_; (case hgd_s18 => rfl); (case ho_s18 => rfl); (case hx_s18 => rfl); (case hy_s18 => rfl); (case hg_s18 => exact A.out.blk); (case hi_s18 => exact size24); (case hold_s18 => rfl); (case h1_s18 => exact ten_one _ _ _ _ _ _ _ _ _ _); have n0_ := Aside0.mk (setRow_below D.out A.out.base (ten a0 a1 a2 x3 x4 x5 x6 a7 a8 a9)); have n1_ := Aside0.mk (Box.row A.out (ten a0 a1 a2 x3 x4 x5 x6 a7 a8 a9)); clear D; clear A; have D := n0_; have A := n1_; clear n0_ n1_) | ((with_reducible refine gate_dst (N := 26) rfl ?_); (with_reducible refine gate_callee (f := 13) rfl ?_); refine goesL_ (some 26) rfl rfl Tryd.func13 (by kernel_rfl) rfl #[.agg (ten a0 a1 a2 x3 x4 x5 x6 a7 a8 a9)] rfl (by (try simp only [List.map_toArray, List.map_cons, List.map_nil]); first | done | rfl) ?_; refine (event_Encode.calls a0 a1 a2 x3 x4 x5 x6 a7 a8 a9 X _ _ (HG.out.below D.out) HX.out).mono ?_; rintro e wz_ ⟨v0, rfl, hR, hb⟩; obtain ⟨q0, k0, rfl, hk0_, hC⟩ := Kd.R_reads hR; refine ⟨_, rfl, ?_⟩; have K0 := Aside0.mk hk0_; clear hk0_; have C0 := Aside0.mk hC; clear hC hR; have n0_ := Aside0.mk (below_step D.out hb); have n1_ := Aside0.mk (A.out.then_ hb); clear D; clear A; have D := n0_; have A := n1_; clear n0_ n1_; clear hb))
  go_upto_region 7 with (first | ((with_reducible refine gate_dst (N := 33) rfl ?_); (with_reducible refine gate_callee (f := 17) rfl ?_); refine goesL_ (some 33) rfl rfl Tryd.func17 (by kernel_rfl) rfl #[.slice q0 X.length k0] rfl (by (try simp only [List.map_toArray, List.map_cons, List.map_nil]); first | done | rfl) ?_; refine (dec_w q0 k0 X.length X rfl K0.out (HG.out.below D.out) C0.out HD1.out).mono ?_; rintro e wz_ ⟨rfl, hb⟩; refine ⟨_, rfl, ?_⟩; have n0_ := Aside0.mk (below_step D.out hb); have n1_ := Aside0.mk (A.out.then_ hb); have n2_ := Aside0.mk (Kd.C_below C0.out hb); clear D; clear A; clear C0; have D := n0_; have A := n1_; have C0 := n2_; clear n0_ n1_ n2_; clear hb))
  have E := Aside0.mk (Box.fresh D.out (ten a0 a1 a2 x3 x4 x5 x6 a7 a8 a9))
  have D' := Aside0.mk (below_alloc D.out (.cells (ten a0 a1 a2 x3 x4 x5 x6 a7 a8 a9) 24))
  have A' := Aside0.mk (A.out.alloc (.cells (ten a0 a1 a2 x3 x4 x5 x6 a7 a8 a9) 24))
  have C0' := Aside0.mk (Kd.C_alloc C0.out (.cells (ten a0 a1 a2 x3 x4 x5 x6 a7 a8 a9) 24))
  clear D
  have D := D'
  clear D'
  clear A
  have A := A'
  clear A'
  clear C0
  have C0 := C0'
  clear C0'
  go_upto_region 9 with (first | ((with_reducible refine gate_dst (N := 37) rfl ?_); refine wpList_load_row ?hgd_37 24 (.tmp 8) ?ho_37 _ ?hx_37 ?t_37 ?cs_37 ?fr_37 ?d_37 ?hg_37 ?hu_37 ?hd_37 ?hi_37 ?_; (case hgd_37 => rfl); (case ho_37 => rfl); (case hx_37 => rfl); (case hg_37 => exact E.out.blk); (case hu_37 => exact Tryd.underlying24); (case hd_37 => rfl); (case hi_37 => exact size24)) | ((with_reducible refine gate_dst (N := 38) rfl ?_); refine wpList_load_row ?hgd_38 24 (.tmp 2) ?ho_38 g ?hx_38 ?t_38 ?cs_38 ?fr_38 ?d_38 ?hg_38 ?hu_38 ?hd_38 ?hi_38 ?_; (case hgd_38 => rfl); (case ho_38 => rfl); (case hx_38 => rfl); (case hg_38 => exact A.out.blk); (case hu_38 => exact Tryd.underlying24); (case hd_38 => rfl); (case hi_38 => exact size24)))
  go_upto_if 57 with (first | ((with_reducible refine gate_dst (N := 52) rfl ?_); (with_reducible refine gate_callee (f := 17) rfl ?_); refine goesL_ (some 52) rfl rfl Tryd.func17 (by kernel_rfl) rfl #[.slice A1 M c1] rfl (by (try simp only [List.map_toArray, List.map_cons, List.map_nil]); first | done | rfl) ?_; refine (dec_w A1 c1 M b HB.out.1 HB.out.2 (HG.out.below D.out) (Kd.C_below HCB.out D.out) HD2.out).mono ?_; rintro e wz_ ⟨rfl, hb⟩; refine ⟨_, rfl, ?_⟩; have n0_ := Aside0.mk (below_step D.out hb); clear D; have D := n0_; clear n0_; clear hb; clear A; (try clear C0)))
  have F := Aside0.mk (Box.fresh D.out (ten 0 0 0 E0 E0 E0 E0 0 0 0))
  have D' := Aside0.mk (below_alloc D.out (.cells (ten 0 0 0 E0 E0 E0 E0 0 0 0) 24))
  clear D
  have D := D'
  clear D'
  obtain ⟨h0, h1, h2⟩ := HE.out
  go_wp2_with (first | ((with_reducible refine gate_dst (N := 60) rfl ?_); refine wpList_load_row ?hgd_60 24 (.tmp 11) ?ho_60 _ ?hx_60 ?t_60 ?cs_60 ?fr_60 ?d_60 ?hg_60 ?hu_60 ?hd_60 ?hi_60 ?_; (case hgd_60 => rfl); (case ho_60 => rfl); (case hx_60 => rfl); (case hg_60 => exact F.out.blk); (case hu_60 => exact Tryd.underlying24); (case hd_60 => rfl); (case hi_60 => exact size24)))
  go_ret
  exact ⟨rfl, D.out⟩
set_option maxHeartbeats 2000000 in
set_option maxRecDepth 100000 in
theorem back_walk11 (a0 a1 a2 : Int) (a3 a4 a5 a6 : ByteArray) (a7 a8 a9 : Int) (x3 x4 x5 x6 : ByteArray) (X : List Int) (A1 : Option Addr) (c1 M : Nat) (l b : List Int) (pos er : Int) (z0 z1 z2 : Int) (z3 z4 z5 z6 : ByteArray) (z7 z8 z9 : Int)
    (hc0 : ∀ w, Calls Tryd.prog 12 #[.agg (ten a0 a1 a2 a3 a4 a5 a6 a7 a8 a9)] w fun e w' => e = .returned (.agg (ten a0 a1 a2 x3 x4 x5 x6 a7 a8 a9)) ∧ Below w.heap.size w w')
    (hX : event_Encode.f a0 a1 a2 x3 x4 x5 x6 a7 a8 a9 = some (X, 0)) (hD1 : event_Decode.f X = some (a0, a1, a2, x3, x4, x5, x6, a7, a8, a9, (X.length : Int), 0)) (hmin : (if 6000 < (l.length : Int) then 6000 else (l.length : Int)) = (M : Int)) (hM : M ≤ l.length) (hcl : l.length ≤ c1) (hbl : b.length = M)
    (w : World) (hCB : Kd.C (Kd.int .u8) w A1 M b) (hG : Glob w)
    (hD2 : event_Decode.f b = some (z0, z1, z2, z3, z4, z5, z6, z7, z8, z9, (M : Int), 0)) (hE1 : event_Encode.f z0 z1 z2 z3 z4 z5 z6 z7 z8 z9 = some (b, 0)) (hE2 : event_Right.f z0 z1 z2 z3 z4 z5 z6 z7 z8 z9 = some true) :
    Calls Tryd.prog 5 #[.agg (ten a0 a1 a2 a3 a4 a5 a6 a7 a8 a9), .slice A1 l.length c1] w fun e w' => e = .returned (.bool true) ∧ Below w.heap.size w w' := by
  have HG := Aside0.mk hG
  have HC0 := Aside0.mk hc0
  have HX := Aside0.mk hX
  have HCB := Aside0.mk hCB
  have hM1 : M ≤ c1 := Nat.le_trans hM hcl
  have HB := Aside0.mk (show b.length = M ∧ M ≤ c1 from ⟨hbl, hM1⟩)
  have HD1 := Aside0.mk hD1
  clear hD1
  have HD2 := Aside0.mk hD2
  have HE1 := Aside0.mk hE1
  have HE2 := Aside0.mk hE2
  clear hD2 hE1 hE2
  clear hG hc0 hX hCB hbl
  go_enter Tryd.func5, Tryd.ntmps5
  go_upto_region 1 with (fail)
  obtain ⟨g, hg⟩ : ∃ g, g = w.heap.size := ⟨_, rfl⟩
  obtain ⟨W1, hW1⟩ : ∃ W, W = w.alloc (.cells (ten a0 a1 a2 a3 a4 a5 a6 a7 a8 a9) 24) := ⟨_, rfl⟩
  rw [← hW1, ← hg]
  have A := Aside0.mk (show Box w W1 g (ten a0 a1 a2 a3 a4 a5 a6 a7 a8 a9) by rw [hW1, hg]; exact Box.new (Nat.le_refl _) _)
  have D := Aside0.mk (show Below w.heap.size w W1 by rw [hW1]; exact below_alloc (Below.refl _ _) _)
  clear hW1 hg
  go_upto_if 30 with (first | ((with_reducible refine gate_dst (N := 16) rfl ?_); (with_reducible refine gate_callee (f := 11) rfl ?_); refine goesL_ (some 16) rfl rfl Tryd.func11 (by kernel_rfl) rfl #[] rfl (by (try simp only [List.map_toArray, List.map_cons, List.map_nil]); first | done | rfl) ?_; refine (transeptlaw05_shown.calls true _ (HG.out.below D.out) rfl).mono ?_; rintro e wz_ ⟨rfl, hb⟩; refine ⟨_, rfl, ?_⟩; have n0_ := Aside0.mk (below_step D.out hb); have n1_ := Aside0.mk (A.out.then_ hb); clear D; clear A; have D := n0_; have A := n1_; clear n0_ n1_; clear hb) | ((with_reducible refine gate_dst (N := 17) rfl ?_); refine wpList_load_row ?hgd_17 24 (.tmp 2) ?ho_17 g ?hx_17 ?t_17 ?cs_17 ?fr_17 ?d_17 ?hg_17 ?hu_17 ?hd_17 ?hi_17 ?_; (case hgd_17 => rfl); (case ho_17 => rfl); (case hx_17 => rfl); (case hg_17 => exact A.out.blk); (case hu_17 => exact Tryd.underlying24); (case hd_17 => rfl); (case hi_17 => exact size24)) | ((with_reducible refine gate_dst (N := 25) rfl ?_); refine wpList_load_row ?hgd_25 24 (.tmp 2) ?ho_25 g ?hx_25 ?t_25 ?cs_25 ?fr_25 ?d_25 ?hg_25 ?hu_25 ?hd_25 ?hi_25 ?_; (case hgd_25 => rfl); (case ho_25 => rfl); (case hx_25 => rfl); (case hg_25 => exact A.out.blk); (case hu_25 => exact Tryd.underlying24); (case hd_25 => rfl); (case hi_25 => exact size24)) | ((with_reducible refine gate_dst (N := 18) rfl ?_); (with_reducible refine gate_callee (f := 12) rfl ?_); refine goesL_ (some 18) rfl rfl Tryd.func12 (by kernel_rfl) rfl #[.agg (ten a0 a1 a2 a3 a4 a5 a6 a7 a8 a9)] rfl (by (try simp only [List.map_toArray, List.map_cons, List.map_nil]); first | done | rfl) ?_; refine (HC0.out _).mono ?_; rintro e wz_ ⟨rfl, hb⟩; refine ⟨_, rfl, ?_⟩; have n0_ := Aside0.mk (below_step D.out hb); have n1_ := Aside0.mk (A.out.then_ hb); clear D; clear A; have D := n0_; have A := n1_; clear n0_ n1_; clear hb) | ((with_reducible refine gate_store (p := 2) rfl ?_); refine wpList_store_row ?hgd_s18 24 (.tmp 2) (.tmp 18) ?ho_s18 g (ten a0 a1 a2 x3 x4 x5 x6 a7 a8 a9) ?hx_s18 ?hy_s18 ?t_s18 ?old_s18 ?hg_s18 ?hi_s18 ?hold_s18 ?h1_s18 ?_; (case hgd_s18 => rfl); (case ho_s18 => rfl); (case hx_s18 => rfl); (case hy_s18 => rfl); (case hg_s18 => exact A.out.blk); (case hi_s18 => exact size24); (case hold_s18 => rfl); (case h1_s18 => exact ten_one _ _ _ _ _ _ _ _ _ _); have n0_ := Aside0.mk (setRow_below D.out A.out.base (ten a0 a1 a2 x3 x4 x5 x6 a7 a8 a9)); have n1_ := Aside0.mk (Box.row A.out (ten a0 a1 a2 x3 x4 x5 x6 a7 a8 a9)); clear D; clear A; have D := n0_; have A := n1_; clear n0_ n1_) | ((with_reducible refine gate_dst (N := 26) rfl ?_); (with_reducible refine gate_callee (f := 13) rfl ?_); refine goesL_ (some 26) rfl rfl Tryd.func13 (by kernel_rfl) rfl #[.agg (ten a0 a1 a2 x3 x4 x5 x6 a7 a8 a9)] rfl (by (try simp only [List.map_toArray, List.map_cons, List.map_nil]); first | done | rfl) ?_; refine (event_Encode.calls a0 a1 a2 x3 x4 x5 x6 a7 a8 a9 X _ _ (HG.out.below D.out) HX.out).mono ?_; rintro e wz_ ⟨v0, rfl, hR, hb⟩; obtain ⟨q0, k0, rfl, hk0_, hC⟩ := Kd.R_reads hR; refine ⟨_, rfl, ?_⟩; have K0 := Aside0.mk hk0_; clear hk0_; have C0 := Aside0.mk hC; clear hC hR; have n0_ := Aside0.mk (below_step D.out hb); have n1_ := Aside0.mk (A.out.then_ hb); clear D; clear A; have D := n0_; have A := n1_; clear n0_ n1_; clear hb))
  go_upto_region 7 with (first | ((with_reducible refine gate_dst (N := 33) rfl ?_); (with_reducible refine gate_callee (f := 17) rfl ?_); refine goesL_ (some 33) rfl rfl Tryd.func17 (by kernel_rfl) rfl #[.slice q0 X.length k0] rfl (by (try simp only [List.map_toArray, List.map_cons, List.map_nil]); first | done | rfl) ?_; refine (dec_w q0 k0 X.length X rfl K0.out (HG.out.below D.out) C0.out HD1.out).mono ?_; rintro e wz_ ⟨rfl, hb⟩; refine ⟨_, rfl, ?_⟩; have n0_ := Aside0.mk (below_step D.out hb); have n1_ := Aside0.mk (A.out.then_ hb); have n2_ := Aside0.mk (Kd.C_below C0.out hb); clear D; clear A; clear C0; have D := n0_; have A := n1_; have C0 := n2_; clear n0_ n1_ n2_; clear hb))
  have E := Aside0.mk (Box.fresh D.out (ten a0 a1 a2 x3 x4 x5 x6 a7 a8 a9))
  have D' := Aside0.mk (below_alloc D.out (.cells (ten a0 a1 a2 x3 x4 x5 x6 a7 a8 a9) 24))
  have A' := Aside0.mk (A.out.alloc (.cells (ten a0 a1 a2 x3 x4 x5 x6 a7 a8 a9) 24))
  have C0' := Aside0.mk (Kd.C_alloc C0.out (.cells (ten a0 a1 a2 x3 x4 x5 x6 a7 a8 a9) 24))
  clear D
  have D := D'
  clear D'
  clear A
  have A := A'
  clear A'
  clear C0
  have C0 := C0'
  clear C0'
  go_upto_region 9 with (first | ((with_reducible refine gate_dst (N := 37) rfl ?_); refine wpList_load_row ?hgd_37 24 (.tmp 8) ?ho_37 _ ?hx_37 ?t_37 ?cs_37 ?fr_37 ?d_37 ?hg_37 ?hu_37 ?hd_37 ?hi_37 ?_; (case hgd_37 => rfl); (case ho_37 => rfl); (case hx_37 => rfl); (case hg_37 => exact E.out.blk); (case hu_37 => exact Tryd.underlying24); (case hd_37 => rfl); (case hi_37 => exact size24)) | ((with_reducible refine gate_dst (N := 38) rfl ?_); refine wpList_load_row ?hgd_38 24 (.tmp 2) ?ho_38 g ?hx_38 ?t_38 ?cs_38 ?fr_38 ?d_38 ?hg_38 ?hu_38 ?hd_38 ?hi_38 ?_; (case hgd_38 => rfl); (case ho_38 => rfl); (case hx_38 => rfl); (case hg_38 => exact A.out.blk); (case hu_38 => exact Tryd.underlying24); (case hd_38 => rfl); (case hi_38 => exact size24)))
  go_upto_if 57 with (first | ((with_reducible refine gate_dst (N := 52) rfl ?_); (with_reducible refine gate_callee (f := 17) rfl ?_); refine goesL_ (some 52) rfl rfl Tryd.func17 (by kernel_rfl) rfl #[.slice A1 M c1] rfl (by (try simp only [List.map_toArray, List.map_cons, List.map_nil]); first | done | rfl) ?_; refine (dec_w A1 c1 M b HB.out.1 HB.out.2 (HG.out.below D.out) (Kd.C_below HCB.out D.out) HD2.out).mono ?_; rintro e wz_ ⟨rfl, hb⟩; refine ⟨_, rfl, ?_⟩; have n0_ := Aside0.mk (below_step D.out hb); clear D; have D := n0_; clear n0_; clear hb; clear A; (try clear C0)))
  have F := Aside0.mk (Box.fresh D.out (ten z0 z1 z2 z3 z4 z5 z6 z7 z8 z9))
  have D' := Aside0.mk (below_alloc D.out (.cells (ten z0 z1 z2 z3 z4 z5 z6 z7 z8 z9) 24))
  clear D
  have D := D'
  clear D'
  go_upto_region 13 with (first | ((with_reducible refine gate_dst (N := 75) rfl ?_); refine wpList_load_row ?hgd_75 24 (.tmp 11) ?ho_75 _ ?hx_75 ?t_75 ?cs_75 ?fr_75 ?d_75 ?hg_75 ?hu_75 ?hd_75 ?hi_75 ?_; (case hgd_75 => rfl); (case ho_75 => rfl); (case hx_75 => rfl); (case hg_75 => exact F.out.blk); (case hu_75 => exact Tryd.underlying24); (case hd_75 => rfl); (case hi_75 => exact size24)) | ((with_reducible refine gate_dst (N := 98) rfl ?_); refine wpList_load_row ?hgd_98 24 (.tmp 11) ?ho_98 _ ?hx_98 ?t_98 ?cs_98 ?fr_98 ?d_98 ?hg_98 ?hu_98 ?hd_98 ?hi_98 ?_; (case hgd_98 => rfl); (case ho_98 => rfl); (case hx_98 => rfl); (case hg_98 => exact F.out.blk); (case hu_98 => exact Tryd.underlying24); (case hd_98 => rfl); (case hi_98 => exact size24)) | ((with_reducible refine gate_dst (N := 76) rfl ?_); (with_reducible refine gate_callee (f := 13) rfl ?_); refine goesL_ (some 76) rfl rfl Tryd.func13 (by kernel_rfl) rfl #[.agg (ten z0 z1 z2 z3 z4 z5 z6 z7 z8 z9)] rfl (by (try simp only [List.map_toArray, List.map_cons, List.map_nil]); first | done | rfl) ?_; refine (event_Encode.calls z0 z1 z2 z3 z4 z5 z6 z7 z8 z9 b _ _ (HG.out.below D.out) HE1.out).mono ?_; rintro e wz_ ⟨v1, rfl, hR, hb⟩; obtain ⟨q1, k1, rfl, hk1_, hC⟩ := Kd.R_reads hR; refine ⟨_, rfl, ?_⟩; have K1 := Aside0.mk hk1_; clear hk1_; have C1 := Aside0.mk hC; clear hC hR; have n0_ := Aside0.mk (below_step D.out hb); have n1_ := Aside0.mk (F.out.then_ hb); clear D; clear F; have D := n0_; have F := n1_; clear n0_ n1_; clear hb))
  have v0 := str_of C1.out k1 0
  have v1 := str_of (Kd.C_below HCB.out D.out) c1 0
  simp only [World.drewN_zero] at v0 v1
  obtain ⟨f0, f1, f2, f3, f4, f5, f6, f7, f8, f9⟩ := F.out.read
  go_wp2_with (fail)
  refine (event_Right.calls z0 z1 z2 z3 z4 z5 z6 z7 z8 z9 true _ (HG.out.below D.out) HE2.out).mono ?_
  rintro e wz_ ⟨rfl, hb⟩
  have D' := Aside0.mk (below_step D.out hb)
  clear hb D f0 f1 f2 f3 f4 f5 f6 f7 f8 f9 v0 v1 F
  go_wp2
  go_ret
  exact ⟨rfl, D'.out⟩
end Go.Proofs.YtmlhlcdamppbfaaDoor.Xa
