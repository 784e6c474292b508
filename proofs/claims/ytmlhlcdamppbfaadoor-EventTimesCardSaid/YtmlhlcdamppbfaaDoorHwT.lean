/- The law EventTimes: its walk, by hand, kind by kind. -/
import Derived.Test.YtmlhlcdamppbfaaDoorEvW
namespace Go.Proofs.YtmlhlcdamppbfaaDoor.Xa
open Go.RowKit Go.Proofs.YtmlhlcdamppbfaaDoor.Ext Go.Proofs.YtmlhlcdamppbfaaDoor.Pure Go.Proofs.YtmlhlcdamppbfaaDoorW.PrintWords Go.Proofs.YtmlhlcdamppbfaaDoorW.PrintLast Go.Proofs.YtmlhlcdamppbfaaDoorW.PrintMore
attribute [local go_sem] max2_int min2_int max_two min_two max_three min_three max_four min_four
set_option linter.unusedVariables false
set_option linter.unusedSimpArgs false
attribute [local go_sem high] eqA24
set_option maxHeartbeats 2000000 in
set_option maxRecDepth 100000 in
theorem times_walk1 (a0 a1 a2 : Int) (a3 a4 s t : ByteArray) (n3 n4 : Nat) (I ID X : Int) (L : List Int)
    (hI : Go.bits .and .i64 a0 65535 = I) (hI0 : 0 ≤ I) (hJ : I % 14 = 0)
    (hm3 : (if 4000 < (a3.size : Int) then 4000 else (a3.size : Int)) = (n3 : Int)) (h3 : n3 ≤ a3.size) (hs : a3.extract 0 n3 = s) (hz3 : a3.size ≤ 140737488351232)
    (hm4 : (if 4000 < (a4.size : Int) then 4000 else (a4.size : Int)) = (n4 : Int)) (h4 : n4 ≤ a4.size) (ht : a4.extract 0 n4 = t) (hz4 : a4.size ≤ 140737488351232)
    (hmax : (if a2 < 1 then 1 else a2) = ID) (h20 : 0 ≤ a2) (h21 : a2 < 18446744073709551616) 
    (hE : event_Encode.f 1 a1 0 s E0 E0 E0 0 0 0 = some (L, 0)) (hD : event_Decode.f L = some (1, a1, 0, s, E0, E0, E0, 0, 0, 0, (L.length : Int), 0)) (hR : event_Right.f 1 a1 0 s E0 E0 E0 0 0 0 = some true) (w : World) (hG : Glob w) :
    Calls Tryd.prog 10 #[.int .i64 a0, .int .u64 a1, .int .u64 a2, .string a3, .string a4] w fun e w' => e = .returned (.bool true) ∧ Below w.heap.size w w' := by
  have HG := Aside0.mk hG
  have HE := Aside0.mk hE
  have HD := Aside0.mk hD
  have HR := Aside0.mk hR
  have D := Aside0.mk (Below.refl w.heap.size w)
  clear hG hE hD hR
  go_enter Tryd.func10, Tryd.ntmps10
  go_upto_region 6 with (first | ((with_reducible refine gate_dst (N := 18) rfl ?_); (with_reducible refine gate_callee (f := 11) rfl ?_); refine goesL_ (some 18) rfl rfl Tryd.func11 (by kernel_rfl) rfl #[] rfl (by (try simp only [List.map_toArray, List.map_cons, List.map_nil]); first | done | rfl) ?_; refine (transeptlaw05_shown.calls true _ (HG.out.below D.out) rfl).mono ?_; rintro e wz_ ⟨rfl, hb⟩; refine ⟨_, rfl, ?_⟩; have n0_ := Aside0.mk (below_step D.out hb); clear D; have D := n0_; clear n0_; clear hb))
  obtain ⟨g, hg⟩ : ∃ g, g = wz_.heap.size := ⟨_, rfl⟩
  obtain ⟨W1, hW1⟩ : ∃ W, W = wz_.alloc (.cells (ten 1 a1 0 E0 E0 E0 E0 0 0 0) 24) := ⟨_, rfl⟩
  rw [← hW1, ← hg]
  have A := Aside0.mk (show Box w W1 g (ten 1 a1 0 E0 E0 E0 E0 0 0 0) by rw [hW1, hg]; exact Box.fresh D.out _)
  have D' := Aside0.mk (show Below w.heap.size w W1 by rw [hW1]; exact below_alloc D.out _)
  clear hW1 hg D hI hI0 hJ hm3 hm4 h3 h4 hs ht
  have D := D'
  clear D'
  obtain ⟨o0, o1, o2, o3, o4, o5, o6, o7, o8, o9⟩ := A.out.free
  obtain ⟨c0, c1, c2, c3, c4, c5, c6, c7, c8, c9⟩ := A.out.read
  go_upto_region 26 with (fail)
  clear o0 o1 o2 o3 o4 o5 o6 o7 o8 o9 c0 c1 c2 c3 c4 c5 c6 c7 c8 c9
  obtain ⟨W2, hW2⟩ : ∃ W, W = W1.setCell ⟨g, 3, none⟩ (.string s) := ⟨_, rfl⟩
  rw [← hW2]
  have A' := Aside0.mk (show Box w W2 g (ten 1 a1 0 s E0 E0 E0 0 0 0) by rw [hW2]; exact ⟨A.out.base, blk_put A.out.blk 3 _ rfl⟩)
  have D' := Aside0.mk (show Below w.heap.size w W2 by rw [hW2]; exact D.out.setCell A.out.base _)
  clear A D hW2
  have A := A'
  have D := D'
  clear A' D'
  go_upto_region 28 with (first | ((with_reducible refine gate_dst (N := 82) rfl ?_); refine wpList_load_row ?hgd_82 24 (.tmp 12) ?ho_82 g ?hx_82 ?t_82 ?cs_82 ?fr_82 ?d_82 ?hg_82 ?hu_82 ?hd_82 ?hi_82 ?_; (case hgd_82 => rfl); (case ho_82 => rfl); (case hx_82 => rfl); (case hg_82 => exact A.out.blk); (case hu_82 => exact Tryd.underlying24); (case hd_82 => rfl); (case hi_82 => exact size24)) | ((with_reducible refine gate_dst (N := 83) rfl ?_); (with_reducible refine gate_callee (f := 13) rfl ?_); refine goesL_ (some 83) rfl rfl Tryd.func13 (by kernel_rfl) rfl #[.agg (ten 1 a1 0 s E0 E0 E0 0 0 0)] rfl (by (try simp only [List.map_toArray, List.map_cons, List.map_nil]); first | done | rfl) ?_; refine (event_Encode.calls 1 a1 0 s E0 E0 E0 0 0 0 L _ _ (HG.out.below D.out) HE.out).mono ?_; rintro e wz_ ⟨v0, rfl, hR, hb⟩; obtain ⟨q0, k0, rfl, hk0_, hC⟩ := Kd.R_reads hR; refine ⟨_, rfl, ?_⟩; have K0 := Aside0.mk hk0_; clear hk0_; have C0 := Aside0.mk hC; clear hC hR; have n0_ := Aside0.mk (below_step D.out hb); have n1_ := Aside0.mk (A.out.then_ hb); clear D; clear A; have D := n0_; have A := n1_; clear n0_ n1_; clear hb) | ((with_reducible refine gate_dst (N := 88) rfl ?_); (with_reducible refine gate_callee (f := 17) rfl ?_); refine goesL_ (some 88) rfl rfl Tryd.func17 (by kernel_rfl) rfl #[.slice q0 L.length k0] rfl (by (try simp only [List.map_toArray, List.map_cons, List.map_nil]); first | done | rfl) ?_; refine (dec_w q0 k0 L.length L rfl K0.out (HG.out.below D.out) C0.out HD.out).mono ?_; rintro e wz_ ⟨rfl, hb⟩; refine ⟨_, rfl, ?_⟩; have n0_ := Aside0.mk (below_step D.out hb); have n1_ := Aside0.mk (A.out.then_ hb); clear D; clear A; have D := n0_; have A := n1_; clear n0_ n1_; clear hb))
  have F := Aside0.mk (Box.fresh D.out (ten 1 a1 0 s E0 E0 E0 0 0 0))
  have A' := Aside0.mk (A.out.alloc (.cells (ten 1 a1 0 s E0 E0 E0 0 0 0) 24))
  have D' := Aside0.mk (below_alloc D.out (.cells (ten 1 a1 0 s E0 E0 E0 0 0 0) 24))
  clear A D
  have A := A'
  have D := D'
  clear A' D'
  obtain ⟨c0, c1, c2, c3, c4, c5, c6, c7, c8, c9⟩ := A.out.read
  go_wp2_with (fail)
  clear c0 c1 c2 c3 c4 c5 c6 c7 c8 c9
  refine (event_Right.calls 1 a1 0 s E0 E0 E0 0 0 0 true _ (HG.out.below D.out) HR.out).mono ?_
  rintro e wz2 ⟨rfl, hb⟩
  have A' := Aside0.mk (A.out.then_ hb)
  have F' := Aside0.mk (F.out.then_ hb)
  have D' := Aside0.mk (below_step D.out hb)
  clear A D F hb
  obtain ⟨c0, c1, c2, c3, c4, c5, c6, c7, c8, c9⟩ := A'.out.read
  obtain ⟨d0, d1, d2, d3, d4, d5, d6, d7, d8, d9⟩ := F'.out.read
  go_wp2
  go_ret
  exact ⟨rfl, D'.out⟩
set_option maxHeartbeats 2000000 in
set_option maxRecDepth 100000 in
theorem times_walk2 (a0 a1 a2 : Int) (a3 a4 s t : ByteArray) (n3 n4 : Nat) (I ID X : Int) (L : List Int)
    (hI : Go.bits .and .i64 a0 65535 = I) (hI0 : 0 ≤ I) (hJ : I % 14 = 1)
    (hm3 : (if 4000 < (a3.size : Int) then 4000 else (a3.size : Int)) = (n3 : Int)) (h3 : n3 ≤ a3.size) (hs : a3.extract 0 n3 = s) (hz3 : a3.size ≤ 140737488351232)
    (hm4 : (if 4000 < (a4.size : Int) then 4000 else (a4.size : Int)) = (n4 : Int)) (h4 : n4 ≤ a4.size) (ht : a4.extract 0 n4 = t) (hz4 : a4.size ≤ 140737488351232)
    (hmax : (if a2 < 1 then 1 else a2) = ID) (h20 : 0 ≤ a2) (h21 : a2 < 18446744073709551616) 
    (hE : event_Encode.f 2 a1 0 s E0 E0 E0 0 0 0 = some (L, 0)) (hD : event_Decode.f L = some (2, a1, 0, s, E0, E0, E0, 0, 0, 0, (L.length : Int), 0)) (hR : event_Right.f 2 a1 0 s E0 E0 E0 0 0 0 = some true) (w : World) (hG : Glob w) :
    Calls Tryd.prog 10 #[.int .i64 a0, .int .u64 a1, .int .u64 a2, .string a3, .string a4] w fun e w' => e = .returned (.bool true) ∧ Below w.heap.size w w' := by
  have HG := Aside0.mk hG
  have HE := Aside0.mk hE
  have HD := Aside0.mk hD
  have HR := Aside0.mk hR
  have D := Aside0.mk (Below.refl w.heap.size w)
  clear hG hE hD hR
  go_enter Tryd.func10, Tryd.ntmps10
  go_upto_region 6 with (first | ((with_reducible refine gate_dst (N := 18) rfl ?_); (with_reducible refine gate_callee (f := 11) rfl ?_); refine goesL_ (some 18) rfl rfl Tryd.func11 (by kernel_rfl) rfl #[] rfl (by (try simp only [List.map_toArray, List.map_cons, List.map_nil]); first | done | rfl) ?_; refine (transeptlaw05_shown.calls true _ (HG.out.below D.out) rfl).mono ?_; rintro e wz_ ⟨rfl, hb⟩; refine ⟨_, rfl, ?_⟩; have n0_ := Aside0.mk (below_step D.out hb); clear D; have D := n0_; clear n0_; clear hb))
  obtain ⟨g, hg⟩ : ∃ g, g = wz_.heap.size := ⟨_, rfl⟩
  obtain ⟨W1, hW1⟩ : ∃ W, W = wz_.alloc (.cells (ten 2 a1 0 E0 E0 E0 E0 0 0 0) 24) := ⟨_, rfl⟩
  rw [← hW1, ← hg]
  have A := Aside0.mk (show Box w W1 g (ten 2 a1 0 E0 E0 E0 E0 0 0 0) by rw [hW1, hg]; exact Box.fresh D.out _)
  have D' := Aside0.mk (show Below w.heap.size w W1 by rw [hW1]; exact below_alloc D.out _)
  clear hW1 hg D hI hI0 hJ hm3 hm4 h3 h4 hs ht
  have D := D'
  clear D'
  obtain ⟨o0, o1, o2, o3, o4, o5, o6, o7, o8, o9⟩ := A.out.free
  obtain ⟨c0, c1, c2, c3, c4, c5, c6, c7, c8, c9⟩ := A.out.read
  go_upto_region 26 with (fail)
  clear o0 o1 o2 o3 o4 o5 o6 o7 o8 o9 c0 c1 c2 c3 c4 c5 c6 c7 c8 c9
  obtain ⟨W2, hW2⟩ : ∃ W, W = W1.setCell ⟨g, 3, none⟩ (.string s) := ⟨_, rfl⟩
  rw [← hW2]
  have A' := Aside0.mk (show Box w W2 g (ten 2 a1 0 s E0 E0 E0 0 0 0) by rw [hW2]; exact ⟨A.out.base, blk_put A.out.blk 3 _ rfl⟩)
  have D' := Aside0.mk (show Below w.heap.size w W2 by rw [hW2]; exact D.out.setCell A.out.base _)
  clear A D hW2
  have A := A'
  have D := D'
  clear A' D'
  go_upto_region 28 with (first | ((with_reducible refine gate_dst (N := 82) rfl ?_); refine wpList_load_row ?hgd_82 24 (.tmp 12) ?ho_82 g ?hx_82 ?t_82 ?cs_82 ?fr_82 ?d_82 ?hg_82 ?hu_82 ?hd_82 ?hi_82 ?_; (case hgd_82 => rfl); (case ho_82 => rfl); (case hx_82 => rfl); (case hg_82 => exact A.out.blk); (case hu_82 => exact Tryd.underlying24); (case hd_82 => rfl); (case hi_82 => exact size24)) | ((with_reducible refine gate_dst (N := 83) rfl ?_); (with_reducible refine gate_callee (f := 13) rfl ?_); refine goesL_ (some 83) rfl rfl Tryd.func13 (by kernel_rfl) rfl #[.agg (ten 2 a1 0 s E0 E0 E0 0 0 0)] rfl (by (try simp only [List.map_toArray, List.map_cons, List.map_nil]); first | done | rfl) ?_; refine (event_Encode.calls 2 a1 0 s E0 E0 E0 0 0 0 L _ _ (HG.out.below D.out) HE.out).mono ?_; rintro e wz_ ⟨v0, rfl, hR, hb⟩; obtain ⟨q0, k0, rfl, hk0_, hC⟩ := Kd.R_reads hR; refine ⟨_, rfl, ?_⟩; have K0 := Aside0.mk hk0_; clear hk0_; have C0 := Aside0.mk hC; clear hC hR; have n0_ := Aside0.mk (below_step D.out hb); have n1_ := Aside0.mk (A.out.then_ hb); clear D; clear A; have D := n0_; have A := n1_; clear n0_ n1_; clear hb) | ((with_reducible refine gate_dst (N := 88) rfl ?_); (with_reducible refine gate_callee (f := 17) rfl ?_); refine goesL_ (some 88) rfl rfl Tryd.func17 (by kernel_rfl) rfl #[.slice q0 L.length k0] rfl (by (try simp only [List.map_toArray, List.map_cons, List.map_nil]); first | done | rfl) ?_; refine (dec_w q0 k0 L.length L rfl K0.out (HG.out.below D.out) C0.out HD.out).mono ?_; rintro e wz_ ⟨rfl, hb⟩; refine ⟨_, rfl, ?_⟩; have n0_ := Aside0.mk (below_step D.out hb); have n1_ := Aside0.mk (A.out.then_ hb); clear D; clear A; have D := n0_; have A := n1_; clear n0_ n1_; clear hb))
  have F := Aside0.mk (Box.fresh D.out (ten 2 a1 0 s E0 E0 E0 0 0 0))
  have A' := Aside0.mk (A.out.alloc (.cells (ten 2 a1 0 s E0 E0 E0 0 0 0) 24))
  have D' := Aside0.mk (below_alloc D.out (.cells (ten 2 a1 0 s E0 E0 E0 0 0 0) 24))
  clear A D
  have A := A'
  have D := D'
  clear A' D'
  obtain ⟨c0, c1, c2, c3, c4, c5, c6, c7, c8, c9⟩ := A.out.read
  go_wp2_with (fail)
  clear c0 c1 c2 c3 c4 c5 c6 c7 c8 c9
  refine (event_Right.calls 2 a1 0 s E0 E0 E0 0 0 0 true _ (HG.out.below D.out) HR.out).mono ?_
  rintro e wz2 ⟨rfl, hb⟩
  have A' := Aside0.mk (A.out.then_ hb)
  have F' := Aside0.mk (F.out.then_ hb)
  have D' := Aside0.mk (below_step D.out hb)
  clear A D F hb
  obtain ⟨c0, c1, c2, c3, c4, c5, c6, c7, c8, c9⟩ := A'.out.read
  obtain ⟨d0, d1, d2, d3, d4, d5, d6, d7, d8, d9⟩ := F'.out.read
  go_wp2
  go_ret
  exact ⟨rfl, D'.out⟩
set_option maxHeartbeats 2000000 in
set_option maxRecDepth 100000 in
theorem times_walk3 (a0 a1 a2 : Int) (a3 a4 s t : ByteArray) (n3 n4 : Nat) (I ID X : Int) (L : List Int)
    (hI : Go.bits .and .i64 a0 65535 = I) (hI0 : 0 ≤ I) (hJ : I % 14 = 2)
    (hm3 : (if 4000 < (a3.size : Int) then 4000 else (a3.size : Int)) = (n3 : Int)) (h3 : n3 ≤ a3.size) (hs : a3.extract 0 n3 = s) (hz3 : a3.size ≤ 140737488351232)
    (hm4 : (if 4000 < (a4.size : Int) then 4000 else (a4.size : Int)) = (n4 : Int)) (h4 : n4 ≤ a4.size) (ht : a4.extract 0 n4 = t) (hz4 : a4.size ≤ 140737488351232)
    (hmax : (if a2 < 1 then 1 else a2) = ID) (h20 : 0 ≤ a2) (h21 : a2 < 18446744073709551616) 
    (hE : event_Encode.f 3 a1 ID s t t s 3 2 1 = some (L, 0)) (hD : event_Decode.f L = some (3, a1, ID, s, t, t, s, 3, 2, 1, (L.length : Int), 0)) (hR : event_Right.f 3 a1 ID s t t s 3 2 1 = some true) (w : World) (hG : Glob w) :
    Calls Tryd.prog 10 #[.int .i64 a0, .int .u64 a1, .int .u64 a2, .string a3, .string a4] w fun e w' => e = .returned (.bool true) ∧ Below w.heap.size w w' := by
  have HG := Aside0.mk hG
  have HE := Aside0.mk hE
  have HD := Aside0.mk hD
  have HR := Aside0.mk hR
  have D := Aside0.mk (Below.refl w.heap.size w)
  clear hG hE hD hR
  go_enter Tryd.func10, Tryd.ntmps10
  go_upto_region 6 with (first | ((with_reducible refine gate_dst (N := 18) rfl ?_); (with_reducible refine gate_callee (f := 11) rfl ?_); refine goesL_ (some 18) rfl rfl Tryd.func11 (by kernel_rfl) rfl #[] rfl (by (try simp only [List.map_toArray, List.map_cons, List.map_nil]); first | done | rfl) ?_; refine (transeptlaw05_shown.calls true _ (HG.out.below D.out) rfl).mono ?_; rintro e wz_ ⟨rfl, hb⟩; refine ⟨_, rfl, ?_⟩; have n0_ := Aside0.mk (below_step D.out hb); clear D; have D := n0_; clear n0_; clear hb))
  obtain ⟨g, hg⟩ : ∃ g, g = wz_.heap.size := ⟨_, rfl⟩
  obtain ⟨W1, hW1⟩ : ∃ W, W = wz_.alloc (.cells (ten 3 a1 0 E0 E0 E0 E0 0 0 0) 24) := ⟨_, rfl⟩
  rw [← hW1, ← hg]
  have A := Aside0.mk (show Box w W1 g (ten 3 a1 0 E0 E0 E0 E0 0 0 0) by rw [hW1, hg]; exact Box.fresh D.out _)
  have D' := Aside0.mk (show Below w.heap.size w W1 by rw [hW1]; exact below_alloc D.out _)
  clear hW1 hg D hI hI0 hJ hm3 hm4 h3 h4 hs ht
  have D := D'
  clear D'
  obtain ⟨o0, o1, o2, o3, o4, o5, o6, o7, o8, o9⟩ := A.out.free
  obtain ⟨c0, c1, c2, c3, c4, c5, c6, c7, c8, c9⟩ := A.out.read
  go_upto_region 8 with (fail)
  clear o0 o1 o2 o3 o4 o5 o6 o7 o8 o9 c0 c1 c2 c3 c4 c5 c6 c7 c8 c9
  obtain ⟨W2, hW2⟩ : ∃ W, W = W1.setCell ⟨g, 2, none⟩ (.int .u64 ID) := ⟨_, rfl⟩
  rw [← hW2]
  have A' := Aside0.mk (show Box w W2 g (ten 3 a1 ID E0 E0 E0 E0 0 0 0) by rw [hW2]; exact ⟨A.out.base, blk_put A.out.blk 2 _ rfl⟩)
  have D' := Aside0.mk (show Below w.heap.size w W2 by rw [hW2]; exact D.out.setCell A.out.base _)
  clear A D hW2
  have A := A'
  have D := D'
  clear A' D'
  obtain ⟨c0, c1, c2, c3, c4, c5, c6, c7, c8, c9⟩ := A.out.read
  go_upto_region 26 with (first | ((with_reducible refine gate_store (p := 12) rfl ?_); refine wpList_store_row ?hgd_s67 24 (.tmp 12) (.tmp 67) ?ho_s67 g (ten 3 a1 ID s t t s 3 2 1) ?hx_s67 ?hy_s67 ?t_s67 ?old_s67 ?hg_s67 ?hi_s67 ?hold_s67 ?h1_s67 ?_; (case hgd_s67 => rfl); (case ho_s67 => rfl); (case hx_s67 => rfl); (case hy_s67 => rfl); (case hg_s67 => exact A.out.blk); (case hi_s67 => exact size24); (case hold_s67 => rfl); (case h1_s67 => exact ten_one _ _ _ _ _ _ _ _ _ _); have n0_ := Aside0.mk (setRow_below D.out A.out.base (ten 3 a1 ID s t t s 3 2 1)); have n1_ := Aside0.mk (Box.row A.out (ten 3 a1 ID s t t s 3 2 1)); clear D; clear A; have D := n0_; have A := n1_; clear n0_ n1_))
  clear c0 c1 c2 c3 c4 c5 c6 c7 c8 c9
  go_upto_region 28 with (first | ((with_reducible refine gate_dst (N := 82) rfl ?_); refine wpList_load_row ?hgd_82 24 (.tmp 12) ?ho_82 g ?hx_82 ?t_82 ?cs_82 ?fr_82 ?d_82 ?hg_82 ?hu_82 ?hd_82 ?hi_82 ?_; (case hgd_82 => rfl); (case ho_82 => rfl); (case hx_82 => rfl); (case hg_82 => exact A.out.blk); (case hu_82 => exact Tryd.underlying24); (case hd_82 => rfl); (case hi_82 => exact size24)) | ((with_reducible refine gate_dst (N := 83) rfl ?_); (with_reducible refine gate_callee (f := 13) rfl ?_); refine goesL_ (some 83) rfl rfl Tryd.func13 (by kernel_rfl) rfl #[.agg (ten 3 a1 ID s t t s 3 2 1)] rfl (by (try simp only [List.map_toArray, List.map_cons, List.map_nil]); first | done | rfl) ?_; refine (event_Encode.calls 3 a1 ID s t t s 3 2 1 L _ _ (HG.out.below D.out) HE.out).mono ?_; rintro e wz_ ⟨v0, rfl, hR, hb⟩; obtain ⟨q0, k0, rfl, hk0_, hC⟩ := Kd.R_reads hR; refine ⟨_, rfl, ?_⟩; have K0 := Aside0.mk hk0_; clear hk0_; have C0 := Aside0.mk hC; clear hC hR; have n0_ := Aside0.mk (below_step D.out hb); have n1_ := Aside0.mk (A.out.then_ hb); clear D; clear A; have D := n0_; have A := n1_; clear n0_ n1_; clear hb) | ((with_reducible refine gate_dst (N := 88) rfl ?_); (with_reducible refine gate_callee (f := 17) rfl ?_); refine goesL_ (some 88) rfl rfl Tryd.func17 (by kernel_rfl) rfl #[.slice q0 L.length k0] rfl (by (try simp only [List.map_toArray, List.map_cons, List.map_nil]); first | done | rfl) ?_; refine (dec_w q0 k0 L.length L rfl K0.out (HG.out.below D.out) C0.out HD.out).mono ?_; rintro e wz_ ⟨rfl, hb⟩; refine ⟨_, rfl, ?_⟩; have n0_ := Aside0.mk (below_step D.out hb); have n1_ := Aside0.mk (A.out.then_ hb); clear D; clear A; have D := n0_; have A := n1_; clear n0_ n1_; clear hb))
  have F := Aside0.mk (Box.fresh D.out (ten 3 a1 ID s t t s 3 2 1))
  have A' := Aside0.mk (A.out.alloc (.cells (ten 3 a1 ID s t t s 3 2 1) 24))
  have D' := Aside0.mk (below_alloc D.out (.cells (ten 3 a1 ID s t t s 3 2 1) 24))
  clear A D
  have A := A'
  have D := D'
  clear A' D'
  obtain ⟨c0, c1, c2, c3, c4, c5, c6, c7, c8, c9⟩ := A.out.read
  go_wp2_with (fail)
  clear c0 c1 c2 c3 c4 c5 c6 c7 c8 c9
  refine (event_Right.calls 3 a1 ID s t t s 3 2 1 true _ (HG.out.below D.out) HR.out).mono ?_
  rintro e wz2 ⟨rfl, hb⟩
  have A' := Aside0.mk (A.out.then_ hb)
  have F' := Aside0.mk (F.out.then_ hb)
  have D' := Aside0.mk (below_step D.out hb)
  clear A D F hb
  obtain ⟨c0, c1, c2, c3, c4, c5, c6, c7, c8, c9⟩ := A'.out.read
  obtain ⟨d0, d1, d2, d3, d4, d5, d6, d7, d8, d9⟩ := F'.out.read
  go_wp2
  go_ret
  exact ⟨rfl, D'.out⟩
set_option maxHeartbeats 2000000 in
set_option maxRecDepth 100000 in
theorem times_walk4 (a0 a1 a2 : Int) (a3 a4 s t : ByteArray) (n3 n4 : Nat) (I ID X : Int) (L : List Int)
    (hI : Go.bits .and .i64 a0 65535 = I) (hI0 : 0 ≤ I) (hJ : I % 14 = 3)
    (hm3 : (if 4000 < (a3.size : Int) then 4000 else (a3.size : Int)) = (n3 : Int)) (h3 : n3 ≤ a3.size) (hs : a3.extract 0 n3 = s) (hz3 : a3.size ≤ 140737488351232)
    (hm4 : (if 4000 < (a4.size : Int) then 4000 else (a4.size : Int)) = (n4 : Int)) (h4 : n4 ≤ a4.size) (ht : a4.extract 0 n4 = t) (hz4 : a4.size ≤ 140737488351232)
    (hmax : (if a2 < 1 then 1 else a2) = ID) (h20 : 0 ≤ a2) (h21 : a2 < 18446744073709551616) 
    (hE : event_Encode.f 4 a1 ID s t E0 E0 0 0 0 = some (L, 0)) (hD : event_Decode.f L = some (4, a1, ID, s, t, E0, E0, 0, 0, 0, (L.length : Int), 0)) (hR : event_Right.f 4 a1 ID s t E0 E0 0 0 0 = some true) (w : World) (hG : Glob w) :
    Calls Tryd.prog 10 #[.int .i64 a0, .int .u64 a1, .int .u64 a2, .string a3, .string a4] w fun e w' => e = .returned (.bool true) ∧ Below w.heap.size w w' := by
  have HG := Aside0.mk hG
  have HE := Aside0.mk hE
  have HD := Aside0.mk hD
  have HR := Aside0.mk hR
  have D := Aside0.mk (Below.refl w.heap.size w)
  clear hG hE hD hR
  go_enter Tryd.func10, Tryd.ntmps10
  go_upto_region 6 with (first | ((with_reducible refine gate_dst (N := 18) rfl ?_); (with_reducible refine gate_callee (f := 11) rfl ?_); refine goesL_ (some 18) rfl rfl Tryd.func11 (by kernel_rfl) rfl #[] rfl (by (try simp only [List.map_toArray, List.map_cons, List.map_nil]); first | done | rfl) ?_; refine (transeptlaw05_shown.calls true _ (HG.out.below D.out) rfl).mono ?_; rintro e wz_ ⟨rfl, hb⟩; refine ⟨_, rfl, ?_⟩; have n0_ := Aside0.mk (below_step D.out hb); clear D; have D := n0_; clear n0_; clear hb))
  obtain ⟨g, hg⟩ : ∃ g, g = wz_.heap.size := ⟨_, rfl⟩
  obtain ⟨W1, hW1⟩ : ∃ W, W = wz_.alloc (.cells (ten 4 a1 0 E0 E0 E0 E0 0 0 0) 24) := ⟨_, rfl⟩
  rw [← hW1, ← hg]
  have A := Aside0.mk (show Box w W1 g (ten 4 a1 0 E0 E0 E0 E0 0 0 0) by rw [hW1, hg]; exact Box.fresh D.out _)
  have D' := Aside0.mk (show Below w.heap.size w W1 by rw [hW1]; exact below_alloc D.out _)
  clear hW1 hg D hI hI0 hJ hm3 hm4 h3 h4 hs ht
  have D := D'
  clear D'
  obtain ⟨o0, o1, o2, o3, o4, o5, o6, o7, o8, o9⟩ := A.out.free
  obtain ⟨c0, c1, c2, c3, c4, c5, c6, c7, c8, c9⟩ := A.out.read
  go_upto_region 8 with (fail)
  clear o0 o1 o2 o3 o4 o5 o6 o7 o8 o9 c0 c1 c2 c3 c4 c5 c6 c7 c8 c9
  obtain ⟨W2, hW2⟩ : ∃ W, W = W1.setCell ⟨g, 2, none⟩ (.int .u64 ID) := ⟨_, rfl⟩
  rw [← hW2]
  have A' := Aside0.mk (show Box w W2 g (ten 4 a1 ID E0 E0 E0 E0 0 0 0) by rw [hW2]; exact ⟨A.out.base, blk_put A.out.blk 2 _ rfl⟩)
  have D' := Aside0.mk (show Below w.heap.size w W2 by rw [hW2]; exact D.out.setCell A.out.base _)
  clear A D hW2
  have A := A'
  have D := D'
  clear A' D'
  obtain ⟨o0, o1, o2, o3, o4, o5, o6, o7, o8, o9⟩ := A.out.free
  obtain ⟨c0, c1, c2, c3, c4, c5, c6, c7, c8, c9⟩ := A.out.read
  go_upto_region 18 with (fail)
  clear o0 o1 o2 o3 o4 o5 o6 o7 o8 o9 c0 c1 c2 c3 c4 c5 c6 c7 c8 c9
  obtain ⟨W3, hW3⟩ : ∃ W, W = W2.setCell ⟨g, 3, none⟩ (.string s) := ⟨_, rfl⟩
  rw [← hW3]
  have A' := Aside0.mk (show Box w W3 g (ten 4 a1 ID s E0 E0 E0 0 0 0) by rw [hW3]; exact ⟨A.out.base, blk_put A.out.blk 3 _ rfl⟩)
  have D' := Aside0.mk (show Below w.heap.size w W3 by rw [hW3]; exact D.out.setCell A.out.base _)
  clear A D hW3
  have A := A'
  have D := D'
  clear A' D'
  obtain ⟨o0, o1, o2, o3, o4, o5, o6, o7, o8, o9⟩ := A.out.free
  obtain ⟨c0, c1, c2, c3, c4, c5, c6, c7, c8, c9⟩ := A.out.read
  go_upto_region 26 with (fail)
  clear o0 o1 o2 o3 o4 o5 o6 o7 o8 o9 c0 c1 c2 c3 c4 c5 c6 c7 c8 c9
  obtain ⟨W4, hW4⟩ : ∃ W, W = W3.setCell ⟨g, 4, none⟩ (.string t) := ⟨_, rfl⟩
  rw [← hW4]
  have A' := Aside0.mk (show Box w W4 g (ten 4 a1 ID s t E0 E0 0 0 0) by rw [hW4]; exact ⟨A.out.base, blk_put A.out.blk 4 _ rfl⟩)
  have D' := Aside0.mk (show Below w.heap.size w W4 by rw [hW4]; exact D.out.setCell A.out.base _)
  clear A D hW4
  have A := A'
  have D := D'
  clear A' D'
  go_upto_region 28 with (first | ((with_reducible refine gate_dst (N := 82) rfl ?_); refine wpList_load_row ?hgd_82 24 (.tmp 12) ?ho_82 g ?hx_82 ?t_82 ?cs_82 ?fr_82 ?d_82 ?hg_82 ?hu_82 ?hd_82 ?hi_82 ?_; (case hgd_82 => rfl); (case ho_82 => rfl); (case hx_82 => rfl); (case hg_82 => exact A.out.blk); (case hu_82 => exact Tryd.underlying24); (case hd_82 => rfl); (case hi_82 => exact size24)) | ((with_reducible refine gate_dst (N := 83) rfl ?_); (with_reducible refine gate_callee (f := 13) rfl ?_); refine goesL_ (some 83) rfl rfl Tryd.func13 (by kernel_rfl) rfl #[.agg (ten 4 a1 ID s t E0 E0 0 0 0)] rfl (by (try simp only [List.map_toArray, List.map_cons, List.map_nil]); first | done | rfl) ?_; refine (event_Encode.calls 4 a1 ID s t E0 E0 0 0 0 L _ _ (HG.out.below D.out) HE.out).mono ?_; rintro e wz_ ⟨v0, rfl, hR, hb⟩; obtain ⟨q0, k0, rfl, hk0_, hC⟩ := Kd.R_reads hR; refine ⟨_, rfl, ?_⟩; have K0 := Aside0.mk hk0_; clear hk0_; have C0 := Aside0.mk hC; clear hC hR; have n0_ := Aside0.mk (below_step D.out hb); have n1_ := Aside0.mk (A.out.then_ hb); clear D; clear A; have D := n0_; have A := n1_; clear n0_ n1_; clear hb) | ((with_reducible refine gate_dst (N := 88) rfl ?_); (with_reducible refine gate_callee (f := 17) rfl ?_); refine goesL_ (some 88) rfl rfl Tryd.func17 (by kernel_rfl) rfl #[.slice q0 L.length k0] rfl (by (try simp only [List.map_toArray, List.map_cons, List.map_nil]); first | done | rfl) ?_; refine (dec_w q0 k0 L.length L rfl K0.out (HG.out.below D.out) C0.out HD.out).mono ?_; rintro e wz_ ⟨rfl, hb⟩; refine ⟨_, rfl, ?_⟩; have n0_ := Aside0.mk (below_step D.out hb); have n1_ := Aside0.mk (A.out.then_ hb); clear D; clear A; have D := n0_; have A := n1_; clear n0_ n1_; clear hb))
  have F := Aside0.mk (Box.fresh D.out (ten 4 a1 ID s t E0 E0 0 0 0))
  have A' := Aside0.mk (A.out.alloc (.cells (ten 4 a1 ID s t E0 E0 0 0 0) 24))
  have D' := Aside0.mk (below_alloc D.out (.cells (ten 4 a1 ID s t E0 E0 0 0 0) 24))
  clear A D
  have A := A'
  have D := D'
  clear A' D'
  obtain ⟨c0, c1, c2, c3, c4, c5, c6, c7, c8, c9⟩ := A.out.read
  go_wp2_with (fail)
  clear c0 c1 c2 c3 c4 c5 c6 c7 c8 c9
  refine (event_Right.calls 4 a1 ID s t E0 E0 0 0 0 true _ (HG.out.below D.out) HR.out).mono ?_
  rintro e wz2 ⟨rfl, hb⟩
  have A' := Aside0.mk (A.out.then_ hb)
  have F' := Aside0.mk (F.out.then_ hb)
  have D' := Aside0.mk (below_step D.out hb)
  clear A D F hb
  obtain ⟨c0, c1, c2, c3, c4, c5, c6, c7, c8, c9⟩ := A'.out.read
  obtain ⟨d0, d1, d2, d3, d4, d5, d6, d7, d8, d9⟩ := F'.out.read
  go_wp2
  go_ret
  exact ⟨rfl, D'.out⟩
set_option maxHeartbeats 2000000 in
set_option maxRecDepth 100000 in
theorem times_walk5 (a0 a1 a2 : Int) (a3 a4 s t : ByteArray) (n3 n4 : Nat) (I ID X : Int) (L : List Int)
    (hI : Go.bits .and .i64 a0 65535 = I) (hI0 : 0 ≤ I) (hJ : I % 14 = 4)
    (hm3 : (if 4000 < (a3.size : Int) then 4000 else (a3.size : Int)) = (n3 : Int)) (h3 : n3 ≤ a3.size) (hs : a3.extract 0 n3 = s) (hz3 : a3.size ≤ 140737488351232)
    (hm4 : (if 4000 < (a4.size : Int) then 4000 else (a4.size : Int)) = (n4 : Int)) (h4 : n4 ≤ a4.size) (ht : a4.extract 0 n4 = t) (hz4 : a4.size ≤ 140737488351232)
    (hmax : (if a2 < 1 then 1 else a2) = ID) (h20 : 0 ≤ a2) (h21 : a2 < 18446744073709551616) 
    (hE : event_Encode.f 5 a1 ID E0 E0 E0 E0 0 0 0 = some (L, 0)) (hD : event_Decode.f L = some (5, a1, ID, E0, E0, E0, E0, 0, 0, 0, (L.length : Int), 0)) (hR : event_Right.f 5 a1 ID E0 E0 E0 E0 0 0 0 = some true) (w : World) (hG : Glob w) :
    Calls Tryd.prog 10 #[.int .i64 a0, .int .u64 a1, .int .u64 a2, .string a3, .string a4] w fun e w' => e = .returned (.bool true) ∧ Below w.heap.size w w' := by
  have HG := Aside0.mk hG
  have HE := Aside0.mk hE
  have HD := Aside0.mk hD
  have HR := Aside0.mk hR
  have D := Aside0.mk (Below.refl w.heap.size w)
  clear hG hE hD hR
  go_enter Tryd.func10, Tryd.ntmps10
  go_upto_region 6 with (first | ((with_reducible refine gate_dst (N := 18) rfl ?_); (with_reducible refine gate_callee (f := 11) rfl ?_); refine goesL_ (some 18) rfl rfl Tryd.func11 (by kernel_rfl) rfl #[] rfl (by (try simp only [List.map_toArray, List.map_cons, List.map_nil]); first | done | rfl) ?_; refine (transeptlaw05_shown.calls true _ (HG.out.below D.out) rfl).mono ?_; rintro e wz_ ⟨rfl, hb⟩; refine ⟨_, rfl, ?_⟩; have n0_ := Aside0.mk (below_step D.out hb); clear D; have D := n0_; clear n0_; clear hb))
  obtain ⟨g, hg⟩ : ∃ g, g = wz_.heap.size := ⟨_, rfl⟩
  obtain ⟨W1, hW1⟩ : ∃ W, W = wz_.alloc (.cells (ten 5 a1 0 E0 E0 E0 E0 0 0 0) 24) := ⟨_, rfl⟩
  rw [← hW1, ← hg]
  have A := Aside0.mk (show Box w W1 g (ten 5 a1 0 E0 E0 E0 E0 0 0 0) by rw [hW1, hg]; exact Box.fresh D.out _)
  have D' := Aside0.mk (show Below w.heap.size w W1 by rw [hW1]; exact below_alloc D.out _)
  clear hW1 hg D hI hI0 hJ hm3 hm4 h3 h4 hs ht
  have D := D'
  clear D'
  obtain ⟨o0, o1, o2, o3, o4, o5, o6, o7, o8, o9⟩ := A.out.free
  obtain ⟨c0, c1, c2, c3, c4, c5, c6, c7, c8, c9⟩ := A.out.read
  go_upto_region 8 with (fail)
  clear o0 o1 o2 o3 o4 o5 o6 o7 o8 o9 c0 c1 c2 c3 c4 c5 c6 c7 c8 c9
  obtain ⟨W2, hW2⟩ : ∃ W, W = W1.setCell ⟨g, 2, none⟩ (.int .u64 ID) := ⟨_, rfl⟩
  rw [← hW2]
  have A' := Aside0.mk (show Box w W2 g (ten 5 a1 ID E0 E0 E0 E0 0 0 0) by rw [hW2]; exact ⟨A.out.base, blk_put A.out.blk 2 _ rfl⟩)
  have D' := Aside0.mk (show Below w.heap.size w W2 by rw [hW2]; exact D.out.setCell A.out.base _)
  clear A D hW2
  have A := A'
  have D := D'
  clear A' D'
  go_upto_region 26 with (fail)
  go_upto_region 28 with (first | ((with_reducible refine gate_dst (N := 82) rfl ?_); refine wpList_load_row ?hgd_82 24 (.tmp 12) ?ho_82 g ?hx_82 ?t_82 ?cs_82 ?fr_82 ?d_82 ?hg_82 ?hu_82 ?hd_82 ?hi_82 ?_; (case hgd_82 => rfl); (case ho_82 => rfl); (case hx_82 => rfl); (case hg_82 => exact A.out.blk); (case hu_82 => exact Tryd.underlying24); (case hd_82 => rfl); (case hi_82 => exact size24)) | ((with_reducible refine gate_dst (N := 83) rfl ?_); (with_reducible refine gate_callee (f := 13) rfl ?_); refine goesL_ (some 83) rfl rfl Tryd.func13 (by kernel_rfl) rfl #[.agg (ten 5 a1 ID E0 E0 E0 E0 0 0 0)] rfl (by (try simp only [List.map_toArray, List.map_cons, List.map_nil]); first | done | rfl) ?_; refine (event_Encode.calls 5 a1 ID E0 E0 E0 E0 0 0 0 L _ _ (HG.out.below D.out) HE.out).mono ?_; rintro e wz_ ⟨v0, rfl, hR, hb⟩; obtain ⟨q0, k0, rfl, hk0_, hC⟩ := Kd.R_reads hR; refine ⟨_, rfl, ?_⟩; have K0 := Aside0.mk hk0_; clear hk0_; have C0 := Aside0.mk hC; clear hC hR; have n0_ := Aside0.mk (below_step D.out hb); have n1_ := Aside0.mk (A.out.then_ hb); clear D; clear A; have D := n0_; have A := n1_; clear n0_ n1_; clear hb) | ((with_reducible refine gate_dst (N := 88) rfl ?_); (with_reducible refine gate_callee (f := 17) rfl ?_); refine goesL_ (some 88) rfl rfl Tryd.func17 (by kernel_rfl) rfl #[.slice q0 L.length k0] rfl (by (try simp only [List.map_toArray, List.map_cons, List.map_nil]); first | done | rfl) ?_; refine (dec_w q0 k0 L.length L rfl K0.out (HG.out.below D.out) C0.out HD.out).mono ?_; rintro e wz_ ⟨rfl, hb⟩; refine ⟨_, rfl, ?_⟩; have n0_ := Aside0.mk (below_step D.out hb); have n1_ := Aside0.mk (A.out.then_ hb); clear D; clear A; have D := n0_; have A := n1_; clear n0_ n1_; clear hb))
  have F := Aside0.mk (Box.fresh D.out (ten 5 a1 ID E0 E0 E0 E0 0 0 0))
  have A' := Aside0.mk (A.out.alloc (.cells (ten 5 a1 ID E0 E0 E0 E0 0 0 0) 24))
  have D' := Aside0.mk (below_alloc D.out (.cells (ten 5 a1 ID E0 E0 E0 E0 0 0 0) 24))
  clear A D
  have A := A'
  have D := D'
  clear A' D'
  obtain ⟨c0, c1, c2, c3, c4, c5, c6, c7, c8, c9⟩ := A.out.read
  go_wp2_with (fail)
  clear c0 c1 c2 c3 c4 c5 c6 c7 c8 c9
  refine (event_Right.calls 5 a1 ID E0 E0 E0 E0 0 0 0 true _ (HG.out.below D.out) HR.out).mono ?_
  rintro e wz2 ⟨rfl, hb⟩
  have A' := Aside0.mk (A.out.then_ hb)
  have F' := Aside0.mk (F.out.then_ hb)
  have D' := Aside0.mk (below_step D.out hb)
  clear A D F hb
  obtain ⟨c0, c1, c2, c3, c4, c5, c6, c7, c8, c9⟩ := A'.out.read
  obtain ⟨d0, d1, d2, d3, d4, d5, d6, d7, d8, d9⟩ := F'.out.read
  go_wp2
  go_ret
  exact ⟨rfl, D'.out⟩
set_option maxHeartbeats 2000000 in
set_option maxRecDepth 100000 in
theorem times_walk6 (a0 a1 a2 : Int) (a3 a4 s t : ByteArray) (n3 n4 : Nat) (I ID X : Int) (L : List Int)
    (hI : Go.bits .and .i64 a0 65535 = I) (hI0 : 0 ≤ I) (hJ : I % 14 = 5)
    (hm3 : (if 4000 < (a3.size : Int) then 4000 else (a3.size : Int)) = (n3 : Int)) (h3 : n3 ≤ a3.size) (hs : a3.extract 0 n3 = s) (hz3 : a3.size ≤ 140737488351232)
    (hm4 : (if 4000 < (a4.size : Int) then 4000 else (a4.size : Int)) = (n4 : Int)) (h4 : n4 ≤ a4.size) (ht : a4.extract 0 n4 = t) (hz4 : a4.size ≤ 140737488351232)
    (hmax : (if a2 < 1 then 1 else a2) = ID) (h20 : 0 ≤ a2) (h21 : a2 < 18446744073709551616) 
    (hE : event_Encode.f 6 a1 ID s t E0 E0 0 0 0 = some (L, 0)) (hD : event_Decode.f L = some (6, a1, ID, s, t, E0, E0, 0, 0, 0, (L.length : Int), 0)) (hR : event_Right.f 6 a1 ID s t E0 E0 0 0 0 = some true) (w : World) (hG : Glob w) :
    Calls Tryd.prog 10 #[.int .i64 a0, .int .u64 a1, .int .u64 a2, .string a3, .string a4] w fun e w' => e = .returned (.bool true) ∧ Below w.heap.size w w' := by
  have HG := Aside0.mk hG
  have HE := Aside0.mk hE
  have HD := Aside0.mk hD
  have HR := Aside0.mk hR
  have D := Aside0.mk (Below.refl w.heap.size w)
  clear hG hE hD hR
  go_enter Tryd.func10, Tryd.ntmps10
  go_upto_region 6 with (first | ((with_reducible refine gate_dst (N := 18) rfl ?_); (with_reducible refine gate_callee (f := 11) rfl ?_); refine goesL_ (some 18) rfl rfl Tryd.func11 (by kernel_rfl) rfl #[] rfl (by (try simp only [List.map_toArray, List.map_cons, List.map_nil]); first | done | rfl) ?_; refine (transeptlaw05_shown.calls true _ (HG.out.below D.out) rfl).mono ?_; rintro e wz_ ⟨rfl, hb⟩; refine ⟨_, rfl, ?_⟩; have n0_ := Aside0.mk (below_step D.out hb); clear D; have D := n0_; clear n0_; clear hb))
  obtain ⟨g, hg⟩ : ∃ g, g = wz_.heap.size := ⟨_, rfl⟩
  obtain ⟨W1, hW1⟩ : ∃ W, W = wz_.alloc (.cells (ten 6 a1 0 E0 E0 E0 E0 0 0 0) 24) := ⟨_, rfl⟩
  rw [← hW1, ← hg]
  have A := Aside0.mk (show Box w W1 g (ten 6 a1 0 E0 E0 E0 E0 0 0 0) by rw [hW1, hg]; exact Box.fresh D.out _)
  have D' := Aside0.mk (show Below w.heap.size w W1 by rw [hW1]; exact below_alloc D.out _)
  clear hW1 hg D hI hI0 hJ hm3 hm4 h3 h4 hs ht
  have D := D'
  clear D'
  obtain ⟨o0, o1, o2, o3, o4, o5, o6, o7, o8, o9⟩ := A.out.free
  obtain ⟨c0, c1, c2, c3, c4, c5, c6, c7, c8, c9⟩ := A.out.read
  go_upto_region 8 with (fail)
  clear o0 o1 o2 o3 o4 o5 o6 o7 o8 o9 c0 c1 c2 c3 c4 c5 c6 c7 c8 c9
  obtain ⟨W2, hW2⟩ : ∃ W, W = W1.setCell ⟨g, 2, none⟩ (.int .u64 ID) := ⟨_, rfl⟩
  rw [← hW2]
  have A' := Aside0.mk (show Box w W2 g (ten 6 a1 ID E0 E0 E0 E0 0 0 0) by rw [hW2]; exact ⟨A.out.base, blk_put A.out.blk 2 _ rfl⟩)
  have D' := Aside0.mk (show Below w.heap.size w W2 by rw [hW2]; exact D.out.setCell A.out.base _)
  clear A D hW2
  have A := A'
  have D := D'
  clear A' D'
  obtain ⟨o0, o1, o2, o3, o4, o5, o6, o7, o8, o9⟩ := A.out.free
  obtain ⟨c0, c1, c2, c3, c4, c5, c6, c7, c8, c9⟩ := A.out.read
  go_upto_region 18 with (fail)
  clear o0 o1 o2 o3 o4 o5 o6 o7 o8 o9 c0 c1 c2 c3 c4 c5 c6 c7 c8 c9
  obtain ⟨W3, hW3⟩ : ∃ W, W = W2.setCell ⟨g, 3, none⟩ (.string s) := ⟨_, rfl⟩
  rw [← hW3]
  have A' := Aside0.mk (show Box w W3 g (ten 6 a1 ID s E0 E0 E0 0 0 0) by rw [hW3]; exact ⟨A.out.base, blk_put A.out.blk 3 _ rfl⟩)
  have D' := Aside0.mk (show Below w.heap.size w W3 by rw [hW3]; exact D.out.setCell A.out.base _)
  clear A D hW3
  have A := A'
  have D := D'
  clear A' D'
  obtain ⟨o0, o1, o2, o3, o4, o5, o6, o7, o8, o9⟩ := A.out.free
  obtain ⟨c0, c1, c2, c3, c4, c5, c6, c7, c8, c9⟩ := A.out.read
  go_upto_region 26 with (fail)
  clear o0 o1 o2 o3 o4 o5 o6 o7 o8 o9 c0 c1 c2 c3 c4 c5 c6 c7 c8 c9
  obtain ⟨W4, hW4⟩ : ∃ W, W = W3.setCell ⟨g, 4, none⟩ (.string t) := ⟨_, rfl⟩
  rw [← hW4]
  have A' := Aside0.mk (show Box w W4 g (ten 6 a1 ID s t E0 E0 0 0 0) by rw [hW4]; exact ⟨A.out.base, blk_put A.out.blk 4 _ rfl⟩)
  have D' := Aside0.mk (show Below w.heap.size w W4 by rw [hW4]; exact D.out.setCell A.out.base _)
  clear A D hW4
  have A := A'
  have D := D'
  clear A' D'
  go_upto_region 28 with (first | ((with_reducible refine gate_dst (N := 82) rfl ?_); refine wpList_load_row ?hgd_82 24 (.tmp 12) ?ho_82 g ?hx_82 ?t_82 ?cs_82 ?fr_82 ?d_82 ?hg_82 ?hu_82 ?hd_82 ?hi_82 ?_; (case hgd_82 => rfl); (case ho_82 => rfl); (case hx_82 => rfl); (case hg_82 => exact A.out.blk); (case hu_82 => exact Tryd.underlying24); (case hd_82 => rfl); (case hi_82 => exact size24)) | ((with_reducible refine gate_dst (N := 83) rfl ?_); (with_reducible refine gate_callee (f := 13) rfl ?_); refine goesL_ (some 83) rfl rfl Tryd.func13 (by kernel_rfl) rfl #[.agg (ten 6 a1 ID s t E0 E0 0 0 0)] rfl (by (try simp only [List.map_toArray, List.map_cons, List.map_nil]); first | done | rfl) ?_; refine (event_Encode.calls 6 a1 ID s t E0 E0 0 0 0 L _ _ (HG.out.below D.out) HE.out).mono ?_; rintro e wz_ ⟨v0, rfl, hR, hb⟩; obtain ⟨q0, k0, rfl, hk0_, hC⟩ := Kd.R_reads hR; refine ⟨_, rfl, ?_⟩; have K0 := Aside0.mk hk0_; clear hk0_; have C0 := Aside0.mk hC; clear hC hR; have n0_ := Aside0.mk (below_step D.out hb); have n1_ := Aside0.mk (A.out.then_ hb); clear D; clear A; have D := n0_; have A := n1_; clear n0_ n1_; clear hb) | ((with_reducible refine gate_dst (N := 88) rfl ?_); (with_reducible refine gate_callee (f := 17) rfl ?_); refine goesL_ (some 88) rfl rfl Tryd.func17 (by kernel_rfl) rfl #[.slice q0 L.length k0] rfl (by (try simp only [List.map_toArray, List.map_cons, List.map_nil]); first | done | rfl) ?_; refine (dec_w q0 k0 L.length L rfl K0.out (HG.out.below D.out) C0.out HD.out).mono ?_; rintro e wz_ ⟨rfl, hb⟩; refine ⟨_, rfl, ?_⟩; have n0_ := Aside0.mk (below_step D.out hb); have n1_ := Aside0.mk (A.out.then_ hb); clear D; clear A; have D := n0_; have A := n1_; clear n0_ n1_; clear hb))
  have F := Aside0.mk (Box.fresh D.out (ten 6 a1 ID s t E0 E0 0 0 0))
  have A' := Aside0.mk (A.out.alloc (.cells (ten 6 a1 ID s t E0 E0 0 0 0) 24))
  have D' := Aside0.mk (below_alloc D.out (.cells (ten 6 a1 ID s t E0 E0 0 0 0) 24))
  clear A D
  have A := A'
  have D := D'
  clear A' D'
  obtain ⟨c0, c1, c2, c3, c4, c5, c6, c7, c8, c9⟩ := A.out.read
  go_wp2_with (fail)
  clear c0 c1 c2 c3 c4 c5 c6 c7 c8 c9
  refine (event_Right.calls 6 a1 ID s t E0 E0 0 0 0 true _ (HG.out.below D.out) HR.out).mono ?_
  rintro e wz2 ⟨rfl, hb⟩
  have A' := Aside0.mk (A.out.then_ hb)
  have F' := Aside0.mk (F.out.then_ hb)
  have D' := Aside0.mk (below_step D.out hb)
  clear A D F hb
  obtain ⟨c0, c1, c2, c3, c4, c5, c6, c7, c8, c9⟩ := A'.out.read
  obtain ⟨d0, d1, d2, d3, d4, d5, d6, d7, d8, d9⟩ := F'.out.read
  go_wp2
  go_ret
  exact ⟨rfl, D'.out⟩
set_option maxHeartbeats 2000000 in
set_option maxRecDepth 100000 in
theorem times_walk7 (a0 a1 a2 : Int) (a3 a4 s t : ByteArray) (n3 n4 : Nat) (I ID X : Int) (L : List Int)
    (hI : Go.bits .and .i64 a0 65535 = I) (hI0 : 0 ≤ I) (hJ : I % 14 = 6)
    (hm3 : (if 4000 < (a3.size : Int) then 4000 else (a3.size : Int)) = (n3 : Int)) (h3 : n3 ≤ a3.size) (hs : a3.extract 0 n3 = s) (hz3 : a3.size ≤ 140737488351232)
    (hm4 : (if 4000 < (a4.size : Int) then 4000 else (a4.size : Int)) = (n4 : Int)) (h4 : n4 ≤ a4.size) (ht : a4.extract 0 n4 = t) (hz4 : a4.size ≤ 140737488351232)
    (hmax : (if a2 < 1 then 1 else a2) = ID) (h20 : 0 ≤ a2) (h21 : a2 < 18446744073709551616) (hX : a2 % 1000 = X)
    (hE : event_Encode.f 7 a1 ID E0 E0 E0 E0 X 0 0 = some (L, 0)) (hD : event_Decode.f L = some (7, a1, ID, E0, E0, E0, E0, X, 0, 0, (L.length : Int), 0)) (hR : event_Right.f 7 a1 ID E0 E0 E0 E0 X 0 0 = some true) (w : World) (hG : Glob w) :
    Calls Tryd.prog 10 #[.int .i64 a0, .int .u64 a1, .int .u64 a2, .string a3, .string a4] w fun e w' => e = .returned (.bool true) ∧ Below w.heap.size w w' := by
  have HG := Aside0.mk hG
  have HE := Aside0.mk hE
  have HD := Aside0.mk hD
  have HR := Aside0.mk hR
  have D := Aside0.mk (Below.refl w.heap.size w)
  clear hG hE hD hR
  go_enter Tryd.func10, Tryd.ntmps10
  go_upto_region 6 with (first | ((with_reducible refine gate_dst (N := 18) rfl ?_); (with_reducible refine gate_callee (f := 11) rfl ?_); refine goesL_ (some 18) rfl rfl Tryd.func11 (by kernel_rfl) rfl #[] rfl (by (try simp only [List.map_toArray, List.map_cons, List.map_nil]); first | done | rfl) ?_; refine (transeptlaw05_shown.calls true _ (HG.out.below D.out) rfl).mono ?_; rintro e wz_ ⟨rfl, hb⟩; refine ⟨_, rfl, ?_⟩; have n0_ := Aside0.mk (below_step D.out hb); clear D; have D := n0_; clear n0_; clear hb))
  obtain ⟨g, hg⟩ : ∃ g, g = wz_.heap.size := ⟨_, rfl⟩
  obtain ⟨W1, hW1⟩ : ∃ W, W = wz_.alloc (.cells (ten 7 a1 0 E0 E0 E0 E0 0 0 0) 24) := ⟨_, rfl⟩
  rw [← hW1, ← hg]
  have A := Aside0.mk (show Box w W1 g (ten 7 a1 0 E0 E0 E0 E0 0 0 0) by rw [hW1, hg]; exact Box.fresh D.out _)
  have D' := Aside0.mk (show Below w.heap.size w W1 by rw [hW1]; exact below_alloc D.out _)
  clear hW1 hg D hI hI0 hJ hm3 hm4 h3 h4 hs ht
  have D := D'
  clear D'
  obtain ⟨o0, o1, o2, o3, o4, o5, o6, o7, o8, o9⟩ := A.out.free
  obtain ⟨c0, c1, c2, c3, c4, c5, c6, c7, c8, c9⟩ := A.out.read
  go_upto_region 8 with (fail)
  clear o0 o1 o2 o3 o4 o5 o6 o7 o8 o9 c0 c1 c2 c3 c4 c5 c6 c7 c8 c9
  obtain ⟨W2, hW2⟩ : ∃ W, W = W1.setCell ⟨g, 2, none⟩ (.int .u64 ID) := ⟨_, rfl⟩
  rw [← hW2]
  have A' := Aside0.mk (show Box w W2 g (ten 7 a1 ID E0 E0 E0 E0 0 0 0) by rw [hW2]; exact ⟨A.out.base, blk_put A.out.blk 2 _ rfl⟩)
  have D' := Aside0.mk (show Below w.heap.size w W2 by rw [hW2]; exact D.out.setCell A.out.base _)
  clear A D hW2
  have A := A'
  have D := D'
  clear A' D'
  obtain ⟨o0, o1, o2, o3, o4, o5, o6, o7, o8, o9⟩ := A.out.free
  obtain ⟨c0, c1, c2, c3, c4, c5, c6, c7, c8, c9⟩ := A.out.read
  go_upto_region 26 with (fail)
  clear o0 o1 o2 o3 o4 o5 o6 o7 o8 o9 c0 c1 c2 c3 c4 c5 c6 c7 c8 c9
  obtain ⟨W3, hW3⟩ : ∃ W, W = W2.setCell ⟨g, 7, none⟩ (.int .i64 X) := ⟨_, rfl⟩
  rw [← hW3]
  have A' := Aside0.mk (show Box w W3 g (ten 7 a1 ID E0 E0 E0 E0 X 0 0) by rw [hW3]; exact ⟨A.out.base, blk_put A.out.blk 7 _ rfl⟩)
  have D' := Aside0.mk (show Below w.heap.size w W3 by rw [hW3]; exact D.out.setCell A.out.base _)
  clear A D hW3
  have A := A'
  have D := D'
  clear A' D'
  go_upto_region 28 with (first | ((with_reducible refine gate_dst (N := 82) rfl ?_); refine wpList_load_row ?hgd_82 24 (.tmp 12) ?ho_82 g ?hx_82 ?t_82 ?cs_82 ?fr_82 ?d_82 ?hg_82 ?hu_82 ?hd_82 ?hi_82 ?_; (case hgd_82 => rfl); (case ho_82 => rfl); (case hx_82 => rfl); (case hg_82 => exact A.out.blk); (case hu_82 => exact Tryd.underlying24); (case hd_82 => rfl); (case hi_82 => exact size24)) | ((with_reducible refine gate_dst (N := 83) rfl ?_); (with_reducible refine gate_callee (f := 13) rfl ?_); refine goesL_ (some 83) rfl rfl Tryd.func13 (by kernel_rfl) rfl #[.agg (ten 7 a1 ID E0 E0 E0 E0 X 0 0)] rfl (by (try simp only [List.map_toArray, List.map_cons, List.map_nil]); first | done | rfl) ?_; refine (event_Encode.calls 7 a1 ID E0 E0 E0 E0 X 0 0 L _ _ (HG.out.below D.out) HE.out).mono ?_; rintro e wz_ ⟨v0, rfl, hR, hb⟩; obtain ⟨q0, k0, rfl, hk0_, hC⟩ := Kd.R_reads hR; refine ⟨_, rfl, ?_⟩; have K0 := Aside0.mk hk0_; clear hk0_; have C0 := Aside0.mk hC; clear hC hR; have n0_ := Aside0.mk (below_step D.out hb); have n1_ := Aside0.mk (A.out.then_ hb); clear D; clear A; have D := n0_; have A := n1_; clear n0_ n1_; clear hb) | ((with_reducible refine gate_dst (N := 88) rfl ?_); (with_reducible refine gate_callee (f := 17) rfl ?_); refine goesL_ (some 88) rfl rfl Tryd.func17 (by kernel_rfl) rfl #[.slice q0 L.length k0] rfl (by (try simp only [List.map_toArray, List.map_cons, List.map_nil]); first | done | rfl) ?_; refine (dec_w q0 k0 L.length L rfl K0.out (HG.out.below D.out) C0.out HD.out).mono ?_; rintro e wz_ ⟨rfl, hb⟩; refine ⟨_, rfl, ?_⟩; have n0_ := Aside0.mk (below_step D.out hb); have n1_ := Aside0.mk (A.out.then_ hb); clear D; clear A; have D := n0_; have A := n1_; clear n0_ n1_; clear hb))
  have F := Aside0.mk (Box.fresh D.out (ten 7 a1 ID E0 E0 E0 E0 X 0 0))
  have A' := Aside0.mk (A.out.alloc (.cells (ten 7 a1 ID E0 E0 E0 E0 X 0 0) 24))
  have D' := Aside0.mk (below_alloc D.out (.cells (ten 7 a1 ID E0 E0 E0 E0 X 0 0) 24))
  clear A D
  have A := A'
  have D := D'
  clear A' D'
  obtain ⟨c0, c1, c2, c3, c4, c5, c6, c7, c8, c9⟩ := A.out.read
  go_wp2_with (fail)
  clear c0 c1 c2 c3 c4 c5 c6 c7 c8 c9
  refine (event_Right.calls 7 a1 ID E0 E0 E0 E0 X 0 0 true _ (HG.out.below D.out) HR.out).mono ?_
  rintro e wz2 ⟨rfl, hb⟩
  have A' := Aside0.mk (A.out.then_ hb)
  have F' := Aside0.mk (F.out.then_ hb)
  have D' := Aside0.mk (below_step D.out hb)
  clear A D F hb
  obtain ⟨c0, c1, c2, c3, c4, c5, c6, c7, c8, c9⟩ := A'.out.read
  obtain ⟨d0, d1, d2, d3, d4, d5, d6, d7, d8, d9⟩ := F'.out.read
  go_wp2
  go_ret
  exact ⟨rfl, D'.out⟩
set_option maxHeartbeats 2000000 in
set_option maxRecDepth 100000 in
theorem times_walk8 (a0 a1 a2 : Int) (a3 a4 s t : ByteArray) (n3 n4 : Nat) (I ID X : Int) (L : List Int)
    (hI : Go.bits .and .i64 a0 65535 = I) (hI0 : 0 ≤ I) (hJ : I % 14 = 7)
    (hm3 : (if 4000 < (a3.size : Int) then 4000 else (a3.size : Int)) = (n3 : Int)) (h3 : n3 ≤ a3.size) (hs : a3.extract 0 n3 = s) (hz3 : a3.size ≤ 140737488351232)
    (hm4 : (if 4000 < (a4.size : Int) then 4000 else (a4.size : Int)) = (n4 : Int)) (h4 : n4 ≤ a4.size) (ht : a4.extract 0 n4 = t) (hz4 : a4.size ≤ 140737488351232)
    (hmax : (if a2 < 1 then 1 else a2) = ID) (h20 : 0 ≤ a2) (h21 : a2 < 18446744073709551616) 
    (hE : event_Encode.f 8 a1 ID E0 E0 E0 E0 0 0 0 = some (L, 0)) (hD : event_Decode.f L = some (8, a1, ID, E0, E0, E0, E0, 0, 0, 0, (L.length : Int), 0)) (hR : event_Right.f 8 a1 ID E0 E0 E0 E0 0 0 0 = some true) (w : World) (hG : Glob w) :
    Calls Tryd.prog 10 #[.int .i64 a0, .int .u64 a1, .int .u64 a2, .string a3, .string a4] w fun e w' => e = .returned (.bool true) ∧ Below w.heap.size w w' := by
  have HG := Aside0.mk hG
  have HE := Aside0.mk hE
  have HD := Aside0.mk hD
  have HR := Aside0.mk hR
  have D := Aside0.mk (Below.refl w.heap.size w)
  clear hG hE hD hR
  go_enter Tryd.func10, Tryd.ntmps10
  go_upto_region 6 with (first | ((with_reducible refine gate_dst (N := 18) rfl ?_); (with_reducible refine gate_callee (f := 11) rfl ?_); refine goesL_ (some 18) rfl rfl Tryd.func11 (by kernel_rfl) rfl #[] rfl (by (try simp only [List.map_toArray, List.map_cons, List.map_nil]); first | done | rfl) ?_; refine (transeptlaw05_shown.calls true _ (HG.out.below D.out) rfl).mono ?_; rintro e wz_ ⟨rfl, hb⟩; refine ⟨_, rfl, ?_⟩; have n0_ := Aside0.mk (below_step D.out hb); clear D; have D := n0_; clear n0_; clear hb))
  obtain ⟨g, hg⟩ : ∃ g, g = wz_.heap.size := ⟨_, rfl⟩
  obtain ⟨W1, hW1⟩ : ∃ W, W = wz_.alloc (.cells (ten 8 a1 0 E0 E0 E0 E0 0 0 0) 24) := ⟨_, rfl⟩
  rw [← hW1, ← hg]
  have A := Aside0.mk (show Box w W1 g (ten 8 a1 0 E0 E0 E0 E0 0 0 0) by rw [hW1, hg]; exact Box.fresh D.out _)
  have D' := Aside0.mk (show Below w.heap.size w W1 by rw [hW1]; exact below_alloc D.out _)
  clear hW1 hg D hI hI0 hJ hm3 hm4 h3 h4 hs ht
  have D := D'
  clear D'
  obtain ⟨o0, o1, o2, o3, o4, o5, o6, o7, o8, o9⟩ := A.out.free
  obtain ⟨c0, c1, c2, c3, c4, c5, c6, c7, c8, c9⟩ := A.out.read
  go_upto_region 8 with (fail)
  clear o0 o1 o2 o3 o4 o5 o6 o7 o8 o9 c0 c1 c2 c3 c4 c5 c6 c7 c8 c9
  obtain ⟨W2, hW2⟩ : ∃ W, W = W1.setCell ⟨g, 2, none⟩ (.int .u64 ID) := ⟨_, rfl⟩
  rw [← hW2]
  have A' := Aside0.mk (show Box w W2 g (ten 8 a1 ID E0 E0 E0 E0 0 0 0) by rw [hW2]; exact ⟨A.out.base, blk_put A.out.blk 2 _ rfl⟩)
  have D' := Aside0.mk (show Below w.heap.size w W2 by rw [hW2]; exact D.out.setCell A.out.base _)
  clear A D hW2
  have A := A'
  have D := D'
  clear A' D'
  go_upto_region 26 with (fail)
  go_upto_region 28 with (first | ((with_reducible refine gate_dst (N := 82) rfl ?_); refine wpList_load_row ?hgd_82 24 (.tmp 12) ?ho_82 g ?hx_82 ?t_82 ?cs_82 ?fr_82 ?d_82 ?hg_82 ?hu_82 ?hd_82 ?hi_82 ?_; (case hgd_82 => rfl); (case ho_82 => rfl); (case hx_82 => rfl); (case hg_82 => exact A.out.blk); (case hu_82 => exact Tryd.underlying24); (case hd_82 => rfl); (case hi_82 => exact size24)) | ((with_reducible refine gate_dst (N := 83) rfl ?_); (with_reducible refine gate_callee (f := 13) rfl ?_); refine goesL_ (some 83) rfl rfl Tryd.func13 (by kernel_rfl) rfl #[.agg (ten 8 a1 ID E0 E0 E0 E0 0 0 0)] rfl (by (try simp only [List.map_toArray, List.map_cons, List.map_nil]); first | done | rfl) ?_; refine (event_Encode.calls 8 a1 ID E0 E0 E0 E0 0 0 0 L _ _ (HG.out.below D.out) HE.out).mono ?_; rintro e wz_ ⟨v0, rfl, hR, hb⟩; obtain ⟨q0, k0, rfl, hk0_, hC⟩ := Kd.R_reads hR; refine ⟨_, rfl, ?_⟩; have K0 := Aside0.mk hk0_; clear hk0_; have C0 := Aside0.mk hC; clear hC hR; have n0_ := Aside0.mk (below_step D.out hb); have n1_ := Aside0.mk (A.out.then_ hb); clear D; clear A; have D := n0_; have A := n1_; clear n0_ n1_; clear hb) | ((with_reducible refine gate_dst (N := 88) rfl ?_); (with_reducible refine gate_callee (f := 17) rfl ?_); refine goesL_ (some 88) rfl rfl Tryd.func17 (by kernel_rfl) rfl #[.slice q0 L.length k0] rfl (by (try simp only [List.map_toArray, List.map_cons, List.map_nil]); first | done | rfl) ?_; refine (dec_w q0 k0 L.length L rfl K0.out (HG.out.below D.out) C0.out HD.out).mono ?_; rintro e wz_ ⟨rfl, hb⟩; refine ⟨_, rfl, ?_⟩; have n0_ := Aside0.mk (below_step D.out hb); have n1_ := Aside0.mk (A.out.then_ hb); clear D; clear A; have D := n0_; have A := n1_; clear n0_ n1_; clear hb))
  have F := Aside0.mk (Box.fresh D.out (ten 8 a1 ID E0 E0 E0 E0 0 0 0))
  have A' := Aside0.mk (A.out.alloc (.cells (ten 8 a1 ID E0 E0 E0 E0 0 0 0) 24))
  have D' := Aside0.mk (below_alloc D.out (.cells (ten 8 a1 ID E0 E0 E0 E0 0 0 0) 24))
  clear A D
  have A := A'
  have D := D'
  clear A' D'
  obtain ⟨c0, c1, c2, c3, c4, c5, c6, c7, c8, c9⟩ := A.out.read
  go_wp2_with (fail)
  clear c0 c1 c2 c3 c4 c5 c6 c7 c8 c9
  refine (event_Right.calls 8 a1 ID E0 E0 E0 E0 0 0 0 true _ (HG.out.below D.out) HR.out).mono ?_
  rintro e wz2 ⟨rfl, hb⟩
  have A' := Aside0.mk (A.out.then_ hb)
  have F' := Aside0.mk (F.out.then_ hb)
  have D' := Aside0.mk (below_step D.out hb)
  clear A D F hb
  obtain ⟨c0, c1, c2, c3, c4, c5, c6, c7, c8, c9⟩ := A'.out.read
  obtain ⟨d0, d1, d2, d3, d4, d5, d6, d7, d8, d9⟩ := F'.out.read
  go_wp2
  go_ret
  exact ⟨rfl, D'.out⟩
set_option maxHeartbeats 2000000 in
set_option maxRecDepth 100000 in
theorem times_walk9 (a0 a1 a2 : Int) (a3 a4 s t : ByteArray) (n3 n4 : Nat) (I ID X : Int) (L : List Int)
    (hI : Go.bits .and .i64 a0 65535 = I) (hI0 : 0 ≤ I) (hJ : I % 14 = 8)
    (hm3 : (if 4000 < (a3.size : Int) then 4000 else (a3.size : Int)) = (n3 : Int)) (h3 : n3 ≤ a3.size) (hs : a3.extract 0 n3 = s) (hz3 : a3.size ≤ 140737488351232)
    (hm4 : (if 4000 < (a4.size : Int) then 4000 else (a4.size : Int)) = (n4 : Int)) (h4 : n4 ≤ a4.size) (ht : a4.extract 0 n4 = t) (hz4 : a4.size ≤ 140737488351232)
    (hmax : (if a2 < 1 then 1 else a2) = ID) (h20 : 0 ≤ a2) (h21 : a2 < 18446744073709551616) 
    (hE : event_Encode.f 9 a1 ID s t E0 E0 0 0 0 = some (L, 0)) (hD : event_Decode.f L = some (9, a1, ID, s, t, E0, E0, 0, 0, 0, (L.length : Int), 0)) (hR : event_Right.f 9 a1 ID s t E0 E0 0 0 0 = some true) (w : World) (hG : Glob w) :
    Calls Tryd.prog 10 #[.int .i64 a0, .int .u64 a1, .int .u64 a2, .string a3, .string a4] w fun e w' => e = .returned (.bool true) ∧ Below w.heap.size w w' := by
  have HG := Aside0.mk hG
  have HE := Aside0.mk hE
  have HD := Aside0.mk hD
  have HR := Aside0.mk hR
  have D := Aside0.mk (Below.refl w.heap.size w)
  clear hG hE hD hR
  go_enter Tryd.func10, Tryd.ntmps10
  go_upto_region 6 with (first | ((with_reducible refine gate_dst (N := 18) rfl ?_); (with_reducible refine gate_callee (f := 11) rfl ?_); refine goesL_ (some 18) rfl rfl Tryd.func11 (by kernel_rfl) rfl #[] rfl (by (try simp only [List.map_toArray, List.map_cons, List.map_nil]); first | done | rfl) ?_; refine (transeptlaw05_shown.calls true _ (HG.out.below D.out) rfl).mono ?_; rintro e wz_ ⟨rfl, hb⟩; refine ⟨_, rfl, ?_⟩; have n0_ := Aside0.mk (below_step D.out hb); clear D; have D := n0_; clear n0_; clear hb))
  obtain ⟨g, hg⟩ : ∃ g, g = wz_.heap.size := ⟨_, rfl⟩
  obtain ⟨W1, hW1⟩ : ∃ W, W = wz_.alloc (.cells (ten 9 a1 0 E0 E0 E0 E0 0 0 0) 24) := ⟨_, rfl⟩
  rw [← hW1, ← hg]
  have A := Aside0.mk (show Box w W1 g (ten 9 a1 0 E0 E0 E0 E0 0 0 0) by rw [hW1, hg]; exact Box.fresh D.out _)
  have D' := Aside0.mk (show Below w.heap.size w W1 by rw [hW1]; exact below_alloc D.out _)
  clear hW1 hg D hI hI0 hJ hm3 hm4 h3 h4 hs ht
  have D := D'
  clear D'
  obtain ⟨o0, o1, o2, o3, o4, o5, o6, o7, o8, o9⟩ := A.out.free
  obtain ⟨c0, c1, c2, c3, c4, c5, c6, c7, c8, c9⟩ := A.out.read
  go_upto_region 8 with (fail)
  clear o0 o1 o2 o3 o4 o5 o6 o7 o8 o9 c0 c1 c2 c3 c4 c5 c6 c7 c8 c9
  obtain ⟨W2, hW2⟩ : ∃ W, W = W1.setCell ⟨g, 2, none⟩ (.int .u64 ID) := ⟨_, rfl⟩
  rw [← hW2]
  have A' := Aside0.mk (show Box w W2 g (ten 9 a1 ID E0 E0 E0 E0 0 0 0) by rw [hW2]; exact ⟨A.out.base, blk_put A.out.blk 2 _ rfl⟩)
  have D' := Aside0.mk (show Below w.heap.size w W2 by rw [hW2]; exact D.out.setCell A.out.base _)
  clear A D hW2
  have A := A'
  have D := D'
  clear A' D'
  obtain ⟨o0, o1, o2, o3, o4, o5, o6, o7, o8, o9⟩ := A.out.free
  obtain ⟨c0, c1, c2, c3, c4, c5, c6, c7, c8, c9⟩ := A.out.read
  go_upto_region 18 with (fail)
  clear o0 o1 o2 o3 o4 o5 o6 o7 o8 o9 c0 c1 c2 c3 c4 c5 c6 c7 c8 c9
  obtain ⟨W3, hW3⟩ : ∃ W, W = W2.setCell ⟨g, 3, none⟩ (.string s) := ⟨_, rfl⟩
  rw [← hW3]
  have A' := Aside0.mk (show Box w W3 g (ten 9 a1 ID s E0 E0 E0 0 0 0) by rw [hW3]; exact ⟨A.out.base, blk_put A.out.blk 3 _ rfl⟩)
  have D' := Aside0.mk (show Below w.heap.size w W3 by rw [hW3]; exact D.out.setCell A.out.base _)
  clear A D hW3
  have A := A'
  have D := D'
  clear A' D'
  obtain ⟨o0, o1, o2, o3, o4, o5, o6, o7, o8, o9⟩ := A.out.free
  obtain ⟨c0, c1, c2, c3, c4, c5, c6, c7, c8, c9⟩ := A.out.read
  go_upto_region 26 with (fail)
  clear o0 o1 o2 o3 o4 o5 o6 o7 o8 o9 c0 c1 c2 c3 c4 c5 c6 c7 c8 c9
  obtain ⟨W4, hW4⟩ : ∃ W, W = W3.setCell ⟨g, 4, none⟩ (.string t) := ⟨_, rfl⟩
  rw [← hW4]
  have A' := Aside0.mk (show Box w W4 g (ten 9 a1 ID s t E0 E0 0 0 0) by rw [hW4]; exact ⟨A.out.base, blk_put A.out.blk 4 _ rfl⟩)
  have D' := Aside0.mk (show Below w.heap.size w W4 by rw [hW4]; exact D.out.setCell A.out.base _)
  clear A D hW4
  have A := A'
  have D := D'
  clear A' D'
  go_upto_region 28 with (first | ((with_reducible refine gate_dst (N := 82) rfl ?_); refine wpList_load_row ?hgd_82 24 (.tmp 12) ?ho_82 g ?hx_82 ?t_82 ?cs_82 ?fr_82 ?d_82 ?hg_82 ?hu_82 ?hd_82 ?hi_82 ?_; (case hgd_82 => rfl); (case ho_82 => rfl); (case hx_82 => rfl); (case hg_82 => exact A.out.blk); (case hu_82 => exact Tryd.underlying24); (case hd_82 => rfl); (case hi_82 => exact size24)) | ((with_reducible refine gate_dst (N := 83) rfl ?_); (with_reducible refine gate_callee (f := 13) rfl ?_); refine goesL_ (some 83) rfl rfl Tryd.func13 (by kernel_rfl) rfl #[.agg (ten 9 a1 ID s t E0 E0 0 0 0)] rfl (by (try simp only [List.map_toArray, List.map_cons, List.map_nil]); first | done | rfl) ?_; refine (event_Encode.calls 9 a1 ID s t E0 E0 0 0 0 L _ _ (HG.out.below D.out) HE.out).mono ?_; rintro e wz_ ⟨v0, rfl, hR, hb⟩; obtain ⟨q0, k0, rfl, hk0_, hC⟩ := Kd.R_reads hR; refine ⟨_, rfl, ?_⟩; have K0 := Aside0.mk hk0_; clear hk0_; have C0 := Aside0.mk hC; clear hC hR; have n0_ := Aside0.mk (below_step D.out hb); have n1_ := Aside0.mk (A.out.then_ hb); clear D; clear A; have D := n0_; have A := n1_; clear n0_ n1_; clear hb) | ((with_reducible refine gate_dst (N := 88) rfl ?_); (with_reducible refine gate_callee (f := 17) rfl ?_); refine goesL_ (some 88) rfl rfl Tryd.func17 (by kernel_rfl) rfl #[.slice q0 L.length k0] rfl (by (try simp only [List.map_toArray, List.map_cons, List.map_nil]); first | done | rfl) ?_; refine (dec_w q0 k0 L.length L rfl K0.out (HG.out.below D.out) C0.out HD.out).mono ?_; rintro e wz_ ⟨rfl, hb⟩; refine ⟨_, rfl, ?_⟩; have n0_ := Aside0.mk (below_step D.out hb); have n1_ := Aside0.mk (A.out.then_ hb); clear D; clear A; have D := n0_; have A := n1_; clear n0_ n1_; clear hb))
  have F := Aside0.mk (Box.fresh D.out (ten 9 a1 ID s t E0 E0 0 0 0))
  have A' := Aside0.mk (A.out.alloc (.cells (ten 9 a1 ID s t E0 E0 0 0 0) 24))
  have D' := Aside0.mk (below_alloc D.out (.cells (ten 9 a1 ID s t E0 E0 0 0 0) 24))
  clear A D
  have A := A'
  have D := D'
  clear A' D'
  obtain ⟨c0, c1, c2, c3, c4, c5, c6, c7, c8, c9⟩ := A.out.read
  go_wp2_with (fail)
  clear c0 c1 c2 c3 c4 c5 c6 c7 c8 c9
  refine (event_Right.calls 9 a1 ID s t E0 E0 0 0 0 true _ (HG.out.below D.out) HR.out).mono ?_
  rintro e wz2 ⟨rfl, hb⟩
  have A' := Aside0.mk (A.out.then_ hb)
  have F' := Aside0.mk (F.out.then_ hb)
  have D' := Aside0.mk (below_step D.out hb)
  clear A D F hb
  obtain ⟨c0, c1, c2, c3, c4, c5, c6, c7, c8, c9⟩ := A'.out.read
  obtain ⟨d0, d1, d2, d3, d4, d5, d6, d7, d8, d9⟩ := F'.out.read
  go_wp2
  go_ret
  exact ⟨rfl, D'.out⟩
set_option maxHeartbeats 2000000 in
set_option maxRecDepth 100000 in
theorem times_walk10 (a0 a1 a2 : Int) (a3 a4 s t : ByteArray) (n3 n4 : Nat) (I ID X : Int) (L : List Int)
    (hI : Go.bits .and .i64 a0 65535 = I) (hI0 : 0 ≤ I) (hJ : I % 14 = 9)
    (hm3 : (if 4000 < (a3.size : Int) then 4000 else (a3.size : Int)) = (n3 : Int)) (h3 : n3 ≤ a3.size) (hs : a3.extract 0 n3 = s) (hz3 : a3.size ≤ 140737488351232)
    (hm4 : (if 4000 < (a4.size : Int) then 4000 else (a4.size : Int)) = (n4 : Int)) (h4 : n4 ≤ a4.size) (ht : a4.extract 0 n4 = t) (hz4 : a4.size ≤ 140737488351232)
    (hmax : (if a2 < 1 then 1 else a2) = ID) (h20 : 0 ≤ a2) (h21 : a2 < 18446744073709551616) (hX : a2 % 1000 = X)
    (hE : event_Encode.f 10 a1 ID E0 E0 E0 E0 X 0 0 = some (L, 0)) (hD : event_Decode.f L = some (10, a1, ID, E0, E0, E0, E0, X, 0, 0, (L.length : Int), 0)) (hR : event_Right.f 10 a1 ID E0 E0 E0 E0 X 0 0 = some true) (w : World) (hG : Glob w) :
    Calls Tryd.prog 10 #[.int .i64 a0, .int .u64 a1, .int .u64 a2, .string a3, .string a4] w fun e w' => e = .returned (.bool true) ∧ Below w.heap.size w w' := by
  have HG := Aside0.mk hG
  have HE := Aside0.mk hE
  have HD := Aside0.mk hD
  have HR := Aside0.mk hR
  have D := Aside0.mk (Below.refl w.heap.size w)
  clear hG hE hD hR
  go_enter Tryd.func10, Tryd.ntmps10
  go_upto_region 6 with (first | ((with_reducible refine gate_dst (N := 18) rfl ?_); (with_reducible refine gate_callee (f := 11) rfl ?_); refine goesL_ (some 18) rfl rfl Tryd.func11 (by kernel_rfl) rfl #[] rfl (by (try simp only [List.map_toArray, List.map_cons, List.map_nil]); first | done | rfl) ?_; refine (transeptlaw05_shown.calls true _ (HG.out.below D.out) rfl).mono ?_; rintro e wz_ ⟨rfl, hb⟩; refine ⟨_, rfl, ?_⟩; have n0_ := Aside0.mk (below_step D.out hb); clear D; have D := n0_; clear n0_; clear hb))
  obtain ⟨g, hg⟩ : ∃ g, g = wz_.heap.size := ⟨_, rfl⟩
  obtain ⟨W1, hW1⟩ : ∃ W, W = wz_.alloc (.cells (ten 10 a1 0 E0 E0 E0 E0 0 0 0) 24) := ⟨_, rfl⟩
  rw [← hW1, ← hg]
  have A := Aside0.mk (show Box w W1 g (ten 10 a1 0 E0 E0 E0 E0 0 0 0) by rw [hW1, hg]; exact Box.fresh D.out _)
  have D' := Aside0.mk (show Below w.heap.size w W1 by rw [hW1]; exact below_alloc D.out _)
  clear hW1 hg D hI hI0 hJ hm3 hm4 h3 h4 hs ht
  have D := D'
  clear D'
  obtain ⟨o0, o1, o2, o3, o4, o5, o6, o7, o8, o9⟩ := A.out.free
  obtain ⟨c0, c1, c2, c3, c4, c5, c6, c7, c8, c9⟩ := A.out.read
  go_upto_region 8 with (fail)
  clear o0 o1 o2 o3 o4 o5 o6 o7 o8 o9 c0 c1 c2 c3 c4 c5 c6 c7 c8 c9
  obtain ⟨W2, hW2⟩ : ∃ W, W = W1.setCell ⟨g, 2, none⟩ (.int .u64 ID) := ⟨_, rfl⟩
  rw [← hW2]
  have A' := Aside0.mk (show Box w W2 g (ten 10 a1 ID E0 E0 E0 E0 0 0 0) by rw [hW2]; exact ⟨A.out.base, blk_put A.out.blk 2 _ rfl⟩)
  have D' := Aside0.mk (show Below w.heap.size w W2 by rw [hW2]; exact D.out.setCell A.out.base _)
  clear A D hW2
  have A := A'
  have D := D'
  clear A' D'
  obtain ⟨o0, o1, o2, o3, o4, o5, o6, o7, o8, o9⟩ := A.out.free
  obtain ⟨c0, c1, c2, c3, c4, c5, c6, c7, c8, c9⟩ := A.out.read
  go_upto_region 26 with (fail)
  clear o0 o1 o2 o3 o4 o5 o6 o7 o8 o9 c0 c1 c2 c3 c4 c5 c6 c7 c8 c9
  obtain ⟨W3, hW3⟩ : ∃ W, W = W2.setCell ⟨g, 7, none⟩ (.int .i64 X) := ⟨_, rfl⟩
  rw [← hW3]
  have A' := Aside0.mk (show Box w W3 g (ten 10 a1 ID E0 E0 E0 E0 X 0 0) by rw [hW3]; exact ⟨A.out.base, blk_put A.out.blk 7 _ rfl⟩)
  have D' := Aside0.mk (show Below w.heap.size w W3 by rw [hW3]; exact D.out.setCell A.out.base _)
  clear A D hW3
  have A := A'
  have D := D'
  clear A' D'
  go_upto_region 28 with (first | ((with_reducible refine gate_dst (N := 82) rfl ?_); refine wpList_load_row ?hgd_82 24 (.tmp 12) ?ho_82 g ?hx_82 ?t_82 ?cs_82 ?fr_82 ?d_82 ?hg_82 ?hu_82 ?hd_82 ?hi_82 ?_; (case hgd_82 => rfl); (case ho_82 => rfl); (case hx_82 => rfl); (case hg_82 => exact A.out.blk); (case hu_82 => exact Tryd.underlying24); (case hd_82 => rfl); (case hi_82 => exact size24)) | ((with_reducible refine gate_dst (N := 83) rfl ?_); (with_reducible refine gate_callee (f := 13) rfl ?_); refine goesL_ (some 83) rfl rfl Tryd.func13 (by kernel_rfl) rfl #[.agg (ten 10 a1 ID E0 E0 E0 E0 X 0 0)] rfl (by (try simp only [List.map_toArray, List.map_cons, List.map_nil]); first | done | rfl) ?_; refine (event_Encode.calls 10 a1 ID E0 E0 E0 E0 X 0 0 L _ _ (HG.out.below D.out) HE.out).mono ?_; rintro e wz_ ⟨v0, rfl, hR, hb⟩; obtain ⟨q0, k0, rfl, hk0_, hC⟩ := Kd.R_reads hR; refine ⟨_, rfl, ?_⟩; have K0 := Aside0.mk hk0_; clear hk0_; have C0 := Aside0.mk hC; clear hC hR; have n0_ := Aside0.mk (below_step D.out hb); have n1_ := Aside0.mk (A.out.then_ hb); clear D; clear A; have D := n0_; have A := n1_; clear n0_ n1_; clear hb) | ((with_reducible refine gate_dst (N := 88) rfl ?_); (with_reducible refine gate_callee (f := 17) rfl ?_); refine goesL_ (some 88) rfl rfl Tryd.func17 (by kernel_rfl) rfl #[.slice q0 L.length k0] rfl (by (try simp only [List.map_toArray, List.map_cons, List.map_nil]); first | done | rfl) ?_; refine (dec_w q0 k0 L.length L rfl K0.out (HG.out.below D.out) C0.out HD.out).mono ?_; rintro e wz_ ⟨rfl, hb⟩; refine ⟨_, rfl, ?_⟩; have n0_ := Aside0.mk (below_step D.out hb); have n1_ := Aside0.mk (A.out.then_ hb); clear D; clear A; have D := n0_; have A := n1_; clear n0_ n1_; clear hb))
  have F := Aside0.mk (Box.fresh D.out (ten 10 a1 ID E0 E0 E0 E0 X 0 0))
  have A' := Aside0.mk (A.out.alloc (.cells (ten 10 a1 ID E0 E0 E0 E0 X 0 0) 24))
  have D' := Aside0.mk (below_alloc D.out (.cells (ten 10 a1 ID E0 E0 E0 E0 X 0 0) 24))
  clear A D
  have A := A'
  have D := D'
  clear A' D'
  obtain ⟨c0, c1, c2, c3, c4, c5, c6, c7, c8, c9⟩ := A.out.read
  go_wp2_with (fail)
  clear c0 c1 c2 c3 c4 c5 c6 c7 c8 c9
  refine (event_Right.calls 10 a1 ID E0 E0 E0 E0 X 0 0 true _ (HG.out.below D.out) HR.out).mono ?_
  rintro e wz2 ⟨rfl, hb⟩
  have A' := Aside0.mk (A.out.then_ hb)
  have F' := Aside0.mk (F.out.then_ hb)
  have D' := Aside0.mk (below_step D.out hb)
  clear A D F hb
  obtain ⟨c0, c1, c2, c3, c4, c5, c6, c7, c8, c9⟩ := A'.out.read
  obtain ⟨d0, d1, d2, d3, d4, d5, d6, d7, d8, d9⟩ := F'.out.read
  go_wp2
  go_ret
  exact ⟨rfl, D'.out⟩
set_option maxHeartbeats 2000000 in
set_option maxRecDepth 100000 in
theorem times_walk11 (a0 a1 a2 : Int) (a3 a4 s t : ByteArray) (n3 n4 : Nat) (I ID X : Int) (L : List Int)
    (hI : Go.bits .and .i64 a0 65535 = I) (hI0 : 0 ≤ I) (hJ : I % 14 = 10)
    (hm3 : (if 4000 < (a3.size : Int) then 4000 else (a3.size : Int)) = (n3 : Int)) (h3 : n3 ≤ a3.size) (hs : a3.extract 0 n3 = s) (hz3 : a3.size ≤ 140737488351232)
    (hm4 : (if 4000 < (a4.size : Int) then 4000 else (a4.size : Int)) = (n4 : Int)) (h4 : n4 ≤ a4.size) (ht : a4.extract 0 n4 = t) (hz4 : a4.size ≤ 140737488351232)
    (hmax : (if a2 < 1 then 1 else a2) = ID) (h20 : 0 ≤ a2) (h21 : a2 < 18446744073709551616) 
    (hE : event_Encode.f 11 a1 ID s E0 E0 E0 0 0 0 = some (L, 0)) (hD : event_Decode.f L = some (11, a1, ID, s, E0, E0, E0, 0, 0, 0, (L.length : Int), 0)) (hR : event_Right.f 11 a1 ID s E0 E0 E0 0 0 0 = some true) (w : World) (hG : Glob w) :
    Calls Tryd.prog 10 #[.int .i64 a0, .int .u64 a1, .int .u64 a2, .string a3, .string a4] w fun e w' => e = .returned (.bool true) ∧ Below w.heap.size w w' := by
  have HG := Aside0.mk hG
  have HE := Aside0.mk hE
  have HD := Aside0.mk hD
  have HR := Aside0.mk hR
  have D := Aside0.mk (Below.refl w.heap.size w)
  clear hG hE hD hR
  go_enter Tryd.func10, Tryd.ntmps10
  go_upto_region 6 with (first | ((with_reducible refine gate_dst (N := 18) rfl ?_); (with_reducible refine gate_callee (f := 11) rfl ?_); refine goesL_ (some 18) rfl rfl Tryd.func11 (by kernel_rfl) rfl #[] rfl (by (try simp only [List.map_toArray, List.map_cons, List.map_nil]); first | done | rfl) ?_; refine (transeptlaw05_shown.calls true _ (HG.out.below D.out) rfl).mono ?_; rintro e wz_ ⟨rfl, hb⟩; refine ⟨_, rfl, ?_⟩; have n0_ := Aside0.mk (below_step D.out hb); clear D; have D := n0_; clear n0_; clear hb))
  obtain ⟨g, hg⟩ : ∃ g, g = wz_.heap.size := ⟨_, rfl⟩
  obtain ⟨W1, hW1⟩ : ∃ W, W = wz_.alloc (.cells (ten 11 a1 0 E0 E0 E0 E0 0 0 0) 24) := ⟨_, rfl⟩
  rw [← hW1, ← hg]
  have A := Aside0.mk (show Box w W1 g (ten 11 a1 0 E0 E0 E0 E0 0 0 0) by rw [hW1, hg]; exact Box.fresh D.out _)
  have D' := Aside0.mk (show Below w.heap.size w W1 by rw [hW1]; exact below_alloc D.out _)
  clear hW1 hg D hI hI0 hJ hm3 hm4 h3 h4 hs ht
  have D := D'
  clear D'
  obtain ⟨o0, o1, o2, o3, o4, o5, o6, o7, o8, o9⟩ := A.out.free
  obtain ⟨c0, c1, c2, c3, c4, c5, c6, c7, c8, c9⟩ := A.out.read
  go_upto_region 8 with (fail)
  clear o0 o1 o2 o3 o4 o5 o6 o7 o8 o9 c0 c1 c2 c3 c4 c5 c6 c7 c8 c9
  obtain ⟨W2, hW2⟩ : ∃ W, W = W1.setCell ⟨g, 2, none⟩ (.int .u64 ID) := ⟨_, rfl⟩
  rw [← hW2]
  have A' := Aside0.mk (show Box w W2 g (ten 11 a1 ID E0 E0 E0 E0 0 0 0) by rw [hW2]; exact ⟨A.out.base, blk_put A.out.blk 2 _ rfl⟩)
  have D' := Aside0.mk (show Below w.heap.size w W2 by rw [hW2]; exact D.out.setCell A.out.base _)
  clear A D hW2
  have A := A'
  have D := D'
  clear A' D'
  obtain ⟨o0, o1, o2, o3, o4, o5, o6, o7, o8, o9⟩ := A.out.free
  obtain ⟨c0, c1, c2, c3, c4, c5, c6, c7, c8, c9⟩ := A.out.read
  go_upto_region 26 with (fail)
  clear o0 o1 o2 o3 o4 o5 o6 o7 o8 o9 c0 c1 c2 c3 c4 c5 c6 c7 c8 c9
  obtain ⟨W3, hW3⟩ : ∃ W, W = W2.setCell ⟨g, 3, none⟩ (.string s) := ⟨_, rfl⟩
  rw [← hW3]
  have A' := Aside0.mk (show Box w W3 g (ten 11 a1 ID s E0 E0 E0 0 0 0) by rw [hW3]; exact ⟨A.out.base, blk_put A.out.blk 3 _ rfl⟩)
  have D' := Aside0.mk (show Below w.heap.size w W3 by rw [hW3]; exact D.out.setCell A.out.base _)
  clear A D hW3
  have A := A'
  have D := D'
  clear A' D'
  go_upto_region 28 with (first | ((with_reducible refine gate_dst (N := 82) rfl ?_); refine wpList_load_row ?hgd_82 24 (.tmp 12) ?ho_82 g ?hx_82 ?t_82 ?cs_82 ?fr_82 ?d_82 ?hg_82 ?hu_82 ?hd_82 ?hi_82 ?_; (case hgd_82 => rfl); (case ho_82 => rfl); (case hx_82 => rfl); (case hg_82 => exact A.out.blk); (case hu_82 => exact Tryd.underlying24); (case hd_82 => rfl); (case hi_82 => exact size24)) | ((with_reducible refine gate_dst (N := 83) rfl ?_); (with_reducible refine gate_callee (f := 13) rfl ?_); refine goesL_ (some 83) rfl rfl Tryd.func13 (by kernel_rfl) rfl #[.agg (ten 11 a1 ID s E0 E0 E0 0 0 0)] rfl (by (try simp only [List.map_toArray, List.map_cons, List.map_nil]); first | done | rfl) ?_; refine (event_Encode.calls 11 a1 ID s E0 E0 E0 0 0 0 L _ _ (HG.out.below D.out) HE.out).mono ?_; rintro e wz_ ⟨v0, rfl, hR, hb⟩; obtain ⟨q0, k0, rfl, hk0_, hC⟩ := Kd.R_reads hR; refine ⟨_, rfl, ?_⟩; have K0 := Aside0.mk hk0_; clear hk0_; have C0 := Aside0.mk hC; clear hC hR; have n0_ := Aside0.mk (below_step D.out hb); have n1_ := Aside0.mk (A.out.then_ hb); clear D; clear A; have D := n0_; have A := n1_; clear n0_ n1_; clear hb) | ((with_reducible refine gate_dst (N := 88) rfl ?_); (with_reducible refine gate_callee (f := 17) rfl ?_); refine goesL_ (some 88) rfl rfl Tryd.func17 (by kernel_rfl) rfl #[.slice q0 L.length k0] rfl (by (try simp only [List.map_toArray, List.map_cons, List.map_nil]); first | done | rfl) ?_; refine (dec_w q0 k0 L.length L rfl K0.out (HG.out.below D.out) C0.out HD.out).mono ?_; rintro e wz_ ⟨rfl, hb⟩; refine ⟨_, rfl, ?_⟩; have n0_ := Aside0.mk (below_step D.out hb); have n1_ := Aside0.mk (A.out.then_ hb); clear D; clear A; have D := n0_; have A := n1_; clear n0_ n1_; clear hb))
  have F := Aside0.mk (Box.fresh D.out (ten 11 a1 ID s E0 E0 E0 0 0 0))
  have A' := Aside0.mk (A.out.alloc (.cells (ten 11 a1 ID s E0 E0 E0 0 0 0) 24))
  have D' := Aside0.mk (below_alloc D.out (.cells (ten 11 a1 ID s E0 E0 E0 0 0 0) 24))
  clear A D
  have A := A'
  have D := D'
  clear A' D'
  obtain ⟨c0, c1, c2, c3, c4, c5, c6, c7, c8, c9⟩ := A.out.read
  go_wp2_with (fail)
  clear c0 c1 c2 c3 c4 c5 c6 c7 c8 c9
  refine (event_Right.calls 11 a1 ID s E0 E0 E0 0 0 0 true _ (HG.out.below D.out) HR.out).mono ?_
  rintro e wz2 ⟨rfl, hb⟩
  have A' := Aside0.mk (A.out.then_ hb)
  have F' := Aside0.mk (F.out.then_ hb)
  have D' := Aside0.mk (below_step D.out hb)
  clear A D F hb
  obtain ⟨c0, c1, c2, c3, c4, c5, c6, c7, c8, c9⟩ := A'.out.read
  obtain ⟨d0, d1, d2, d3, d4, d5, d6, d7, d8, d9⟩ := F'.out.read
  go_wp2
  go_ret
  exact ⟨rfl, D'.out⟩
set_option maxHeartbeats 2000000 in
set_option maxRecDepth 100000 in
theorem times_walk12 (a0 a1 a2 : Int) (a3 a4 s t : ByteArray) (n3 n4 : Nat) (I ID X : Int) (L : List Int)
    (hI : Go.bits .and .i64 a0 65535 = I) (hI0 : 0 ≤ I) (hJ : I % 14 = 11)
    (hm3 : (if 4000 < (a3.size : Int) then 4000 else (a3.size : Int)) = (n3 : Int)) (h3 : n3 ≤ a3.size) (hs : a3.extract 0 n3 = s) (hz3 : a3.size ≤ 140737488351232)
    (hm4 : (if 4000 < (a4.size : Int) then 4000 else (a4.size : Int)) = (n4 : Int)) (h4 : n4 ≤ a4.size) (ht : a4.extract 0 n4 = t) (hz4 : a4.size ≤ 140737488351232)
    (hmax : (if a2 < 1 then 1 else a2) = ID) (h20 : 0 ≤ a2) (h21 : a2 < 18446744073709551616) 
    (hE : event_Encode.f 12 a1 ID s E0 E0 E0 0 0 0 = some (L, 0)) (hD : event_Decode.f L = some (12, a1, ID, s, E0, E0, E0, 0, 0, 0, (L.length : Int), 0)) (hR : event_Right.f 12 a1 ID s E0 E0 E0 0 0 0 = some true) (w : World) (hG : Glob w) :
    Calls Tryd.prog 10 #[.int .i64 a0, .int .u64 a1, .int .u64 a2, .string a3, .string a4] w fun e w' => e = .returned (.bool true) ∧ Below w.heap.size w w' := by
  have HG := Aside0.mk hG
  have HE := Aside0.mk hE
  have HD := Aside0.mk hD
  have HR := Aside0.mk hR
  have D := Aside0.mk (Below.refl w.heap.size w)
  clear hG hE hD hR
  go_enter Tryd.func10, Tryd.ntmps10
  go_upto_region 6 with (first | ((with_reducible refine gate_dst (N := 18) rfl ?_); (with_reducible refine gate_callee (f := 11) rfl ?_); refine goesL_ (some 18) rfl rfl Tryd.func11 (by kernel_rfl) rfl #[] rfl (by (try simp only [List.map_toArray, List.map_cons, List.map_nil]); first | done | rfl) ?_; refine (transeptlaw05_shown.calls true _ (HG.out.below D.out) rfl).mono ?_; rintro e wz_ ⟨rfl, hb⟩; refine ⟨_, rfl, ?_⟩; have n0_ := Aside0.mk (below_step D.out hb); clear D; have D := n0_; clear n0_; clear hb))
  obtain ⟨g, hg⟩ : ∃ g, g = wz_.heap.size := ⟨_, rfl⟩
  obtain ⟨W1, hW1⟩ : ∃ W, W = wz_.alloc (.cells (ten 12 a1 0 E0 E0 E0 E0 0 0 0) 24) := ⟨_, rfl⟩
  rw [← hW1, ← hg]
  have A := Aside0.mk (show Box w W1 g (ten 12 a1 0 E0 E0 E0 E0 0 0 0) by rw [hW1, hg]; exact Box.fresh D.out _)
  have D' := Aside0.mk (show Below w.heap.size w W1 by rw [hW1]; exact below_alloc D.out _)
  clear hW1 hg D hI hI0 hJ hm3 hm4 h3 h4 hs ht
  have D := D'
  clear D'
  obtain ⟨o0, o1, o2, o3, o4, o5, o6, o7, o8, o9⟩ := A.out.free
  obtain ⟨c0, c1, c2, c3, c4, c5, c6, c7, c8, c9⟩ := A.out.read
  go_upto_region 8 with (fail)
  clear o0 o1 o2 o3 o4 o5 o6 o7 o8 o9 c0 c1 c2 c3 c4 c5 c6 c7 c8 c9
  obtain ⟨W2, hW2⟩ : ∃ W, W = W1.setCell ⟨g, 2, none⟩ (.int .u64 ID) := ⟨_, rfl⟩
  rw [← hW2]
  have A' := Aside0.mk (show Box w W2 g (ten 12 a1 ID E0 E0 E0 E0 0 0 0) by rw [hW2]; exact ⟨A.out.base, blk_put A.out.blk 2 _ rfl⟩)
  have D' := Aside0.mk (show Below w.heap.size w W2 by rw [hW2]; exact D.out.setCell A.out.base _)
  clear A D hW2
  have A := A'
  have D := D'
  clear A' D'
  obtain ⟨o0, o1, o2, o3, o4, o5, o6, o7, o8, o9⟩ := A.out.free
  obtain ⟨c0, c1, c2, c3, c4, c5, c6, c7, c8, c9⟩ := A.out.read
  go_upto_region 26 with (fail)
  clear o0 o1 o2 o3 o4 o5 o6 o7 o8 o9 c0 c1 c2 c3 c4 c5 c6 c7 c8 c9
  obtain ⟨W3, hW3⟩ : ∃ W, W = W2.setCell ⟨g, 3, none⟩ (.string s) := ⟨_, rfl⟩
  rw [← hW3]
  have A' := Aside0.mk (show Box w W3 g (ten 12 a1 ID s E0 E0 E0 0 0 0) by rw [hW3]; exact ⟨A.out.base, blk_put A.out.blk 3 _ rfl⟩)
  have D' := Aside0.mk (show Below w.heap.size w W3 by rw [hW3]; exact D.out.setCell A.out.base _)
  clear A D hW3
  have A := A'
  have D := D'
  clear A' D'
  go_upto_region 28 with (first | ((with_reducible refine gate_dst (N := 82) rfl ?_); refine wpList_load_row ?hgd_82 24 (.tmp 12) ?ho_82 g ?hx_82 ?t_82 ?cs_82 ?fr_82 ?d_82 ?hg_82 ?hu_82 ?hd_82 ?hi_82 ?_; (case hgd_82 => rfl); (case ho_82 => rfl); (case hx_82 => rfl); (case hg_82 => exact A.out.blk); (case hu_82 => exact Tryd.underlying24); (case hd_82 => rfl); (case hi_82 => exact size24)) | ((with_reducible refine gate_dst (N := 83) rfl ?_); (with_reducible refine gate_callee (f := 13) rfl ?_); refine goesL_ (some 83) rfl rfl Tryd.func13 (by kernel_rfl) rfl #[.agg (ten 12 a1 ID s E0 E0 E0 0 0 0)] rfl (by (try simp only [List.map_toArray, List.map_cons, List.map_nil]); first | done | rfl) ?_; refine (event_Encode.calls 12 a1 ID s E0 E0 E0 0 0 0 L _ _ (HG.out.below D.out) HE.out).mono ?_; rintro e wz_ ⟨v0, rfl, hR, hb⟩; obtain ⟨q0, k0, rfl, hk0_, hC⟩ := Kd.R_reads hR; refine ⟨_, rfl, ?_⟩; have K0 := Aside0.mk hk0_; clear hk0_; have C0 := Aside0.mk hC; clear hC hR; have n0_ := Aside0.mk (below_step D.out hb); have n1_ := Aside0.mk (A.out.then_ hb); clear D; clear A; have D := n0_; have A := n1_; clear n0_ n1_; clear hb) | ((with_reducible refine gate_dst (N := 88) rfl ?_); (with_reducible refine gate_callee (f := 17) rfl ?_); refine goesL_ (some 88) rfl rfl Tryd.func17 (by kernel_rfl) rfl #[.slice q0 L.length k0] rfl (by (try simp only [List.map_toArray, List.map_cons, List.map_nil]); first | done | rfl) ?_; refine (dec_w q0 k0 L.length L rfl K0.out (HG.out.below D.out) C0.out HD.out).mono ?_; rintro e wz_ ⟨rfl, hb⟩; refine ⟨_, rfl, ?_⟩; have n0_ := Aside0.mk (below_step D.out hb); have n1_ := Aside0.mk (A.out.then_ hb); clear D; clear A; have D := n0_; have A := n1_; clear n0_ n1_; clear hb))
  have F := Aside0.mk (Box.fresh D.out (ten 12 a1 ID s E0 E0 E0 0 0 0))
  have A' := Aside0.mk (A.out.alloc (.cells (ten 12 a1 ID s E0 E0 E0 0 0 0) 24))
  have D' := Aside0.mk (below_alloc D.out (.cells (ten 12 a1 ID s E0 E0 E0 0 0 0) 24))
  clear A D
  have A := A'
  have D := D'
  clear A' D'
  obtain ⟨c0, c1, c2, c3, c4, c5, c6, c7, c8, c9⟩ := A.out.read
  go_wp2_with (fail)
  clear c0 c1 c2 c3 c4 c5 c6 c7 c8 c9
  refine (event_Right.calls 12 a1 ID s E0 E0 E0 0 0 0 true _ (HG.out.below D.out) HR.out).mono ?_
  rintro e wz2 ⟨rfl, hb⟩
  have A' := Aside0.mk (A.out.then_ hb)
  have F' := Aside0.mk (F.out.then_ hb)
  have D' := Aside0.mk (below_step D.out hb)
  clear A D F hb
  obtain ⟨c0, c1, c2, c3, c4, c5, c6, c7, c8, c9⟩ := A'.out.read
  obtain ⟨d0, d1, d2, d3, d4, d5, d6, d7, d8, d9⟩ := F'.out.read
  go_wp2
  go_ret
  exact ⟨rfl, D'.out⟩
set_option maxHeartbeats 2000000 in
set_option maxRecDepth 100000 in
theorem times_walk13 (a0 a1 a2 : Int) (a3 a4 s t : ByteArray) (n3 n4 : Nat) (I ID X : Int) (L : List Int)
    (hI : Go.bits .and .i64 a0 65535 = I) (hI0 : 0 ≤ I) (hJ : I % 14 = 12)
    (hm3 : (if 4000 < (a3.size : Int) then 4000 else (a3.size : Int)) = (n3 : Int)) (h3 : n3 ≤ a3.size) (hs : a3.extract 0 n3 = s) (hz3 : a3.size ≤ 140737488351232)
    (hm4 : (if 4000 < (a4.size : Int) then 4000 else (a4.size : Int)) = (n4 : Int)) (h4 : n4 ≤ a4.size) (ht : a4.extract 0 n4 = t) (hz4 : a4.size ≤ 140737488351232)
    (hmax : (if a2 < 1 then 1 else a2) = ID) (h20 : 0 ≤ a2) (h21 : a2 < 18446744073709551616) 
    (hE : event_Encode.f 13 a1 ID E0 E0 E0 E0 0 0 0 = some (L, 0)) (hD : event_Decode.f L = some (13, a1, ID, E0, E0, E0, E0, 0, 0, 0, (L.length : Int), 0)) (hR : event_Right.f 13 a1 ID E0 E0 E0 E0 0 0 0 = some true) (w : World) (hG : Glob w) :
    Calls Tryd.prog 10 #[.int .i64 a0, .int .u64 a1, .int .u64 a2, .string a3, .string a4] w fun e w' => e = .returned (.bool true) ∧ Below w.heap.size w w' := by
  have HG := Aside0.mk hG
  have HE := Aside0.mk hE
  have HD := Aside0.mk hD
  have HR := Aside0.mk hR
  have D := Aside0.mk (Below.refl w.heap.size w)
  clear hG hE hD hR
  go_enter Tryd.func10, Tryd.ntmps10
  go_upto_region 6 with (first | ((with_reducible refine gate_dst (N := 18) rfl ?_); (with_reducible refine gate_callee (f := 11) rfl ?_); refine goesL_ (some 18) rfl rfl Tryd.func11 (by kernel_rfl) rfl #[] rfl (by (try simp only [List.map_toArray, List.map_cons, List.map_nil]); first | done | rfl) ?_; refine (transeptlaw05_shown.calls true _ (HG.out.below D.out) rfl).mono ?_; rintro e wz_ ⟨rfl, hb⟩; refine ⟨_, rfl, ?_⟩; have n0_ := Aside0.mk (below_step D.out hb); clear D; have D := n0_; clear n0_; clear hb))
  obtain ⟨g, hg⟩ : ∃ g, g = wz_.heap.size := ⟨_, rfl⟩
  obtain ⟨W1, hW1⟩ : ∃ W, W = wz_.alloc (.cells (ten 13 a1 0 E0 E0 E0 E0 0 0 0) 24) := ⟨_, rfl⟩
  rw [← hW1, ← hg]
  have A := Aside0.mk (show Box w W1 g (ten 13 a1 0 E0 E0 E0 E0 0 0 0) by rw [hW1, hg]; exact Box.fresh D.out _)
  have D' := Aside0.mk (show Below w.heap.size w W1 by rw [hW1]; exact below_alloc D.out _)
  clear hW1 hg D hI hI0 hJ hm3 hm4 h3 h4 hs ht
  have D := D'
  clear D'
  obtain ⟨o0, o1, o2, o3, o4, o5, o6, o7, o8, o9⟩ := A.out.free
  obtain ⟨c0, c1, c2, c3, c4, c5, c6, c7, c8, c9⟩ := A.out.read
  go_upto_region 8 with (fail)
  clear o0 o1 o2 o3 o4 o5 o6 o7 o8 o9 c0 c1 c2 c3 c4 c5 c6 c7 c8 c9
  obtain ⟨W2, hW2⟩ : ∃ W, W = W1.setCell ⟨g, 2, none⟩ (.int .u64 ID) := ⟨_, rfl⟩
  rw [← hW2]
  have A' := Aside0.mk (show Box w W2 g (ten 13 a1 ID E0 E0 E0 E0 0 0 0) by rw [hW2]; exact ⟨A.out.base, blk_put A.out.blk 2 _ rfl⟩)
  have D' := Aside0.mk (show Below w.heap.size w W2 by rw [hW2]; exact D.out.setCell A.out.base _)
  clear A D hW2
  have A := A'
  have D := D'
  clear A' D'
  go_upto_region 26 with (fail)
  go_upto_region 28 with (first | ((with_reducible refine gate_dst (N := 82) rfl ?_); refine wpList_load_row ?hgd_82 24 (.tmp 12) ?ho_82 g ?hx_82 ?t_82 ?cs_82 ?fr_82 ?d_82 ?hg_82 ?hu_82 ?hd_82 ?hi_82 ?_; (case hgd_82 => rfl); (case ho_82 => rfl); (case hx_82 => rfl); (case hg_82 => exact A.out.blk); (case hu_82 => exact Tryd.underlying24); (case hd_82 => rfl); (case hi_82 => exact size24)) | ((with_reducible refine gate_dst (N := 83) rfl ?_); (with_reducible refine gate_callee (f := 13) rfl ?_); refine goesL_ (some 83) rfl rfl Tryd.func13 (by kernel_rfl) rfl #[.agg (ten 13 a1 ID E0 E0 E0 E0 0 0 0)] rfl (by (try simp only [List.map_toArray, List.map_cons, List.map_nil]); first | done | rfl) ?_; refine (event_Encode.calls 13 a1 ID E0 E0 E0 E0 0 0 0 L _ _ (HG.out.below D.out) HE.out).mono ?_; rintro e wz_ ⟨v0, rfl, hR, hb⟩; obtain ⟨q0, k0, rfl, hk0_, hC⟩ := Kd.R_reads hR; refine ⟨_, rfl, ?_⟩; have K0 := Aside0.mk hk0_; clear hk0_; have C0 := Aside0.mk hC; clear hC hR; have n0_ := Aside0.mk (below_step D.out hb); have n1_ := Aside0.mk (A.out.then_ hb); clear D; clear A; have D := n0_; have A := n1_; clear n0_ n1_; clear hb) | ((with_reducible refine gate_dst (N := 88) rfl ?_); (with_reducible refine gate_callee (f := 17) rfl ?_); refine goesL_ (some 88) rfl rfl Tryd.func17 (by kernel_rfl) rfl #[.slice q0 L.length k0] rfl (by (try simp only [List.map_toArray, List.map_cons, List.map_nil]); first | done | rfl) ?_; refine (dec_w q0 k0 L.length L rfl K0.out (HG.out.below D.out) C0.out HD.out).mono ?_; rintro e wz_ ⟨rfl, hb⟩; refine ⟨_, rfl, ?_⟩; have n0_ := Aside0.mk (below_step D.out hb); have n1_ := Aside0.mk (A.out.then_ hb); clear D; clear A; have D := n0_; have A := n1_; clear n0_ n1_; clear hb))
  have F := Aside0.mk (Box.fresh D.out (ten 13 a1 ID E0 E0 E0 E0 0 0 0))
  have A' := Aside0.mk (A.out.alloc (.cells (ten 13 a1 ID E0 E0 E0 E0 0 0 0) 24))
  have D' := Aside0.mk (below_alloc D.out (.cells (ten 13 a1 ID E0 E0 E0 E0 0 0 0) 24))
  clear A D
  have A := A'
  have D := D'
  clear A' D'
  obtain ⟨c0, c1, c2, c3, c4, c5, c6, c7, c8, c9⟩ := A.out.read
  go_wp2_with (fail)
  clear c0 c1 c2 c3 c4 c5 c6 c7 c8 c9
  refine (event_Right.calls 13 a1 ID E0 E0 E0 E0 0 0 0 true _ (HG.out.below D.out) HR.out).mono ?_
  rintro e wz2 ⟨rfl, hb⟩
  have A' := Aside0.mk (A.out.then_ hb)
  have F' := Aside0.mk (F.out.then_ hb)
  have D' := Aside0.mk (below_step D.out hb)
  clear A D F hb
  obtain ⟨c0, c1, c2, c3, c4, c5, c6, c7, c8, c9⟩ := A'.out.read
  obtain ⟨d0, d1, d2, d3, d4, d5, d6, d7, d8, d9⟩ := F'.out.read
  go_wp2
  go_ret
  exact ⟨rfl, D'.out⟩
set_option maxHeartbeats 2000000 in
set_option maxRecDepth 100000 in
theorem times_walk14 (a0 a1 a2 : Int) (a3 a4 s t : ByteArray) (n3 n4 : Nat) (I ID X : Int) (L : List Int)
    (hI : Go.bits .and .i64 a0 65535 = I) (hI0 : 0 ≤ I) (hJ : I % 14 = 13)
    (hm3 : (if 4000 < (a3.size : Int) then 4000 else (a3.size : Int)) = (n3 : Int)) (h3 : n3 ≤ a3.size) (hs : a3.extract 0 n3 = s) (hz3 : a3.size ≤ 140737488351232)
    (hm4 : (if 4000 < (a4.size : Int) then 4000 else (a4.size : Int)) = (n4 : Int)) (h4 : n4 ≤ a4.size) (ht : a4.extract 0 n4 = t) (hz4 : a4.size ≤ 140737488351232)
    (hmax : (if a2 < 1 then 1 else a2) = ID) (h20 : 0 ≤ a2) (h21 : a2 < 18446744073709551616) (hX : wrap64 (bits .and .u64 a2 3) = X)
    (hE : event_Encode.f 14 a1 ID E0 E0 E0 E0 X 0 0 = some (L, 0)) (hD : event_Decode.f L = some (14, a1, ID, E0, E0, E0, E0, X, 0, 0, (L.length : Int), 0)) (hR : event_Right.f 14 a1 ID E0 E0 E0 E0 X 0 0 = some true) (w : World) (hG : Glob w) :
    Calls Tryd.prog 10 #[.int .i64 a0, .int .u64 a1, .int .u64 a2, .string a3, .string a4] w fun e w' => e = .returned (.bool true) ∧ Below w.heap.size w w' := by
  have HG := Aside0.mk hG
  have HE := Aside0.mk hE
  have HD := Aside0.mk hD
  have HR := Aside0.mk hR
  have D := Aside0.mk (Below.refl w.heap.size w)
  clear hG hE hD hR
  go_enter Tryd.func10, Tryd.ntmps10
  go_upto_region 6 with (first | ((with_reducible refine gate_dst (N := 18) rfl ?_); (with_reducible refine gate_callee (f := 11) rfl ?_); refine goesL_ (some 18) rfl rfl Tryd.func11 (by kernel_rfl) rfl #[] rfl (by (try simp only [List.map_toArray, List.map_cons, List.map_nil]); first | done | rfl) ?_; refine (transeptlaw05_shown.calls true _ (HG.out.below D.out) rfl).mono ?_; rintro e wz_ ⟨rfl, hb⟩; refine ⟨_, rfl, ?_⟩; have n0_ := Aside0.mk (below_step D.out hb); clear D; have D := n0_; clear n0_; clear hb))
  obtain ⟨g, hg⟩ : ∃ g, g = wz_.heap.size := ⟨_, rfl⟩
  obtain ⟨W1, hW1⟩ : ∃ W, W = wz_.alloc (.cells (ten 14 a1 0 E0 E0 E0 E0 0 0 0) 24) := ⟨_, rfl⟩
  rw [← hW1, ← hg]
  have A := Aside0.mk (show Box w W1 g (ten 14 a1 0 E0 E0 E0 E0 0 0 0) by rw [hW1, hg]; exact Box.fresh D.out _)
  have D' := Aside0.mk (show Below w.heap.size w W1 by rw [hW1]; exact below_alloc D.out _)
  clear hW1 hg D hI hI0 hJ hm3 hm4 h3 h4 hs ht
  have D := D'
  clear D'
  obtain ⟨o0, o1, o2, o3, o4, o5, o6, o7, o8, o9⟩ := A.out.free
  obtain ⟨c0, c1, c2, c3, c4, c5, c6, c7, c8, c9⟩ := A.out.read
  go_upto_region 8 with (fail)
  clear o0 o1 o2 o3 o4 o5 o6 o7 o8 o9 c0 c1 c2 c3 c4 c5 c6 c7 c8 c9
  obtain ⟨W2, hW2⟩ : ∃ W, W = W1.setCell ⟨g, 2, none⟩ (.int .u64 ID) := ⟨_, rfl⟩
  rw [← hW2]
  have A' := Aside0.mk (show Box w W2 g (ten 14 a1 ID E0 E0 E0 E0 0 0 0) by rw [hW2]; exact ⟨A.out.base, blk_put A.out.blk 2 _ rfl⟩)
  have D' := Aside0.mk (show Below w.heap.size w W2 by rw [hW2]; exact D.out.setCell A.out.base _)
  clear A D hW2
  have A := A'
  have D := D'
  clear A' D'
  obtain ⟨o0, o1, o2, o3, o4, o5, o6, o7, o8, o9⟩ := A.out.free
  obtain ⟨c0, c1, c2, c3, c4, c5, c6, c7, c8, c9⟩ := A.out.read
  go_upto_region 26 with (fail)
  clear o0 o1 o2 o3 o4 o5 o6 o7 o8 o9 c0 c1 c2 c3 c4 c5 c6 c7 c8 c9
  obtain ⟨W3, hW3⟩ : ∃ W, W = W2.setCell ⟨g, 7, none⟩ (.int .i64 X) := ⟨_, rfl⟩
  rw [← hW3]
  have A' := Aside0.mk (show Box w W3 g (ten 14 a1 ID E0 E0 E0 E0 X 0 0) by rw [hW3]; exact ⟨A.out.base, blk_put A.out.blk 7 _ rfl⟩)
  have D' := Aside0.mk (show Below w.heap.size w W3 by rw [hW3]; exact D.out.setCell A.out.base _)
  clear A D hW3
  have A := A'
  have D := D'
  clear A' D'
  go_upto_region 28 with (first | ((with_reducible refine gate_dst (N := 82) rfl ?_); refine wpList_load_row ?hgd_82 24 (.tmp 12) ?ho_82 g ?hx_82 ?t_82 ?cs_82 ?fr_82 ?d_82 ?hg_82 ?hu_82 ?hd_82 ?hi_82 ?_; (case hgd_82 => rfl); (case ho_82 => rfl); (case hx_82 => rfl); (case hg_82 => exact A.out.blk); (case hu_82 => exact Tryd.underlying24); (case hd_82 => rfl); (case hi_82 => exact size24)) | ((with_reducible refine gate_dst (N := 83) rfl ?_); (with_reducible refine gate_callee (f := 13) rfl ?_); refine goesL_ (some 83) rfl rfl Tryd.func13 (by kernel_rfl) rfl #[.agg (ten 14 a1 ID E0 E0 E0 E0 X 0 0)] rfl (by (try simp only [List.map_toArray, List.map_cons, List.map_nil]); first | done | rfl) ?_; refine (event_Encode.calls 14 a1 ID E0 E0 E0 E0 X 0 0 L _ _ (HG.out.below D.out) HE.out).mono ?_; rintro e wz_ ⟨v0, rfl, hR, hb⟩; obtain ⟨q0, k0, rfl, hk0_, hC⟩ := Kd.R_reads hR; refine ⟨_, rfl, ?_⟩; have K0 := Aside0.mk hk0_; clear hk0_; have C0 := Aside0.mk hC; clear hC hR; have n0_ := Aside0.mk (below_step D.out hb); have n1_ := Aside0.mk (A.out.then_ hb); clear D; clear A; have D := n0_; have A := n1_; clear n0_ n1_; clear hb) | ((with_reducible refine gate_dst (N := 88) rfl ?_); (with_reducible refine gate_callee (f := 17) rfl ?_); refine goesL_ (some 88) rfl rfl Tryd.func17 (by kernel_rfl) rfl #[.slice q0 L.length k0] rfl (by (try simp only [List.map_toArray, List.map_cons, List.map_nil]); first | done | rfl) ?_; refine (dec_w q0 k0 L.length L rfl K0.out (HG.out.below D.out) C0.out HD.out).mono ?_; rintro e wz_ ⟨rfl, hb⟩; refine ⟨_, rfl, ?_⟩; have n0_ := Aside0.mk (below_step D.out hb); have n1_ := Aside0.mk (A.out.then_ hb); clear D; clear A; have D := n0_; have A := n1_; clear n0_ n1_; clear hb))
  have F := Aside0.mk (Box.fresh D.out (ten 14 a1 ID E0 E0 E0 E0 X 0 0))
  have A' := Aside0.mk (A.out.alloc (.cells (ten 14 a1 ID E0 E0 E0 E0 X 0 0) 24))
  have D' := Aside0.mk (below_alloc D.out (.cells (ten 14 a1 ID E0 E0 E0 E0 X 0 0) 24))
  clear A D
  have A := A'
  have D := D'
  clear A' D'
  obtain ⟨c0, c1, c2, c3, c4, c5, c6, c7, c8, c9⟩ := A.out.read
  go_wp2_with (fail)
  clear c0 c1 c2 c3 c4 c5 c6 c7 c8 c9
  refine (event_Right.calls 14 a1 ID E0 E0 E0 E0 X 0 0 true _ (HG.out.below D.out) HR.out).mono ?_
  rintro e wz2 ⟨rfl, hb⟩
  have A' := Aside0.mk (A.out.then_ hb)
  have F' := Aside0.mk (F.out.then_ hb)
  have D' := Aside0.mk (below_step D.out hb)
  clear A D F hb
  obtain ⟨c0, c1, c2, c3, c4, c5, c6, c7, c8, c9⟩ := A'.out.read
  obtain ⟨d0, d1, d2, d3, d4, d5, d6, d7, d8, d9⟩ := F'.out.read
  go_wp2
  go_ret
  exact ⟨rfl, D'.out⟩
end Go.Proofs.YtmlhlcdamppbfaaDoor.Xa
