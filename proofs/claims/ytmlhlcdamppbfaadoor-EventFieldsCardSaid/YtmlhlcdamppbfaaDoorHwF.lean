/- The law EventFields: its walk, by hand, field by field. -/
import Derived.Test.YtmlhlcdamppbfaaDoorEvW
import Derived.Deep.Cut
namespace Go.Proofs.YtmlhlcdamppbfaaDoor.Xa
open Go.RowKit Go.Proofs.YtmlhlcdamppbfaaDoor.Ext Go.Proofs.YtmlhlcdamppbfaaDoor.Pure Go.Proofs.YtmlhlcdamppbfaaDoorW.PrintWords Go.Proofs.YtmlhlcdamppbfaaDoorW.PrintLast Go.Proofs.YtmlhlcdamppbfaaDoorW.PrintMore
attribute [local go_sem] max2_int min2_int max_two min_two max_three min_three max_four min_four
set_option linter.unusedVariables false
set_option linter.unusedSimpArgs false
theorem byte_beq (c d : UInt8) : Value.bool ((c.toNat : Int) == (d.toNat : Int)) = Value.bool (c == d) := by
  congr 1
  rw [Bool.eq_iff_iff]
  simp only [beq_iff_eq]
  exact ⟨fun h => UInt8.toNat_inj.1 (by omega), fun h => by rw [h]⟩
/-- The kinds' letters. -/
def hasL : List ByteArray := [⟨#[]⟩, ⟨#[65]⟩, ⟨#[65]⟩, ⟨#[65, 66, 67, 68, 88, 89, 90]⟩, ⟨#[65, 66]⟩, ⟨#[]⟩, ⟨#[65, 66]⟩, ⟨#[88]⟩, ⟨#[]⟩, ⟨#[65, 66]⟩, ⟨#[88]⟩, ⟨#[65]⟩, ⟨#[65]⟩, ⟨#[]⟩, ⟨#[88]⟩]
def hasN (h : ByteArray) (c : UInt8) (k : Nat) : Bool := (h.data.toList.take k).any (· == c)
theorem hasN_succ (h : ByteArray) (c : UInt8) (k : Nat) (hk : k < h.size) : hasN h c (k + 1) = (hasN h c k || h[k] == c) := by
  unfold hasN
  rw [List.take_succ_eq_append_getElem (by simpa using hk)]
  simp only [List.any_append, List.any_cons, List.any_nil, Bool.or_false]
  rfl
set_option maxHeartbeats 2000000 in
set_option maxRecDepth 100000 in
theorem fields_no (a0 a1 a2 : Int) (a3 a4 a5 a6 : ByteArray) (a7 a8 a9 : Int) (x3 x4 x5 x6 : ByteArray) (fi : Int) (v2 : ByteArray) (n : Int)
    (hc0 : ∀ w, Calls Tryd.prog 12 #[.agg (ten a0 a1 a2 a3 a4 a5 a6 a7 a8 a9)] w fun e w' => e = .returned (.agg (ten a0 a1 a2 x3 x4 x5 x6 a7 a8 a9)) ∧ Below w.heap.size w w')
    (hX : event_Right.f a0 a1 a2 x3 x4 x5 x6 a7 a8 a9 = some false) (w : World) (hG : Glob w) :
    Calls Tryd.prog 8 #[.agg (ten a0 a1 a2 a3 a4 a5 a6 a7 a8 a9), .int .i64 fi, .string v2, .int .i64 n] w fun e w' => e = .returned (.bool true) ∧ Below w.heap.size w w' := by
  have HG := Aside0.mk hG
  have HC0 := Aside0.mk hc0
  have HX := Aside0.mk hX
  clear hG hc0 hX
  go_enter Tryd.func8, Tryd.ntmps8
  go_upto_region 1 with (fail)
  obtain ⟨g, hg⟩ : ∃ g, g = w.heap.size := ⟨_, rfl⟩
  obtain ⟨W1, hW1⟩ : ∃ W, W = w.alloc (.cells (ten a0 a1 a2 a3 a4 a5 a6 a7 a8 a9) 24) := ⟨_, rfl⟩
  rw [← hW1, ← hg]
  have A := Aside0.mk (show Box w W1 g (ten a0 a1 a2 a3 a4 a5 a6 a7 a8 a9) by rw [hW1, hg]; exact Box.new (Nat.le_refl _) _)
  have D := Aside0.mk (show Below w.heap.size w W1 by rw [hW1]; exact below_alloc (Below.refl _ _) _)
  clear hW1 hg
  go_upto_if 22 with (first | ((with_reducible refine gate_dst (N := 17) rfl ?_); (with_reducible refine gate_callee (f := 11) rfl ?_); refine goesL_ (some 17) rfl rfl Tryd.func11 (by kernel_rfl) rfl #[] rfl (by (try simp only [List.map_toArray, List.map_cons, List.map_nil]); first | done | rfl) ?_; refine (transeptlaw05_shown.calls true _ (HG.out.below D.out) rfl).mono ?_; rintro e wz_ ⟨rfl, hb⟩; refine ⟨_, rfl, ?_⟩; have n0_ := Aside0.mk (below_step D.out hb); have n1_ := Aside0.mk (A.out.then_ hb); clear D; clear A; have D := n0_; have A := n1_; clear n0_ n1_; clear hb) | ((with_reducible refine gate_dst (N := 18) rfl ?_); refine wpList_load_row ?hgd_18 24 (.tmp 4) ?ho_18 g ?hx_18 ?t_18 ?cs_18 ?fr_18 ?d_18 ?hg_18 ?hu_18 ?hd_18 ?hi_18 ?_; (case hgd_18 => rfl); (case ho_18 => rfl); (case hx_18 => rfl); (case hg_18 => exact A.out.blk); (case hu_18 => exact Tryd.underlying24); (case hd_18 => rfl); (case hi_18 => exact size24)) | ((with_reducible refine gate_dst (N := 20) rfl ?_); refine wpList_load_row ?hgd_20 24 (.tmp 4) ?ho_20 g ?hx_20 ?t_20 ?cs_20 ?fr_20 ?d_20 ?hg_20 ?hu_20 ?hd_20 ?hi_20 ?_; (case hgd_20 => rfl); (case ho_20 => rfl); (case hx_20 => rfl); (case hg_20 => exact A.out.blk); (case hu_20 => exact Tryd.underlying24); (case hd_20 => rfl); (case hi_20 => exact size24)) | ((with_reducible refine gate_dst (N := 19) rfl ?_); (with_reducible refine gate_callee (f := 12) rfl ?_); refine goesL_ (some 19) rfl rfl Tryd.func12 (by kernel_rfl) rfl #[.agg (ten a0 a1 a2 a3 a4 a5 a6 a7 a8 a9)] rfl (by (try simp only [List.map_toArray, List.map_cons, List.map_nil]); first | done | rfl) ?_; refine (HC0.out _).mono ?_; rintro e wz_ ⟨rfl, hb⟩; refine ⟨_, rfl, ?_⟩; have n0_ := Aside0.mk (below_step D.out hb); have n1_ := Aside0.mk (A.out.then_ hb); clear D; clear A; have D := n0_; have A := n1_; clear n0_ n1_; clear hb) | ((with_reducible refine gate_store (p := 4) rfl ?_); refine wpList_store_row ?hgd_s19 24 (.tmp 4) (.tmp 19) ?ho_s19 g (ten a0 a1 a2 x3 x4 x5 x6 a7 a8 a9) ?hx_s19 ?hy_s19 ?t_s19 ?old_s19 ?hg_s19 ?hi_s19 ?hold_s19 ?h1_s19 ?_; (case hgd_s19 => rfl); (case ho_s19 => rfl); (case hx_s19 => rfl); (case hy_s19 => rfl); (case hg_s19 => exact A.out.blk); (case hi_s19 => exact size24); (case hold_s19 => rfl); (case h1_s19 => exact ten_one _ _ _ _ _ _ _ _ _ _); have n0_ := Aside0.mk (setRow_below D.out A.out.base (ten a0 a1 a2 x3 x4 x5 x6 a7 a8 a9)); have n1_ := Aside0.mk (Box.row A.out (ten a0 a1 a2 x3 x4 x5 x6 a7 a8 a9)); clear D; clear A; have D := n0_; have A := n1_; clear n0_ n1_) | ((with_reducible refine gate_dst (N := 21) rfl ?_); (with_reducible refine gate_callee (f := 15) rfl ?_); refine goesL_ (some 21) rfl rfl Tryd.func15 (by kernel_rfl) rfl #[.agg (ten a0 a1 a2 x3 x4 x5 x6 a7 a8 a9)] rfl (by (try simp only [List.map_toArray, List.map_cons, List.map_nil]); first | done | rfl) ?_; refine (event_Right.calls a0 a1 a2 x3 x4 x5 x6 a7 a8 a9 false _ (HG.out.below D.out) HX.out).mono ?_; rintro e wz_ ⟨rfl, hb⟩; refine ⟨_, rfl, ?_⟩; have n0_ := Aside0.mk (below_step D.out hb); have n1_ := Aside0.mk (A.out.then_ hb); clear D; clear A; have D := n0_; have A := n1_; clear n0_ n1_; clear hb))
  go_wp2
  go_ret
  exact ⟨rfl, D.out⟩
set_option maxHeartbeats 4000000 in
set_option maxRecDepth 100000 in
theorem fields_yes0_7 (a1 a2 : Int) (a3 a4 a5 a6 : ByteArray) (a7 a8 a9 : Int) (x3 x4 x5 x6 : ByteArray) (fi : Int) (v2 : ByteArray) (n : Int)
    (hc0 : ∀ w, Calls Tryd.prog 12 #[.agg (ten 7 a1 a2 a3 a4 a5 a6 a7 a8 a9)] w fun e w' => e = .returned (.agg (ten 7 a1 a2 x3 x4 x5 x6 a7 a8 a9)) ∧ Below w.heap.size w w')
    (hX : event_Right.f 7 a1 a2 x3 x4 x5 x6 a7 a8 a9 = some true) (w : World) (hG : Glob w)
    (hs : ByteArray) (hhas : hasL[7]? = some hs) (hsz : hs.size ≤ 7)
    (n2 : Nat) (s : ByteArray) (hm2 : (if 100 < (v2.size : Int) then 100 else (v2.size : Int)) = (n2 : Int)) (h2 : n2 ≤ v2.size) (hss : v2.extract 0 n2 = s) (hz2 : v2.size ≤ 140737488351232)
    (I : Int) (hI : Go.bits .and .i64 fi 65535 = I) (hI0 : 0 ≤ I) (hJ : I % 7 = 0) (rr : Bool) (hR : event_Right.f 7 a1 a2 s x4 x5 x6 a7 a8 a9 = some rr)
    (hfin : (rr == (hasN hs 65 hs.size || s.toList.isEmpty)) = true) :
    Calls Tryd.prog 8 #[.agg (ten 7 a1 a2 a3 a4 a5 a6 a7 a8 a9), .int .i64 fi, .string v2, .int .i64 n] w fun e w' => e = .returned (.bool true) ∧ Below w.heap.size w w' := by
  have HG := Aside0.mk hG
  have HC0 := Aside0.mk hc0
  have HX := Aside0.mk hX
  clear hG hc0 hX
  have HR := Aside0.mk hR
  have HFIN := Aside0.mk hfin
  have HHAS := Aside0.mk hhas
  clear hR hfin hhas
  go_enter Tryd.func8, Tryd.ntmps8
  go_upto_region 1 with (fail)
  obtain ⟨g, hg⟩ : ∃ g, g = w.heap.size := ⟨_, rfl⟩
  obtain ⟨W1, hW1⟩ : ∃ W, W = w.alloc (.cells (ten 7 a1 a2 a3 a4 a5 a6 a7 a8 a9) 24) := ⟨_, rfl⟩
  rw [← hW1, ← hg]
  have A := Aside0.mk (show Box w W1 g (ten 7 a1 a2 a3 a4 a5 a6 a7 a8 a9) by rw [hW1, hg]; exact Box.new (Nat.le_refl _) _)
  have D := Aside0.mk (show Below w.heap.size w W1 by rw [hW1]; exact below_alloc (Below.refl _ _) _)
  clear hW1 hg
  go_upto_if 22 with (first | ((with_reducible refine gate_dst (N := 17) rfl ?_); (with_reducible refine gate_callee (f := 11) rfl ?_); refine goesL_ (some 17) rfl rfl Tryd.func11 (by kernel_rfl) rfl #[] rfl (by (try simp only [List.map_toArray, List.map_cons, List.map_nil]); first | done | rfl) ?_; refine (transeptlaw05_shown.calls true _ (HG.out.below D.out) rfl).mono ?_; rintro e wz_ ⟨rfl, hb⟩; refine ⟨_, rfl, ?_⟩; have n0_ := Aside0.mk (below_step D.out hb); have n1_ := Aside0.mk (A.out.then_ hb); clear D; clear A; have D := n0_; have A := n1_; clear n0_ n1_; clear hb) | ((with_reducible refine gate_dst (N := 18) rfl ?_); refine wpList_load_row ?hgd_18 24 (.tmp 4) ?ho_18 g ?hx_18 ?t_18 ?cs_18 ?fr_18 ?d_18 ?hg_18 ?hu_18 ?hd_18 ?hi_18 ?_; (case hgd_18 => rfl); (case ho_18 => rfl); (case hx_18 => rfl); (case hg_18 => exact A.out.blk); (case hu_18 => exact Tryd.underlying24); (case hd_18 => rfl); (case hi_18 => exact size24)) | ((with_reducible refine gate_dst (N := 20) rfl ?_); refine wpList_load_row ?hgd_20 24 (.tmp 4) ?ho_20 g ?hx_20 ?t_20 ?cs_20 ?fr_20 ?d_20 ?hg_20 ?hu_20 ?hd_20 ?hi_20 ?_; (case hgd_20 => rfl); (case ho_20 => rfl); (case hx_20 => rfl); (case hg_20 => exact A.out.blk); (case hu_20 => exact Tryd.underlying24); (case hd_20 => rfl); (case hi_20 => exact size24)) | ((with_reducible refine gate_dst (N := 19) rfl ?_); (with_reducible refine gate_callee (f := 12) rfl ?_); refine goesL_ (some 19) rfl rfl Tryd.func12 (by kernel_rfl) rfl #[.agg (ten 7 a1 a2 a3 a4 a5 a6 a7 a8 a9)] rfl (by (try simp only [List.map_toArray, List.map_cons, List.map_nil]); first | done | rfl) ?_; refine (HC0.out _).mono ?_; rintro e wz_ ⟨rfl, hb⟩; refine ⟨_, rfl, ?_⟩; have n0_ := Aside0.mk (below_step D.out hb); have n1_ := Aside0.mk (A.out.then_ hb); clear D; clear A; have D := n0_; have A := n1_; clear n0_ n1_; clear hb) | ((with_reducible refine gate_store (p := 4) rfl ?_); refine wpList_store_row ?hgd_s19 24 (.tmp 4) (.tmp 19) ?ho_s19 g (ten 7 a1 a2 x3 x4 x5 x6 a7 a8 a9) ?hx_s19 ?hy_s19 ?t_s19 ?old_s19 ?hg_s19 ?hi_s19 ?hold_s19 ?h1_s19 ?_; (case hgd_s19 => rfl); (case ho_s19 => rfl); (case hx_s19 => rfl); (case hy_s19 => rfl); (case hg_s19 => exact A.out.blk); (case hi_s19 => exact size24); (case hold_s19 => rfl); (case h1_s19 => exact ten_one _ _ _ _ _ _ _ _ _ _); have n0_ := Aside0.mk (setRow_below D.out A.out.base (ten 7 a1 a2 x3 x4 x5 x6 a7 a8 a9)); have n1_ := Aside0.mk (Box.row A.out (ten 7 a1 a2 x3 x4 x5 x6 a7 a8 a9)); clear D; clear A; have D := n0_; have A := n1_; clear n0_ n1_) | ((with_reducible refine gate_dst (N := 21) rfl ?_); (with_reducible refine gate_callee (f := 15) rfl ?_); refine goesL_ (some 21) rfl rfl Tryd.func15 (by kernel_rfl) rfl #[.agg (ten 7 a1 a2 x3 x4 x5 x6 a7 a8 a9)] rfl (by (try simp only [List.map_toArray, List.map_cons, List.map_nil]); first | done | rfl) ?_; refine (event_Right.calls 7 a1 a2 x3 x4 x5 x6 a7 a8 a9 true _ (HG.out.below D.out) HX.out).mono ?_; rintro e wz_ ⟨rfl, hb⟩; refine ⟨_, rfl, ?_⟩; have n0_ := Aside0.mk (below_step D.out hb); have n1_ := Aside0.mk (A.out.then_ hb); clear D; clear A; have D := n0_; have A := n1_; clear n0_ n1_; clear hb))
  go_upto_region 6 with (fail)
  clear hm2 h2 hss
  have e0 : ∀ o, (wz_.alloc o).cell? ⟨g, 0, none⟩ = some (.int .i64 7) := fun o => (A.out.alloc o).read.1
  have e1 : (wz_.alloc (.cells (hasL.map Value.string).toArray 9)).cell? ⟨wz_.heap.size, 7, none⟩ = some (.string hs) := by
    rw [cell_of_row _ _ _ _ _ _ (heap_alloc_new wz_ _)]
    simp only [List.getElem?_toArray, List.getElem?_map, HHAS.out, Option.map_some]
  simp only [hasL, List.map_cons, List.map_nil] at e1
  go_upto_region 7 with (fail)
  obtain ⟨W2, hW2⟩ : ∃ W, W = wz_.alloc (.cells (hasL.map Value.string).toArray 9) := ⟨_, rfl⟩
  have A' := Aside0.mk (show Box w W2 g (ten 7 a1 a2 x3 x4 x5 x6 a7 a8 a9) by rw [hW2]; exact A.out.alloc _)
  have D' := Aside0.mk (show Below w.heap.size w W2 by rw [hW2]; exact below_alloc D.out _)
  simp only [hasL, List.map_cons, List.map_nil] at hW2
  rw [← hW2]
  clear A D hW2 e0 e1
  have A := A'
  have D := D'
  clear A' D'
  obtain ⟨c0, c1, c2, c3, c4, c5, c6, c7, c8, c9⟩ := A.out.read
  go_upto_region 13 with (fail)
  clear c0 c1 c2 c3 c4 c5 c6 c7 c8 c9
  obtain ⟨h, hh⟩ : ∃ h, h = W2.heap.size := ⟨_, rfl⟩
  obtain ⟨W3, hW3⟩ : ∃ W, W = W2.alloc (.cells (ten 7 a1 a2 x3 x4 x5 x6 a7 a8 a9) 24) := ⟨_, rfl⟩
  rw [← hW3, ← hh]
  have B := Aside0.mk (show Box w W3 h (ten 7 a1 a2 x3 x4 x5 x6 a7 a8 a9) by rw [hW3, hh]; exact Box.fresh D.out _)
  have D' := Aside0.mk (show Below w.heap.size w W3 by rw [hW3]; exact below_alloc D.out _)
  clear A D hW3 hh
  have D := D'
  clear D'
  obtain ⟨o0, o1, o2, o3, o4, o5, o6, o7, o8, o9⟩ := B.out.free
  obtain ⟨c0, c1, c2, c3, c4, c5, c6, c7, c8, c9⟩ := B.out.read
  go_upto_region 30 with (fail)
  clear o0 o1 o2 o3 o4 o5 o6 o7 o8 o9 c0 c1 c2 c3 c4 c5 c6 c7 c8 c9
  obtain ⟨W4, hW4⟩ : ∃ W, W = W3.setCell ⟨h, 3, none⟩ (.string s) := ⟨_, rfl⟩
  rw [← hW4]
  have B' := Aside0.mk (show Box w W4 h (ten 7 a1 a2 s x4 x5 x6 a7 a8 a9) by rw [hW4]; exact ⟨B.out.base, blk_put B.out.blk 3 _ rfl⟩)
  have D' := Aside0.mk (show Below w.heap.size w W4 by rw [hW4]; exact D.out.setCell B.out.base _)
  clear B D hW4
  have B := B'
  have D := D'
  have HJ := Aside0.mk hJ
  clear B' D' hI hI0
  go_wp2_with (fail)
  go_loopg [15, 16] hs.size (fun m v15 v16 wc => ∃ i : Nat, v16 = .int .i64 i ∧ i + m = hs.size ∧ v15 = .bool (hasN hs 65 i) ∧ ∃ d, wc = W4.drewN d)
  case atStart => exact ⟨0, rfl, by simp, rfl, 0, rfl⟩
  case round =>
    obtain ⟨i, rfl, hm, rfl, d, rfl⟩ := hrel
    obtain ⟨b, hb⟩ : ∃ b, hasN hs 65 i = b := ⟨_, rfl⟩
    rw [hb]
    by_cases hi : i < hs.size
    · have hn := Aside0.mk (hasN_succ hs 65 i hi)
      have HB := Aside0.mk hb
      clear hb
      have hfi : I % 7 = 0 := HJ.out
      cases b
      · go_upto_region 34 with (fail)
        go_quiet (fail)
        go_wp2
        go_roundg (gk - 1)
        case measure => omega
        case rel => exact ⟨i + 1, by go_num, by omega, by rw [hn.out, HB.out, Bool.false_or]; exact byte_beq _ _, d + nq, rfl⟩
      · go_upto_region 34 with (fail)
        go_quiet (fail)
        go_wp2
        go_roundg (gk - 1)
        case measure => omega
        case rel => exact ⟨i + 1, by go_num, by omega, by rw [hn.out, HB.out, Bool.true_or], d + nq, rfl⟩
    · obtain rfl : i = hs.size := by omega
      have HF := HFIN.out
      rw [hb] at HF
      have B1 := Aside0.mk (B.out.drewN d)
      have D1 := Aside0.mk (pw_below_drewN D.out d)
      obtain ⟨c0, c1, c2, c3, c4, c5, c6, c7, c8, c9⟩ := B1.out.read
      clear hb B D
      go_wp2_with (fail)
      refine (event_Right.calls 7 a1 a2 s x4 x5 x6 a7 a8 a9 rr _ (HG.out.below D1.out) HR.out).mono ?_
      rintro e wz2 ⟨rfl, hb⟩
      have D2 := Aside0.mk (below_step D1.out hb)
      clear hb c0 c1 c2 c3 c4 c5 c6 c7 c8 c9 B1 D1
      cases b
      · have hse : s.toList.isEmpty = rr := by revert HF; cases rr <;> cases s.toList.isEmpty <;> simp
        have hse2 : (s.toList == ([] : List UInt8)) = rr := by rw [← hse]; cases s.toList <;> rfl
        clear HF
        cases rr
        · go_wp2
          go_ret
          exact ⟨rfl, D2.out⟩
        · go_wp2
          go_ret
          exact ⟨rfl, D2.out⟩
      · obtain rfl : rr = true := by revert HF; cases rr <;> simp
        clear HF
        go_wp2
        go_ret
        exact ⟨rfl, D2.out⟩
set_option maxHeartbeats 4000000 in
set_option maxRecDepth 100000 in
theorem fields_yes0_10 (a1 a2 : Int) (a3 a4 a5 a6 : ByteArray) (a7 a8 a9 : Int) (x3 x4 x5 x6 : ByteArray) (fi : Int) (v2 : ByteArray) (n : Int)
    (hc0 : ∀ w, Calls Tryd.prog 12 #[.agg (ten 10 a1 a2 a3 a4 a5 a6 a7 a8 a9)] w fun e w' => e = .returned (.agg (ten 10 a1 a2 x3 x4 x5 x6 a7 a8 a9)) ∧ Below w.heap.size w w')
    (hX : event_Right.f 10 a1 a2 x3 x4 x5 x6 a7 a8 a9 = some true) (w : World) (hG : Glob w)
    (hs : ByteArray) (hhas : hasL[10]? = some hs) (hsz : hs.size ≤ 7)
    (n2 : Nat) (s : ByteArray) (hm2 : (if 100 < (v2.size : Int) then 100 else (v2.size : Int)) = (n2 : Int)) (h2 : n2 ≤ v2.size) (hss : v2.extract 0 n2 = s) (hz2 : v2.size ≤ 140737488351232)
    (I : Int) (hI : Go.bits .and .i64 fi 65535 = I) (hI0 : 0 ≤ I) (hJ : I % 7 = 0) (rr : Bool) (hR : event_Right.f 10 a1 a2 s x4 x5 x6 a7 a8 a9 = some rr)
    (hfin : (rr == (hasN hs 65 hs.size || s.toList.isEmpty)) = true) :
    Calls Tryd.prog 8 #[.agg (ten 10 a1 a2 a3 a4 a5 a6 a7 a8 a9), .int .i64 fi, .string v2, .int .i64 n] w fun e w' => e = .returned (.bool true) ∧ Below w.heap.size w w' := by
  have HG := Aside0.mk hG
  have HC0 := Aside0.mk hc0
  have HX := Aside0.mk hX
  clear hG hc0 hX
  have HR := Aside0.mk hR
  have HFIN := Aside0.mk hfin
  have HHAS := Aside0.mk hhas
  clear hR hfin hhas
  go_enter Tryd.func8, Tryd.ntmps8
  go_upto_region 1 with (fail)
  obtain ⟨g, hg⟩ : ∃ g, g = w.heap.size := ⟨_, rfl⟩
  obtain ⟨W1, hW1⟩ : ∃ W, W = w.alloc (.cells (ten 10 a1 a2 a3 a4 a5 a6 a7 a8 a9) 24) := ⟨_, rfl⟩
  rw [← hW1, ← hg]
  have A := Aside0.mk (show Box w W1 g (ten 10 a1 a2 a3 a4 a5 a6 a7 a8 a9) by rw [hW1, hg]; exact Box.new (Nat.le_refl _) _)
  have D := Aside0.mk (show Below w.heap.size w W1 by rw [hW1]; exact below_alloc (Below.refl _ _) _)
  clear hW1 hg
  go_upto_if 22 with (first | ((with_reducible refine gate_dst (N := 17) rfl ?_); (with_reducible refine gate_callee (f := 11) rfl ?_); refine goesL_ (some 17) rfl rfl Tryd.func11 (by kernel_rfl) rfl #[] rfl (by (try simp only [List.map_toArray, List.map_cons, List.map_nil]); first | done | rfl) ?_; refine (transeptlaw05_shown.calls true _ (HG.out.below D.out) rfl).mono ?_; rintro e wz_ ⟨rfl, hb⟩; refine ⟨_, rfl, ?_⟩; have n0_ := Aside0.mk (below_step D.out hb); have n1_ := Aside0.mk (A.out.then_ hb); clear D; clear A; have D := n0_; have A := n1_; clear n0_ n1_; clear hb) | ((with_reducible refine gate_dst (N := 18) rfl ?_); refine wpList_load_row ?hgd_18 24 (.tmp 4) ?ho_18 g ?hx_18 ?t_18 ?cs_18 ?fr_18 ?d_18 ?hg_18 ?hu_18 ?hd_18 ?hi_18 ?_; (case hgd_18 => rfl); (case ho_18 => rfl); (case hx_18 => rfl); (case hg_18 => exact A.out.blk); (case hu_18 => exact Tryd.underlying24); (case hd_18 => rfl); (case hi_18 => exact size24)) | ((with_reducible refine gate_dst (N := 20) rfl ?_); refine wpList_load_row ?hgd_20 24 (.tmp 4) ?ho_20 g ?hx_20 ?t_20 ?cs_20 ?fr_20 ?d_20 ?hg_20 ?hu_20 ?hd_20 ?hi_20 ?_; (case hgd_20 => rfl); (case ho_20 => rfl); (case hx_20 => rfl); (case hg_20 => exact A.out.blk); (case hu_20 => exact Tryd.underlying24); (case hd_20 => rfl); (case hi_20 => exact size24)) | ((with_reducible refine gate_dst (N := 19) rfl ?_); (with_reducible refine gate_callee (f := 12) rfl ?_); refine goesL_ (some 19) rfl rfl Tryd.func12 (by kernel_rfl) rfl #[.agg (ten 10 a1 a2 a3 a4 a5 a6 a7 a8 a9)] rfl (by (try simp only [List.map_toArray, List.map_cons, List.map_nil]); first | done | rfl) ?_; refine (HC0.out _).mono ?_; rintro e wz_ ⟨rfl, hb⟩; refine ⟨_, rfl, ?_⟩; have n0_ := Aside0.mk (below_step D.out hb); have n1_ := Aside0.mk (A.out.then_ hb); clear D; clear A; have D := n0_; have A := n1_; clear n0_ n1_; clear hb) | ((with_reducible refine gate_store (p := 4) rfl ?_); refine wpList_store_row ?hgd_s19 24 (.tmp 4) (.tmp 19) ?ho_s19 g (ten 10 a1 a2 x3 x4 x5 x6 a7 a8 a9) ?hx_s19 ?hy_s19 ?t_s19 ?old_s19 ?hg_s19 ?hi_s19 ?hold_s19 ?h1_s19 ?_; (case hgd_s19 => rfl); (case ho_s19 => rfl); (case hx_s19 => rfl); (case hy_s19 => rfl); (case hg_s19 => exact A.out.blk); (case hi_s19 => exact size24); (case hold_s19 => rfl); (case h1_s19 => exact ten_one _ _ _ _ _ _ _ _ _ _); have n0_ := Aside0.mk (setRow_below D.out A.out.base (ten 10 a1 a2 x3 x4 x5 x6 a7 a8 a9)); have n1_ := Aside0.mk (Box.row A.out (ten 10 a1 a2 x3 x4 x5 x6 a7 a8 a9)); clear D; clear A; have D := n0_; have A := n1_; clear n0_ n1_) | ((with_reducible refine gate_dst (N := 21) rfl ?_); (with_reducible refine gate_callee (f := 15) rfl ?_); refine goesL_ (some 21) rfl rfl Tryd.func15 (by kernel_rfl) rfl #[.agg (ten 10 a1 a2 x3 x4 x5 x6 a7 a8 a9)] rfl (by (try simp only [List.map_toArray, List.map_cons, List.map_nil]); first | done | rfl) ?_; refine (event_Right.calls 10 a1 a2 x3 x4 x5 x6 a7 a8 a9 true _ (HG.out.below D.out) HX.out).mono ?_; rintro e wz_ ⟨rfl, hb⟩; refine ⟨_, rfl, ?_⟩; have n0_ := Aside0.mk (below_step D.out hb); have n1_ := Aside0.mk (A.out.then_ hb); clear D; clear A; have D := n0_; have A := n1_; clear n0_ n1_; clear hb))
  go_upto_region 6 with (fail)
  clear hm2 h2 hss
  have e0 : ∀ o, (wz_.alloc o).cell? ⟨g, 0, none⟩ = some (.int .i64 10) := fun o => (A.out.alloc o).read.1
  have e1 : (wz_.alloc (.cells (hasL.map Value.string).toArray 9)).cell? ⟨wz_.heap.size, 10, none⟩ = some (.string hs) := by
    rw [cell_of_row _ _ _ _ _ _ (heap_alloc_new wz_ _)]
    simp only [List.getElem?_toArray, List.getElem?_map, HHAS.out, Option.map_some]
  simp only [hasL, List.map_cons, List.map_nil] at e1
  go_upto_region 7 with (fail)
  obtain ⟨W2, hW2⟩ : ∃ W, W = wz_.alloc (.cells (hasL.map Value.string).toArray 9) := ⟨_, rfl⟩
  have A' := Aside0.mk (show Box w W2 g (ten 10 a1 a2 x3 x4 x5 x6 a7 a8 a9) by rw [hW2]; exact A.out.alloc _)
  have D' := Aside0.mk (show Below w.heap.size w W2 by rw [hW2]; exact below_alloc D.out _)
  simp only [hasL, List.map_cons, List.map_nil] at hW2
  rw [← hW2]
  clear A D hW2 e0 e1
  have A := A'
  have D := D'
  clear A' D'
  obtain ⟨c0, c1, c2, c3, c4, c5, c6, c7, c8, c9⟩ := A.out.read
  go_upto_region 13 with (fail)
  clear c0 c1 c2 c3 c4 c5 c6 c7 c8 c9
  obtain ⟨h, hh⟩ : ∃ h, h = W2.heap.size := ⟨_, rfl⟩
  obtain ⟨W3, hW3⟩ : ∃ W, W = W2.alloc (.cells (ten 10 a1 a2 x3 x4 x5 x6 a7 a8 a9) 24) := ⟨_, rfl⟩
  rw [← hW3, ← hh]
  have B := Aside0.mk (show Box w W3 h (ten 10 a1 a2 x3 x4 x5 x6 a7 a8 a9) by rw [hW3, hh]; exact Box.fresh D.out _)
  have D' := Aside0.mk (show Below w.heap.size w W3 by rw [hW3]; exact below_alloc D.out _)
  clear A D hW3 hh
  have D := D'
  clear D'
  obtain ⟨o0, o1, o2, o3, o4, o5, o6, o7, o8, o9⟩ := B.out.free
  obtain ⟨c0, c1, c2, c3, c4, c5, c6, c7, c8, c9⟩ := B.out.read
  go_upto_region 30 with (fail)
  clear o0 o1 o2 o3 o4 o5 o6 o7 o8 o9 c0 c1 c2 c3 c4 c5 c6 c7 c8 c9
  obtain ⟨W4, hW4⟩ : ∃ W, W = W3.setCell ⟨h, 3, none⟩ (.string s) := ⟨_, rfl⟩
  rw [← hW4]
  have B' := Aside0.mk (show Box w W4 h (ten 10 a1 a2 s x4 x5 x6 a7 a8 a9) by rw [hW4]; exact ⟨B.out.base, blk_put B.out.blk 3 _ rfl⟩)
  have D' := Aside0.mk (show Below w.heap.size w W4 by rw [hW4]; exact D.out.setCell B.out.base _)
  clear B D hW4
  have B := B'
  have D := D'
  have HJ := Aside0.mk hJ
  clear B' D' hI hI0
  go_wp2_with (fail)
  go_loopg [15, 16] hs.size (fun m v15 v16 wc => ∃ i : Nat, v16 = .int .i64 i ∧ i + m = hs.size ∧ v15 = .bool (hasN hs 65 i) ∧ ∃ d, wc = W4.drewN d)
  case atStart => exact ⟨0, rfl, by simp, rfl, 0, rfl⟩
  case round =>
    obtain ⟨i, rfl, hm, rfl, d, rfl⟩ := hrel
    obtain ⟨b, hb⟩ : ∃ b, hasN hs 65 i = b := ⟨_, rfl⟩
    rw [hb]
    by_cases hi : i < hs.size
    · have hn := Aside0.mk (hasN_succ hs 65 i hi)
      have HB := Aside0.mk hb
      clear hb
      have hfi : I % 7 = 0 := HJ.out
      cases b
      · go_upto_region 34 with (fail)
        go_quiet (fail)
        go_wp2
        go_roundg (gk - 1)
        case measure => omega
        case rel => exact ⟨i + 1, by go_num, by omega, by rw [hn.out, HB.out, Bool.false_or]; exact byte_beq _ _, d + nq, rfl⟩
      · go_upto_region 34 with (fail)
        go_quiet (fail)
        go_wp2
        go_roundg (gk - 1)
        case measure => omega
        case rel => exact ⟨i + 1, by go_num, by omega, by rw [hn.out, HB.out, Bool.true_or], d + nq, rfl⟩
    · obtain rfl : i = hs.size := by omega
      have HF := HFIN.out
      rw [hb] at HF
      have B1 := Aside0.mk (B.out.drewN d)
      have D1 := Aside0.mk (pw_below_drewN D.out d)
      obtain ⟨c0, c1, c2, c3, c4, c5, c6, c7, c8, c9⟩ := B1.out.read
      clear hb B D
      go_wp2_with (fail)
      refine (event_Right.calls 10 a1 a2 s x4 x5 x6 a7 a8 a9 rr _ (HG.out.below D1.out) HR.out).mono ?_
      rintro e wz2 ⟨rfl, hb⟩
      have D2 := Aside0.mk (below_step D1.out hb)
      clear hb c0 c1 c2 c3 c4 c5 c6 c7 c8 c9 B1 D1
      cases b
      · have hse : s.toList.isEmpty = rr := by revert HF; cases rr <;> cases s.toList.isEmpty <;> simp
        have hse2 : (s.toList == ([] : List UInt8)) = rr := by rw [← hse]; cases s.toList <;> rfl
        clear HF
        cases rr
        · go_wp2
          go_ret
          exact ⟨rfl, D2.out⟩
        · go_wp2
          go_ret
          exact ⟨rfl, D2.out⟩
      · obtain rfl : rr = true := by revert HF; cases rr <;> simp
        clear HF
        go_wp2
        go_ret
        exact ⟨rfl, D2.out⟩
set_option maxHeartbeats 4000000 in
set_option maxRecDepth 100000 in
theorem fields_yes0_o (K : Nat) (a1 a2 : Int) (a3 a4 a5 a6 : ByteArray) (a7 a8 a9 : Int) (x3 x4 x5 x6 : ByteArray) (fi : Int) (v2 : ByteArray) (n : Int)
    (hc0 : ∀ w, Calls Tryd.prog 12 #[.agg (ten (K : Int) a1 a2 a3 a4 a5 a6 a7 a8 a9)] w fun e w' => e = .returned (.agg (ten (K : Int) a1 a2 x3 x4 x5 x6 a7 a8 a9)) ∧ Below w.heap.size w w')
    (hX : event_Right.f (K : Int) a1 a2 x3 x4 x5 x6 a7 a8 a9 = some true) (w : World) (hG : Glob w)
    (hK1 : 1 ≤ K) (hK2 : K ≤ 14) (hK7 : ((K : Int) == 7) = false) (hK10 : ((K : Int) == 10) = false) (hs : ByteArray) (hhas : hasL[K]? = some hs) (hsz : hs.size ≤ 7)
    (n2 : Nat) (s : ByteArray) (hm2 : (if 100 < (v2.size : Int) then 100 else (v2.size : Int)) = (n2 : Int)) (h2 : n2 ≤ v2.size) (hss : v2.extract 0 n2 = s) (hz2 : v2.size ≤ 140737488351232)
    (I : Int) (hI : Go.bits .and .i64 fi 65535 = I) (hI0 : 0 ≤ I) (hJ : I % 7 = 0) (rr : Bool) (hR : event_Right.f (K : Int) a1 a2 s x4 x5 x6 a7 a8 a9 = some rr)
    (hfin : (rr == (hasN hs 65 hs.size || s.toList.isEmpty)) = true) :
    Calls Tryd.prog 8 #[.agg (ten (K : Int) a1 a2 a3 a4 a5 a6 a7 a8 a9), .int .i64 fi, .string v2, .int .i64 n] w fun e w' => e = .returned (.bool true) ∧ Below w.heap.size w w' := by
  have HG := Aside0.mk hG
  have HC0 := Aside0.mk hc0
  have HX := Aside0.mk hX
  clear hG hc0 hX
  have HR := Aside0.mk hR
  have HFIN := Aside0.mk hfin
  have HHAS := Aside0.mk hhas
  clear hR hfin hhas
  go_enter Tryd.func8, Tryd.ntmps8
  go_upto_region 1 with (fail)
  obtain ⟨g, hg⟩ : ∃ g, g = w.heap.size := ⟨_, rfl⟩
  obtain ⟨W1, hW1⟩ : ∃ W, W = w.alloc (.cells (ten (K : Int) a1 a2 a3 a4 a5 a6 a7 a8 a9) 24) := ⟨_, rfl⟩
  rw [← hW1, ← hg]
  have A := Aside0.mk (show Box w W1 g (ten (K : Int) a1 a2 a3 a4 a5 a6 a7 a8 a9) by rw [hW1, hg]; exact Box.new (Nat.le_refl _) _)
  have D := Aside0.mk (show Below w.heap.size w W1 by rw [hW1]; exact below_alloc (Below.refl _ _) _)
  clear hW1 hg
  go_upto_if 22 with (first | ((with_reducible refine gate_dst (N := 17) rfl ?_); (with_reducible refine gate_callee (f := 11) rfl ?_); refine goesL_ (some 17) rfl rfl Tryd.func11 (by kernel_rfl) rfl #[] rfl (by (try simp only [List.map_toArray, List.map_cons, List.map_nil]); first | done | rfl) ?_; refine (transeptlaw05_shown.calls true _ (HG.out.below D.out) rfl).mono ?_; rintro e wz_ ⟨rfl, hb⟩; refine ⟨_, rfl, ?_⟩; have n0_ := Aside0.mk (below_step D.out hb); have n1_ := Aside0.mk (A.out.then_ hb); clear D; clear A; have D := n0_; have A := n1_; clear n0_ n1_; clear hb) | ((with_reducible refine gate_dst (N := 18) rfl ?_); refine wpList_load_row ?hgd_18 24 (.tmp 4) ?ho_18 g ?hx_18 ?t_18 ?cs_18 ?fr_18 ?d_18 ?hg_18 ?hu_18 ?hd_18 ?hi_18 ?_; (case hgd_18 => rfl); (case ho_18 => rfl); (case hx_18 => rfl); (case hg_18 => exact A.out.blk); (case hu_18 => exact Tryd.underlying24); (case hd_18 => rfl); (case hi_18 => exact size24)) | ((with_reducible refine gate_dst (N := 20) rfl ?_); refine wpList_load_row ?hgd_20 24 (.tmp 4) ?ho_20 g ?hx_20 ?t_20 ?cs_20 ?fr_20 ?d_20 ?hg_20 ?hu_20 ?hd_20 ?hi_20 ?_; (case hgd_20 => rfl); (case ho_20 => rfl); (case hx_20 => rfl); (case hg_20 => exact A.out.blk); (case hu_20 => exact Tryd.underlying24); (case hd_20 => rfl); (case hi_20 => exact size24)) | ((with_reducible refine gate_dst (N := 19) rfl ?_); (with_reducible refine gate_callee (f := 12) rfl ?_); refine goesL_ (some 19) rfl rfl Tryd.func12 (by kernel_rfl) rfl #[.agg (ten (K : Int) a1 a2 a3 a4 a5 a6 a7 a8 a9)] rfl (by (try simp only [List.map_toArray, List.map_cons, List.map_nil]); first | done | rfl) ?_; refine (HC0.out _).mono ?_; rintro e wz_ ⟨rfl, hb⟩; refine ⟨_, rfl, ?_⟩; have n0_ := Aside0.mk (below_step D.out hb); have n1_ := Aside0.mk (A.out.then_ hb); clear D; clear A; have D := n0_; have A := n1_; clear n0_ n1_; clear hb) | ((with_reducible refine gate_store (p := 4) rfl ?_); refine wpList_store_row ?hgd_s19 24 (.tmp 4) (.tmp 19) ?ho_s19 g (ten (K : Int) a1 a2 x3 x4 x5 x6 a7 a8 a9) ?hx_s19 ?hy_s19 ?t_s19 ?old_s19 ?hg_s19 ?hi_s19 ?hold_s19 ?h1_s19 ?_; (case hgd_s19 => rfl); (case ho_s19 => rfl); (case hx_s19 => rfl); (case hy_s19 => rfl); (case hg_s19 => exact A.out.blk); (case hi_s19 => exact size24); (case hold_s19 => rfl); (case h1_s19 => exact ten_one _ _ _ _ _ _ _ _ _ _); have n0_ := Aside0.mk (setRow_below D.out A.out.base (ten (K : Int) a1 a2 x3 x4 x5 x6 a7 a8 a9)); have n1_ := Aside0.mk (Box.row A.out (ten (K : Int) a1 a2 x3 x4 x5 x6 a7 a8 a9)); clear D; clear A; have D := n0_; have A := n1_; clear n0_ n1_) | ((with_reducible refine gate_dst (N := 21) rfl ?_); (with_reducible refine gate_callee (f := 15) rfl ?_); refine goesL_ (some 21) rfl rfl Tryd.func15 (by kernel_rfl) rfl #[.agg (ten (K : Int) a1 a2 x3 x4 x5 x6 a7 a8 a9)] rfl (by (try simp only [List.map_toArray, List.map_cons, List.map_nil]); first | done | rfl) ?_; refine (event_Right.calls (K : Int) a1 a2 x3 x4 x5 x6 a7 a8 a9 true _ (HG.out.below D.out) HX.out).mono ?_; rintro e wz_ ⟨rfl, hb⟩; refine ⟨_, rfl, ?_⟩; have n0_ := Aside0.mk (below_step D.out hb); have n1_ := Aside0.mk (A.out.then_ hb); clear D; clear A; have D := n0_; have A := n1_; clear n0_ n1_; clear hb))
  go_upto_region 6 with (fail)
  clear hm2 h2 hss
  have e0 : ∀ o, (wz_.alloc o).cell? ⟨g, 0, none⟩ = some (.int .i64 (K : Int)) := fun o => (A.out.alloc o).read.1
  have e1 : (wz_.alloc (.cells (hasL.map Value.string).toArray 9)).cell? ⟨wz_.heap.size, K, none⟩ = some (.string hs) := by
    rw [cell_of_row _ _ _ _ _ _ (heap_alloc_new wz_ _)]
    simp only [List.getElem?_toArray, List.getElem?_map, HHAS.out, Option.map_some]
  simp only [hasL, List.map_cons, List.map_nil] at e1
  go_upto_region 7 with (fail)
  obtain ⟨W2, hW2⟩ : ∃ W, W = wz_.alloc (.cells (hasL.map Value.string).toArray 9) := ⟨_, rfl⟩
  have A' := Aside0.mk (show Box w W2 g (ten (K : Int) a1 a2 x3 x4 x5 x6 a7 a8 a9) by rw [hW2]; exact A.out.alloc _)
  have D' := Aside0.mk (show Below w.heap.size w W2 by rw [hW2]; exact below_alloc D.out _)
  simp only [hasL, List.map_cons, List.map_nil] at hW2
  rw [← hW2]
  clear A D hW2 e0 e1
  have A := A'
  have D := D'
  clear A' D'
  obtain ⟨c0, c1, c2, c3, c4, c5, c6, c7, c8, c9⟩ := A.out.read
  go_upto_region 13 with (fail)
  clear c0 c1 c2 c3 c4 c5 c6 c7 c8 c9
  obtain ⟨h, hh⟩ : ∃ h, h = W2.heap.size := ⟨_, rfl⟩
  obtain ⟨W3, hW3⟩ : ∃ W, W = W2.alloc (.cells (ten (K : Int) a1 a2 x3 x4 x5 x6 a7 a8 a9) 24) := ⟨_, rfl⟩
  rw [← hW3, ← hh]
  have B := Aside0.mk (show Box w W3 h (ten (K : Int) a1 a2 x3 x4 x5 x6 a7 a8 a9) by rw [hW3, hh]; exact Box.fresh D.out _)
  have D' := Aside0.mk (show Below w.heap.size w W3 by rw [hW3]; exact below_alloc D.out _)
  clear A D hW3 hh
  have D := D'
  clear D'
  obtain ⟨o0, o1, o2, o3, o4, o5, o6, o7, o8, o9⟩ := B.out.free
  obtain ⟨c0, c1, c2, c3, c4, c5, c6, c7, c8, c9⟩ := B.out.read
  go_upto_region 30 with (fail)
  clear o0 o1 o2 o3 o4 o5 o6 o7 o8 o9 c0 c1 c2 c3 c4 c5 c6 c7 c8 c9
  obtain ⟨W4, hW4⟩ : ∃ W, W = W3.setCell ⟨h, 3, none⟩ (.string s) := ⟨_, rfl⟩
  rw [← hW4]
  have B' := Aside0.mk (show Box w W4 h (ten (K : Int) a1 a2 s x4 x5 x6 a7 a8 a9) by rw [hW4]; exact ⟨B.out.base, blk_put B.out.blk 3 _ rfl⟩)
  have D' := Aside0.mk (show Below w.heap.size w W4 by rw [hW4]; exact D.out.setCell B.out.base _)
  clear B D hW4
  have B := B'
  have D := D'
  have HJ := Aside0.mk hJ
  clear B' D' hI hI0
  go_wp2_with (fail)
  go_loopg [15, 16] hs.size (fun m v15 v16 wc => ∃ i : Nat, v16 = .int .i64 i ∧ i + m = hs.size ∧ v15 = .bool (hasN hs 65 i) ∧ ∃ d, wc = W4.drewN d)
  case atStart => exact ⟨0, rfl, by simp, rfl, 0, rfl⟩
  case round =>
    obtain ⟨i, rfl, hm, rfl, d, rfl⟩ := hrel
    obtain ⟨b, hb⟩ : ∃ b, hasN hs 65 i = b := ⟨_, rfl⟩
    rw [hb]
    by_cases hi : i < hs.size
    · have hn := Aside0.mk (hasN_succ hs 65 i hi)
      have HB := Aside0.mk hb
      clear hb
      have hfi : I % 7 = 0 := HJ.out
      cases b
      · go_upto_region 34 with (fail)
        go_quiet (fail)
        go_wp2
        go_roundg (gk - 1)
        case measure => omega
        case rel => exact ⟨i + 1, by go_num, by omega, by rw [hn.out, HB.out, Bool.false_or]; exact byte_beq _ _, d + nq, rfl⟩
      · go_upto_region 34 with (fail)
        go_quiet (fail)
        go_wp2
        go_roundg (gk - 1)
        case measure => omega
        case rel => exact ⟨i + 1, by go_num, by omega, by rw [hn.out, HB.out, Bool.true_or], d + nq, rfl⟩
    · obtain rfl : i = hs.size := by omega
      have HF := HFIN.out
      rw [hb] at HF
      have B1 := Aside0.mk (B.out.drewN d)
      have D1 := Aside0.mk (pw_below_drewN D.out d)
      obtain ⟨c0, c1, c2, c3, c4, c5, c6, c7, c8, c9⟩ := B1.out.read
      clear hb B D
      go_wp2_with (fail)
      refine (event_Right.calls (K : Int) a1 a2 s x4 x5 x6 a7 a8 a9 rr _ (HG.out.below D1.out) HR.out).mono ?_
      rintro e wz2 ⟨rfl, hb⟩
      have D2 := Aside0.mk (below_step D1.out hb)
      clear hb c0 c1 c2 c3 c4 c5 c6 c7 c8 c9 B1 D1
      cases b
      · have hse : s.toList.isEmpty = rr := by revert HF; cases rr <;> cases s.toList.isEmpty <;> simp
        have hse2 : (s.toList == ([] : List UInt8)) = rr := by rw [← hse]; cases s.toList <;> rfl
        clear HF
        cases rr
        · go_wp2
          go_ret
          exact ⟨rfl, D2.out⟩
        · go_wp2
          go_ret
          exact ⟨rfl, D2.out⟩
      · obtain rfl : rr = true := by revert HF; cases rr <;> simp
        clear HF
        go_wp2
        go_ret
        exact ⟨rfl, D2.out⟩
set_option maxHeartbeats 4000000 in
set_option maxRecDepth 100000 in
theorem fields_yes1_7 (a1 a2 : Int) (a3 a4 a5 a6 : ByteArray) (a7 a8 a9 : Int) (x3 x4 x5 x6 : ByteArray) (fi : Int) (v2 : ByteArray) (n : Int)
    (hc0 : ∀ w, Calls Tryd.prog 12 #[.agg (ten 7 a1 a2 a3 a4 a5 a6 a7 a8 a9)] w fun e w' => e = .returned (.agg (ten 7 a1 a2 x3 x4 x5 x6 a7 a8 a9)) ∧ Below w.heap.size w w')
    (hX : event_Right.f 7 a1 a2 x3 x4 x5 x6 a7 a8 a9 = some true) (w : World) (hG : Glob w)
    (hs : ByteArray) (hhas : hasL[7]? = some hs) (hsz : hs.size ≤ 7)
    (n2 : Nat) (s : ByteArray) (hm2 : (if 100 < (v2.size : Int) then 100 else (v2.size : Int)) = (n2 : Int)) (h2 : n2 ≤ v2.size) (hss : v2.extract 0 n2 = s) (hz2 : v2.size ≤ 140737488351232)
    (I : Int) (hI : Go.bits .and .i64 fi 65535 = I) (hI0 : 0 ≤ I) (hJ : I % 7 = 1) (rr : Bool) (hR : event_Right.f 7 a1 a2 x3 s x5 x6 a7 a8 a9 = some rr)
    (hfin : (rr == (hasN hs 66 hs.size || s.toList.isEmpty)) = true) :
    Calls Tryd.prog 8 #[.agg (ten 7 a1 a2 a3 a4 a5 a6 a7 a8 a9), .int .i64 fi, .string v2, .int .i64 n] w fun e w' => e = .returned (.bool true) ∧ Below w.heap.size w w' := by
  have HG := Aside0.mk hG
  have HC0 := Aside0.mk hc0
  have HX := Aside0.mk hX
  clear hG hc0 hX
  have HR := Aside0.mk hR
  have HFIN := Aside0.mk hfin
  have HHAS := Aside0.mk hhas
  clear hR hfin hhas
  go_enter Tryd.func8, Tryd.ntmps8
  go_upto_region 1 with (fail)
  obtain ⟨g, hg⟩ : ∃ g, g = w.heap.size := ⟨_, rfl⟩
  obtain ⟨W1, hW1⟩ : ∃ W, W = w.alloc (.cells (ten 7 a1 a2 a3 a4 a5 a6 a7 a8 a9) 24) := ⟨_, rfl⟩
  rw [← hW1, ← hg]
  have A := Aside0.mk (show Box w W1 g (ten 7 a1 a2 a3 a4 a5 a6 a7 a8 a9) by rw [hW1, hg]; exact Box.new (Nat.le_refl _) _)
  have D := Aside0.mk (show Below w.heap.size w W1 by rw [hW1]; exact below_alloc (Below.refl _ _) _)
  clear hW1 hg
  go_upto_if 22 with (first | ((with_reducible refine gate_dst (N := 17) rfl ?_); (with_reducible refine gate_callee (f := 11) rfl ?_); refine goesL_ (some 17) rfl rfl Tryd.func11 (by kernel_rfl) rfl #[] rfl (by (try simp only [List.map_toArray, List.map_cons, List.map_nil]); first | done | rfl) ?_; refine (transeptlaw05_shown.calls true _ (HG.out.below D.out) rfl).mono ?_; rintro e wz_ ⟨rfl, hb⟩; refine ⟨_, rfl, ?_⟩; have n0_ := Aside0.mk (below_step D.out hb); have n1_ := Aside0.mk (A.out.then_ hb); clear D; clear A; have D := n0_; have A := n1_; clear n0_ n1_; clear hb) | ((with_reducible refine gate_dst (N := 18) rfl ?_); refine wpList_load_row ?hgd_18 24 (.tmp 4) ?ho_18 g ?hx_18 ?t_18 ?cs_18 ?fr_18 ?d_18 ?hg_18 ?hu_18 ?hd_18 ?hi_18 ?_; (case hgd_18 => rfl); (case ho_18 => rfl); (case hx_18 => rfl); (case hg_18 => exact A.out.blk); (case hu_18 => exact Tryd.underlying24); (case hd_18 => rfl); (case hi_18 => exact size24)) | ((with_reducible refine gate_dst (N := 20) rfl ?_); refine wpList_load_row ?hgd_20 24 (.tmp 4) ?ho_20 g ?hx_20 ?t_20 ?cs_20 ?fr_20 ?d_20 ?hg_20 ?hu_20 ?hd_20 ?hi_20 ?_; (case hgd_20 => rfl); (case ho_20 => rfl); (case hx_20 => rfl); (case hg_20 => exact A.out.blk); (case hu_20 => exact Tryd.underlying24); (case hd_20 => rfl); (case hi_20 => exact size24)) | ((with_reducible refine gate_dst (N := 19) rfl ?_); (with_reducible refine gate_callee (f := 12) rfl ?_); refine goesL_ (some 19) rfl rfl Tryd.func12 (by kernel_rfl) rfl #[.agg (ten 7 a1 a2 a3 a4 a5 a6 a7 a8 a9)] rfl (by (try simp only [List.map_toArray, List.map_cons, List.map_nil]); first | done | rfl) ?_; refine (HC0.out _).mono ?_; rintro e wz_ ⟨rfl, hb⟩; refine ⟨_, rfl, ?_⟩; have n0_ := Aside0.mk (below_step D.out hb); have n1_ := Aside0.mk (A.out.then_ hb); clear D; clear A; have D := n0_; have A := n1_; clear n0_ n1_; clear hb) | ((with_reducible refine gate_store (p := 4) rfl ?_); refine wpList_store_row ?hgd_s19 24 (.tmp 4) (.tmp 19) ?ho_s19 g (ten 7 a1 a2 x3 x4 x5 x6 a7 a8 a9) ?hx_s19 ?hy_s19 ?t_s19 ?old_s19 ?hg_s19 ?hi_s19 ?hold_s19 ?h1_s19 ?_; (case hgd_s19 => rfl); (case ho_s19 => rfl); (case hx_s19 => rfl); (case hy_s19 => rfl); (case hg_s19 => exact A.out.blk); (case hi_s19 => exact size24); (case hold_s19 => rfl); (case h1_s19 => exact ten_one _ _ _ _ _ _ _ _ _ _); have n0_ := Aside0.mk (setRow_below D.out A.out.base (ten 7 a1 a2 x3 x4 x5 x6 a7 a8 a9)); have n1_ := Aside0.mk (Box.row A.out (ten 7 a1 a2 x3 x4 x5 x6 a7 a8 a9)); clear D; clear A; have D := n0_; have A := n1_; clear n0_ n1_) | ((with_reducible refine gate_dst (N := 21) rfl ?_); (with_reducible refine gate_callee (f := 15) rfl ?_); refine goesL_ (some 21) rfl rfl Tryd.func15 (by kernel_rfl) rfl #[.agg (ten 7 a1 a2 x3 x4 x5 x6 a7 a8 a9)] rfl (by (try simp only [List.map_toArray, List.map_cons, List.map_nil]); first | done | rfl) ?_; refine (event_Right.calls 7 a1 a2 x3 x4 x5 x6 a7 a8 a9 true _ (HG.out.below D.out) HX.out).mono ?_; rintro e wz_ ⟨rfl, hb⟩; refine ⟨_, rfl, ?_⟩; have n0_ := Aside0.mk (below_step D.out hb); have n1_ := Aside0.mk (A.out.then_ hb); clear D; clear A; have D := n0_; have A := n1_; clear n0_ n1_; clear hb))
  go_upto_region 6 with (fail)
  clear hm2 h2 hss
  have e0 : ∀ o, (wz_.alloc o).cell? ⟨g, 0, none⟩ = some (.int .i64 7) := fun o => (A.out.alloc o).read.1
  have e1 : (wz_.alloc (.cells (hasL.map Value.string).toArray 9)).cell? ⟨wz_.heap.size, 7, none⟩ = some (.string hs) := by
    rw [cell_of_row _ _ _ _ _ _ (heap_alloc_new wz_ _)]
    simp only [List.getElem?_toArray, List.getElem?_map, HHAS.out, Option.map_some]
  simp only [hasL, List.map_cons, List.map_nil] at e1
  go_upto_region 7 with (fail)
  obtain ⟨W2, hW2⟩ : ∃ W, W = wz_.alloc (.cells (hasL.map Value.string).toArray 9) := ⟨_, rfl⟩
  have A' := Aside0.mk (show Box w W2 g (ten 7 a1 a2 x3 x4 x5 x6 a7 a8 a9) by rw [hW2]; exact A.out.alloc _)
  have D' := Aside0.mk (show Below w.heap.size w W2 by rw [hW2]; exact below_alloc D.out _)
  simp only [hasL, List.map_cons, List.map_nil] at hW2
  rw [← hW2]
  clear A D hW2 e0 e1
  have A := A'
  have D := D'
  clear A' D'
  obtain ⟨c0, c1, c2, c3, c4, c5, c6, c7, c8, c9⟩ := A.out.read
  go_upto_region 13 with (fail)
  clear c0 c1 c2 c3 c4 c5 c6 c7 c8 c9
  obtain ⟨h, hh⟩ : ∃ h, h = W2.heap.size := ⟨_, rfl⟩
  obtain ⟨W3, hW3⟩ : ∃ W, W = W2.alloc (.cells (ten 7 a1 a2 x3 x4 x5 x6 a7 a8 a9) 24) := ⟨_, rfl⟩
  rw [← hW3, ← hh]
  have B := Aside0.mk (show Box w W3 h (ten 7 a1 a2 x3 x4 x5 x6 a7 a8 a9) by rw [hW3, hh]; exact Box.fresh D.out _)
  have D' := Aside0.mk (show Below w.heap.size w W3 by rw [hW3]; exact below_alloc D.out _)
  clear A D hW3 hh
  have D := D'
  clear D'
  obtain ⟨o0, o1, o2, o3, o4, o5, o6, o7, o8, o9⟩ := B.out.free
  obtain ⟨c0, c1, c2, c3, c4, c5, c6, c7, c8, c9⟩ := B.out.read
  go_upto_region 30 with (fail)
  clear o0 o1 o2 o3 o4 o5 o6 o7 o8 o9 c0 c1 c2 c3 c4 c5 c6 c7 c8 c9
  obtain ⟨W4, hW4⟩ : ∃ W, W = W3.setCell ⟨h, 4, none⟩ (.string s) := ⟨_, rfl⟩
  rw [← hW4]
  have B' := Aside0.mk (show Box w W4 h (ten 7 a1 a2 x3 s x5 x6 a7 a8 a9) by rw [hW4]; exact ⟨B.out.base, blk_put B.out.blk 4 _ rfl⟩)
  have D' := Aside0.mk (show Below w.heap.size w W4 by rw [hW4]; exact D.out.setCell B.out.base _)
  clear B D hW4
  have B := B'
  have D := D'
  have HJ := Aside0.mk hJ
  clear B' D' hI hI0
  go_wp2_with (fail)
  go_loopg [15, 16] hs.size (fun m v15 v16 wc => ∃ i : Nat, v16 = .int .i64 i ∧ i + m = hs.size ∧ v15 = .bool (hasN hs 66 i) ∧ ∃ d, wc = W4.drewN d)
  case atStart => exact ⟨0, rfl, by simp, rfl, 0, rfl⟩
  case round =>
    obtain ⟨i, rfl, hm, rfl, d, rfl⟩ := hrel
    obtain ⟨b, hb⟩ : ∃ b, hasN hs 66 i = b := ⟨_, rfl⟩
    rw [hb]
    by_cases hi : i < hs.size
    · have hn := Aside0.mk (hasN_succ hs 66 i hi)
      have HB := Aside0.mk hb
      clear hb
      have hfi : I % 7 = 1 := HJ.out
      cases b
      · go_upto_region 34 with (fail)
        go_quiet (fail)
        go_wp2
        go_roundg (gk - 1)
        case measure => omega
        case rel => exact ⟨i + 1, by go_num, by omega, by rw [hn.out, HB.out, Bool.false_or]; exact byte_beq _ _, d + nq, rfl⟩
      · go_upto_region 34 with (fail)
        go_quiet (fail)
        go_wp2
        go_roundg (gk - 1)
        case measure => omega
        case rel => exact ⟨i + 1, by go_num, by omega, by rw [hn.out, HB.out, Bool.true_or], d + nq, rfl⟩
    · obtain rfl : i = hs.size := by omega
      have HF := HFIN.out
      rw [hb] at HF
      have B1 := Aside0.mk (B.out.drewN d)
      have D1 := Aside0.mk (pw_below_drewN D.out d)
      obtain ⟨c0, c1, c2, c3, c4, c5, c6, c7, c8, c9⟩ := B1.out.read
      clear hb B D
      go_wp2_with (fail)
      refine (event_Right.calls 7 a1 a2 x3 s x5 x6 a7 a8 a9 rr _ (HG.out.below D1.out) HR.out).mono ?_
      rintro e wz2 ⟨rfl, hb⟩
      have D2 := Aside0.mk (below_step D1.out hb)
      clear hb c0 c1 c2 c3 c4 c5 c6 c7 c8 c9 B1 D1
      cases b
      · have hse : s.toList.isEmpty = rr := by revert HF; cases rr <;> cases s.toList.isEmpty <;> simp
        have hse2 : (s.toList == ([] : List UInt8)) = rr := by rw [← hse]; cases s.toList <;> rfl
        clear HF
        cases rr
        · go_wp2
          go_ret
          exact ⟨rfl, D2.out⟩
        · go_wp2
          go_ret
          exact ⟨rfl, D2.out⟩
      · obtain rfl : rr = true := by revert HF; cases rr <;> simp
        clear HF
        go_wp2
        go_ret
        exact ⟨rfl, D2.out⟩
set_option maxHeartbeats 4000000 in
set_option maxRecDepth 100000 in
theorem fields_yes1_10 (a1 a2 : Int) (a3 a4 a5 a6 : ByteArray) (a7 a8 a9 : Int) (x3 x4 x5 x6 : ByteArray) (fi : Int) (v2 : ByteArray) (n : Int)
    (hc0 : ∀ w, Calls Tryd.prog 12 #[.agg (ten 10 a1 a2 a3 a4 a5 a6 a7 a8 a9)] w fun e w' => e = .returned (.agg (ten 10 a1 a2 x3 x4 x5 x6 a7 a8 a9)) ∧ Below w.heap.size w w')
    (hX : event_Right.f 10 a1 a2 x3 x4 x5 x6 a7 a8 a9 = some true) (w : World) (hG : Glob w)
    (hs : ByteArray) (hhas : hasL[10]? = some hs) (hsz : hs.size ≤ 7)
    (n2 : Nat) (s : ByteArray) (hm2 : (if 100 < (v2.size : Int) then 100 else (v2.size : Int)) = (n2 : Int)) (h2 : n2 ≤ v2.size) (hss : v2.extract 0 n2 = s) (hz2 : v2.size ≤ 140737488351232)
    (I : Int) (hI : Go.bits .and .i64 fi 65535 = I) (hI0 : 0 ≤ I) (hJ : I % 7 = 1) (rr : Bool) (hR : event_Right.f 10 a1 a2 x3 s x5 x6 a7 a8 a9 = some rr)
    (hfin : (rr == (hasN hs 66 hs.size || s.toList.isEmpty)) = true) :
    Calls Tryd.prog 8 #[.agg (ten 10 a1 a2 a3 a4 a5 a6 a7 a8 a9), .int .i64 fi, .string v2, .int .i64 n] w fun e w' => e = .returned (.bool true) ∧ Below w.heap.size w w' := by
  have HG := Aside0.mk hG
  have HC0 := Aside0.mk hc0
  have HX := Aside0.mk hX
  clear hG hc0 hX
  have HR := Aside0.mk hR
  have HFIN := Aside0.mk hfin
  have HHAS := Aside0.mk hhas
  clear hR hfin hhas
  go_enter Tryd.func8, Tryd.ntmps8
  go_upto_region 1 with (fail)
  obtain ⟨g, hg⟩ : ∃ g, g = w.heap.size := ⟨_, rfl⟩
  obtain ⟨W1, hW1⟩ : ∃ W, W = w.alloc (.cells (ten 10 a1 a2 a3 a4 a5 a6 a7 a8 a9) 24) := ⟨_, rfl⟩
  rw [← hW1, ← hg]
  have A := Aside0.mk (show Box w W1 g (ten 10 a1 a2 a3 a4 a5 a6 a7 a8 a9) by rw [hW1, hg]; exact Box.new (Nat.le_refl _) _)
  have D := Aside0.mk (show Below w.heap.size w W1 by rw [hW1]; exact below_alloc (Below.refl _ _) _)
  clear hW1 hg
  go_upto_if 22 with (first | ((with_reducible refine gate_dst (N := 17) rfl ?_); (with_reducible refine gate_callee (f := 11) rfl ?_); refine goesL_ (some 17) rfl rfl Tryd.func11 (by kernel_rfl) rfl #[] rfl (by (try simp only [List.map_toArray, List.map_cons, List.map_nil]); first | done | rfl) ?_; refine (transeptlaw05_shown.calls true _ (HG.out.below D.out) rfl).mono ?_; rintro e wz_ ⟨rfl, hb⟩; refine ⟨_, rfl, ?_⟩; have n0_ := Aside0.mk (below_step D.out hb); have n1_ := Aside0.mk (A.out.then_ hb); clear D; clear A; have D := n0_; have A := n1_; clear n0_ n1_; clear hb) | ((with_reducible refine gate_dst (N := 18) rfl ?_); refine wpList_load_row ?hgd_18 24 (.tmp 4) ?ho_18 g ?hx_18 ?t_18 ?cs_18 ?fr_18 ?d_18 ?hg_18 ?hu_18 ?hd_18 ?hi_18 ?_; (case hgd_18 => rfl); (case ho_18 => rfl); (case hx_18 => rfl); (case hg_18 => exact A.out.blk); (case hu_18 => exact Tryd.underlying24); (case hd_18 => rfl); (case hi_18 => exact size24)) | ((with_reducible refine gate_dst (N := 20) rfl ?_); refine wpList_load_row ?hgd_20 24 (.tmp 4) ?ho_20 g ?hx_20 ?t_20 ?cs_20 ?fr_20 ?d_20 ?hg_20 ?hu_20 ?hd_20 ?hi_20 ?_; (case hgd_20 => rfl); (case ho_20 => rfl); (case hx_20 => rfl); (case hg_20 => exact A.out.blk); (case hu_20 => exact Tryd.underlying24); (case hd_20 => rfl); (case hi_20 => exact size24)) | ((with_reducible refine gate_dst (N := 19) rfl ?_); (with_reducible refine gate_callee (f := 12) rfl ?_); refine goesL_ (some 19) rfl rfl Tryd.func12 (by kernel_rfl) rfl #[.agg (ten 10 a1 a2 a3 a4 a5 a6 a7 a8 a9)] rfl (by (try simp only [List.map_toArray, List.map_cons, List.map_nil]); first | done | rfl) ?_; refine (HC0.out _).mono ?_; rintro e wz_ ⟨rfl, hb⟩; refine ⟨_, rfl, ?_⟩; have n0_ := Aside0.mk (below_step D.out hb); have n1_ := Aside0.mk (A.out.then_ hb); clear D; clear A; have D := n0_; have A := n1_; clear n0_ n1_; clear hb) | ((with_reducible refine gate_store (p := 4) rfl ?_); refine wpList_store_row ?hgd_s19 24 (.tmp 4) (.tmp 19) ?ho_s19 g (ten 10 a1 a2 x3 x4 x5 x6 a7 a8 a9) ?hx_s19 ?hy_s19 ?t_s19 ?old_s19 ?hg_s19 ?hi_s19 ?hold_s19 ?h1_s19 ?_; (case hgd_s19 => rfl); (case ho_s19 => rfl); (case hx_s19 => rfl); (case hy_s19 => rfl); (case hg_s19 => exact A.out.blk); (case hi_s19 => exact size24); (case hold_s19 => rfl); (case h1_s19 => exact ten_one _ _ _ _ _ _ _ _ _ _); have n0_ := Aside0.mk (setRow_below D.out A.out.base (ten 10 a1 a2 x3 x4 x5 x6 a7 a8 a9)); have n1_ := Aside0.mk (Box.row A.out (ten 10 a1 a2 x3 x4 x5 x6 a7 a8 a9)); clear D; clear A; have D := n0_; have A := n1_; clear n0_ n1_) | ((with_reducible refine gate_dst (N := 21) rfl ?_); (with_reducible refine gate_callee (f := 15) rfl ?_); refine goesL_ (some 21) rfl rfl Tryd.func15 (by kernel_rfl) rfl #[.agg (ten 10 a1 a2 x3 x4 x5 x6 a7 a8 a9)] rfl (by (try simp only [List.map_toArray, List.map_cons, List.map_nil]); first | done | rfl) ?_; refine (event_Right.calls 10 a1 a2 x3 x4 x5 x6 a7 a8 a9 true _ (HG.out.below D.out) HX.out).mono ?_; rintro e wz_ ⟨rfl, hb⟩; refine ⟨_, rfl, ?_⟩; have n0_ := Aside0.mk (below_step D.out hb); have n1_ := Aside0.mk (A.out.then_ hb); clear D; clear A; have D := n0_; have A := n1_; clear n0_ n1_; clear hb))
  go_upto_region 6 with (fail)
  clear hm2 h2 hss
  have e0 : ∀ o, (wz_.alloc o).cell? ⟨g, 0, none⟩ = some (.int .i64 10) := fun o => (A.out.alloc o).read.1
  have e1 : (wz_.alloc (.cells (hasL.map Value.string).toArray 9)).cell? ⟨wz_.heap.size, 10, none⟩ = some (.string hs) := by
    rw [cell_of_row _ _ _ _ _ _ (heap_alloc_new wz_ _)]
    simp only [List.getElem?_toArray, List.getElem?_map, HHAS.out, Option.map_some]
  simp only [hasL, List.map_cons, List.map_nil] at e1
  go_upto_region 7 with (fail)
  obtain ⟨W2, hW2⟩ : ∃ W, W = wz_.alloc (.cells (hasL.map Value.string).toArray 9) := ⟨_, rfl⟩
  have A' := Aside0.mk (show Box w W2 g (ten 10 a1 a2 x3 x4 x5 x6 a7 a8 a9) by rw [hW2]; exact A.out.alloc _)
  have D' := Aside0.mk (show Below w.heap.size w W2 by rw [hW2]; exact below_alloc D.out _)
  simp only [hasL, List.map_cons, List.map_nil] at hW2
  rw [← hW2]
  clear A D hW2 e0 e1
  have A := A'
  have D := D'
  clear A' D'
  obtain ⟨c0, c1, c2, c3, c4, c5, c6, c7, c8, c9⟩ := A.out.read
  go_upto_region 13 with (fail)
  clear c0 c1 c2 c3 c4 c5 c6 c7 c8 c9
  obtain ⟨h, hh⟩ : ∃ h, h = W2.heap.size := ⟨_, rfl⟩
  obtain ⟨W3, hW3⟩ : ∃ W, W = W2.alloc (.cells (ten 10 a1 a2 x3 x4 x5 x6 a7 a8 a9) 24) := ⟨_, rfl⟩
  rw [← hW3, ← hh]
  have B := Aside0.mk (show Box w W3 h (ten 10 a1 a2 x3 x4 x5 x6 a7 a8 a9) by rw [hW3, hh]; exact Box.fresh D.out _)
  have D' := Aside0.mk (show Below w.heap.size w W3 by rw [hW3]; exact below_alloc D.out _)
  clear A D hW3 hh
  have D := D'
  clear D'
  obtain ⟨o0, o1, o2, o3, o4, o5, o6, o7, o8, o9⟩ := B.out.free
  obtain ⟨c0, c1, c2, c3, c4, c5, c6, c7, c8, c9⟩ := B.out.read
  go_upto_region 30 with (fail)
  clear o0 o1 o2 o3 o4 o5 o6 o7 o8 o9 c0 c1 c2 c3 c4 c5 c6 c7 c8 c9
  obtain ⟨W4, hW4⟩ : ∃ W, W = W3.setCell ⟨h, 4, none⟩ (.string s) := ⟨_, rfl⟩
  rw [← hW4]
  have B' := Aside0.mk (show Box w W4 h (ten 10 a1 a2 x3 s x5 x6 a7 a8 a9) by rw [hW4]; exact ⟨B.out.base, blk_put B.out.blk 4 _ rfl⟩)
  have D' := Aside0.mk (show Below w.heap.size w W4 by rw [hW4]; exact D.out.setCell B.out.base _)
  clear B D hW4
  have B := B'
  have D := D'
  have HJ := Aside0.mk hJ
  clear B' D' hI hI0
  go_wp2_with (fail)
  go_loopg [15, 16] hs.size (fun m v15 v16 wc => ∃ i : Nat, v16 = .int .i64 i ∧ i + m = hs.size ∧ v15 = .bool (hasN hs 66 i) ∧ ∃ d, wc = W4.drewN d)
  case atStart => exact ⟨0, rfl, by simp, rfl, 0, rfl⟩
  case round =>
    obtain ⟨i, rfl, hm, rfl, d, rfl⟩ := hrel
    obtain ⟨b, hb⟩ : ∃ b, hasN hs 66 i = b := ⟨_, rfl⟩
    rw [hb]
    by_cases hi : i < hs.size
    · have hn := Aside0.mk (hasN_succ hs 66 i hi)
      have HB := Aside0.mk hb
      clear hb
      have hfi : I % 7 = 1 := HJ.out
      cases b
      · go_upto_region 34 with (fail)
        go_quiet (fail)
        go_wp2
        go_roundg (gk - 1)
        case measure => omega
        case rel => exact ⟨i + 1, by go_num, by omega, by rw [hn.out, HB.out, Bool.false_or]; exact byte_beq _ _, d + nq, rfl⟩
      · go_upto_region 34 with (fail)
        go_quiet (fail)
        go_wp2
        go_roundg (gk - 1)
        case measure => omega
        case rel => exact ⟨i + 1, by go_num, by omega, by rw [hn.out, HB.out, Bool.true_or], d + nq, rfl⟩
    · obtain rfl : i = hs.size := by omega
      have HF := HFIN.out
      rw [hb] at HF
      have B1 := Aside0.mk (B.out.drewN d)
      have D1 := Aside0.mk (pw_below_drewN D.out d)
      obtain ⟨c0, c1, c2, c3, c4, c5, c6, c7, c8, c9⟩ := B1.out.read
      clear hb B D
      go_wp2_with (fail)
      refine (event_Right.calls 10 a1 a2 x3 s x5 x6 a7 a8 a9 rr _ (HG.out.below D1.out) HR.out).mono ?_
      rintro e wz2 ⟨rfl, hb⟩
      have D2 := Aside0.mk (below_step D1.out hb)
      clear hb c0 c1 c2 c3 c4 c5 c6 c7 c8 c9 B1 D1
      cases b
      · have hse : s.toList.isEmpty = rr := by revert HF; cases rr <;> cases s.toList.isEmpty <;> simp
        have hse2 : (s.toList == ([] : List UInt8)) = rr := by rw [← hse]; cases s.toList <;> rfl
        clear HF
        cases rr
        · go_wp2
          go_ret
          exact ⟨rfl, D2.out⟩
        · go_wp2
          go_ret
          exact ⟨rfl, D2.out⟩
      · obtain rfl : rr = true := by revert HF; cases rr <;> simp
        clear HF
        go_wp2
        go_ret
        exact ⟨rfl, D2.out⟩
set_option maxHeartbeats 4000000 in
set_option maxRecDepth 100000 in
theorem fields_yes1_o (K : Nat) (a1 a2 : Int) (a3 a4 a5 a6 : ByteArray) (a7 a8 a9 : Int) (x3 x4 x5 x6 : ByteArray) (fi : Int) (v2 : ByteArray) (n : Int)
    (hc0 : ∀ w, Calls Tryd.prog 12 #[.agg (ten (K : Int) a1 a2 a3 a4 a5 a6 a7 a8 a9)] w fun e w' => e = .returned (.agg (ten (K : Int) a1 a2 x3 x4 x5 x6 a7 a8 a9)) ∧ Below w.heap.size w w')
    (hX : event_Right.f (K : Int) a1 a2 x3 x4 x5 x6 a7 a8 a9 = some true) (w : World) (hG : Glob w)
    (hK1 : 1 ≤ K) (hK2 : K ≤ 14) (hK7 : ((K : Int) == 7) = false) (hK10 : ((K : Int) == 10) = false) (hs : ByteArray) (hhas : hasL[K]? = some hs) (hsz : hs.size ≤ 7)
    (n2 : Nat) (s : ByteArray) (hm2 : (if 100 < (v2.size : Int) then 100 else (v2.size : Int)) = (n2 : Int)) (h2 : n2 ≤ v2.size) (hss : v2.extract 0 n2 = s) (hz2 : v2.size ≤ 140737488351232)
    (I : Int) (hI : Go.bits .and .i64 fi 65535 = I) (hI0 : 0 ≤ I) (hJ : I % 7 = 1) (rr : Bool) (hR : event_Right.f (K : Int) a1 a2 x3 s x5 x6 a7 a8 a9 = some rr)
    (hfin : (rr == (hasN hs 66 hs.size || s.toList.isEmpty)) = true) :
    Calls Tryd.prog 8 #[.agg (ten (K : Int) a1 a2 a3 a4 a5 a6 a7 a8 a9), .int .i64 fi, .string v2, .int .i64 n] w fun e w' => e = .returned (.bool true) ∧ Below w.heap.size w w' := by
  have HG := Aside0.mk hG
  have HC0 := Aside0.mk hc0
  have HX := Aside0.mk hX
  clear hG hc0 hX
  have HR := Aside0.mk hR
  have HFIN := Aside0.mk hfin
  have HHAS := Aside0.mk hhas
  clear hR hfin hhas
  go_enter Tryd.func8, Tryd.ntmps8
  go_upto_region 1 with (fail)
  obtain ⟨g, hg⟩ : ∃ g, g = w.heap.size := ⟨_, rfl⟩
  obtain ⟨W1, hW1⟩ : ∃ W, W = w.alloc (.cells (ten (K : Int) a1 a2 a3 a4 a5 a6 a7 a8 a9) 24) := ⟨_, rfl⟩
  rw [← hW1, ← hg]
  have A := Aside0.mk (show Box w W1 g (ten (K : Int) a1 a2 a3 a4 a5 a6 a7 a8 a9) by rw [hW1, hg]; exact Box.new (Nat.le_refl _) _)
  have D := Aside0.mk (show Below w.heap.size w W1 by rw [hW1]; exact below_alloc (Below.refl _ _) _)
  clear hW1 hg
  go_upto_if 22 with (first | ((with_reducible refine gate_dst (N := 17) rfl ?_); (with_reducible refine gate_callee (f := 11) rfl ?_); refine goesL_ (some 17) rfl rfl Tryd.func11 (by kernel_rfl) rfl #[] rfl (by (try simp only [List.map_toArray, List.map_cons, List.map_nil]); first | done | rfl) ?_; refine (transeptlaw05_shown.calls true _ (HG.out.below D.out) rfl).mono ?_; rintro e wz_ ⟨rfl, hb⟩; refine ⟨_, rfl, ?_⟩; have n0_ := Aside0.mk (below_step D.out hb); have n1_ := Aside0.mk (A.out.then_ hb); clear D; clear A; have D := n0_; have A := n1_; clear n0_ n1_; clear hb) | ((with_reducible refine gate_dst (N := 18) rfl ?_); refine wpList_load_row ?hgd_18 24 (.tmp 4) ?ho_18 g ?hx_18 ?t_18 ?cs_18 ?fr_18 ?d_18 ?hg_18 ?hu_18 ?hd_18 ?hi_18 ?_; (case hgd_18 => rfl); (case ho_18 => rfl); (case hx_18 => rfl); (case hg_18 => exact A.out.blk); (case hu_18 => exact Tryd.underlying24); (case hd_18 => rfl); (case hi_18 => exact size24)) | ((with_reducible refine gate_dst (N := 20) rfl ?_); refine wpList_load_row ?hgd_20 24 (.tmp 4) ?ho_20 g ?hx_20 ?t_20 ?cs_20 ?fr_20 ?d_20 ?hg_20 ?hu_20 ?hd_20 ?hi_20 ?_; (case hgd_20 => rfl); (case ho_20 => rfl); (case hx_20 => rfl); (case hg_20 => exact A.out.blk); (case hu_20 => exact Tryd.underlying24); (case hd_20 => rfl); (case hi_20 => exact size24)) | ((with_reducible refine gate_dst (N := 19) rfl ?_); (with_reducible refine gate_callee (f := 12) rfl ?_); refine goesL_ (some 19) rfl rfl Tryd.func12 (by kernel_rfl) rfl #[.agg (ten (K : Int) a1 a2 a3 a4 a5 a6 a7 a8 a9)] rfl (by (try simp only [List.map_toArray, List.map_cons, List.map_nil]); first | done | rfl) ?_; refine (HC0.out _).mono ?_; rintro e wz_ ⟨rfl, hb⟩; refine ⟨_, rfl, ?_⟩; have n0_ := Aside0.mk (below_step D.out hb); have n1_ := Aside0.mk (A.out.then_ hb); clear D; clear A; have D := n0_; have A := n1_; clear n0_ n1_; clear hb) | ((with_reducible refine gate_store (p := 4) rfl ?_); refine wpList_store_row ?hgd_s19 24 (.tmp 4) (.tmp 19) ?ho_s19 g (ten (K : Int) a1 a2 x3 x4 x5 x6 a7 a8 a9) ?hx_s19 ?hy_s19 ?t_s19 ?old_s19 ?hg_s19 ?hi_s19 ?hold_s19 ?h1_s19 ?_; (case hgd_s19 => rfl); (case ho_s19 => rfl); (case hx_s19 => rfl); (case hy_s19 => rfl); (case hg_s19 => exact A.out.blk); (case hi_s19 => exact size24); (case hold_s19 => rfl); (case h1_s19 => exact ten_one _ _ _ _ _ _ _ _ _ _); have n0_ := Aside0.mk (setRow_below D.out A.out.base (ten (K : Int) a1 a2 x3 x4 x5 x6 a7 a8 a9)); have n1_ := Aside0.mk (Box.row A.out (ten (K : Int) a1 a2 x3 x4 x5 x6 a7 a8 a9)); clear D; clear A; have D := n0_; have A := n1_; clear n0_ n1_) | ((with_reducible refine gate_dst (N := 21) rfl ?_); (with_reducible refine gate_callee (f := 15) rfl ?_); refine goesL_ (some 21) rfl rfl Tryd.func15 (by kernel_rfl) rfl #[.agg (ten (K : Int) a1 a2 x3 x4 x5 x6 a7 a8 a9)] rfl (by (try simp only [List.map_toArray, List.map_cons, List.map_nil]); first | done | rfl) ?_; refine (event_Right.calls (K : Int) a1 a2 x3 x4 x5 x6 a7 a8 a9 true _ (HG.out.below D.out) HX.out).mono ?_; rintro e wz_ ⟨rfl, hb⟩; refine ⟨_, rfl, ?_⟩; have n0_ := Aside0.mk (below_step D.out hb); have n1_ := Aside0.mk (A.out.then_ hb); clear D; clear A; have D := n0_; have A := n1_; clear n0_ n1_; clear hb))
  go_upto_region 6 with (fail)
  clear hm2 h2 hss
  have e0 : ∀ o, (wz_.alloc o).cell? ⟨g, 0, none⟩ = some (.int .i64 (K : Int)) := fun o => (A.out.alloc o).read.1
  have e1 : (wz_.alloc (.cells (hasL.map Value.string).toArray 9)).cell? ⟨wz_.heap.size, K, none⟩ = some (.string hs) := by
    rw [cell_of_row _ _ _ _ _ _ (heap_alloc_new wz_ _)]
    simp only [List.getElem?_toArray, List.getElem?_map, HHAS.out, Option.map_some]
  simp only [hasL, List.map_cons, List.map_nil] at e1
  go_upto_region 7 with (fail)
  obtain ⟨W2, hW2⟩ : ∃ W, W = wz_.alloc (.cells (hasL.map Value.string).toArray 9) := ⟨_, rfl⟩
  have A' := Aside0.mk (show Box w W2 g (ten (K : Int) a1 a2 x3 x4 x5 x6 a7 a8 a9) by rw [hW2]; exact A.out.alloc _)
  have D' := Aside0.mk (show Below w.heap.size w W2 by rw [hW2]; exact below_alloc D.out _)
  simp only [hasL, List.map_cons, List.map_nil] at hW2
  rw [← hW2]
  clear A D hW2 e0 e1
  have A := A'
  have D := D'
  clear A' D'
  obtain ⟨c0, c1, c2, c3, c4, c5, c6, c7, c8, c9⟩ := A.out.read
  go_upto_region 13 with (fail)
  clear c0 c1 c2 c3 c4 c5 c6 c7 c8 c9
  obtain ⟨h, hh⟩ : ∃ h, h = W2.heap.size := ⟨_, rfl⟩
  obtain ⟨W3, hW3⟩ : ∃ W, W = W2.alloc (.cells (ten (K : Int) a1 a2 x3 x4 x5 x6 a7 a8 a9) 24) := ⟨_, rfl⟩
  rw [← hW3, ← hh]
  have B := Aside0.mk (show Box w W3 h (ten (K : Int) a1 a2 x3 x4 x5 x6 a7 a8 a9) by rw [hW3, hh]; exact Box.fresh D.out _)
  have D' := Aside0.mk (show Below w.heap.size w W3 by rw [hW3]; exact below_alloc D.out _)
  clear A D hW3 hh
  have D := D'
  clear D'
  obtain ⟨o0, o1, o2, o3, o4, o5, o6, o7, o8, o9⟩ := B.out.free
  obtain ⟨c0, c1, c2, c3, c4, c5, c6, c7, c8, c9⟩ := B.out.read
  go_upto_region 30 with (fail)
  clear o0 o1 o2 o3 o4 o5 o6 o7 o8 o9 c0 c1 c2 c3 c4 c5 c6 c7 c8 c9
  obtain ⟨W4, hW4⟩ : ∃ W, W = W3.setCell ⟨h, 4, none⟩ (.string s) := ⟨_, rfl⟩
  rw [← hW4]
  have B' := Aside0.mk (show Box w W4 h (ten (K : Int) a1 a2 x3 s x5 x6 a7 a8 a9) by rw [hW4]; exact ⟨B.out.base, blk_put B.out.blk 4 _ rfl⟩)
  have D' := Aside0.mk (show Below w.heap.size w W4 by rw [hW4]; exact D.out.setCell B.out.base _)
  clear B D hW4
  have B := B'
  have D := D'
  have HJ := Aside0.mk hJ
  clear B' D' hI hI0
  go_wp2_with (fail)
  go_loopg [15, 16] hs.size (fun m v15 v16 wc => ∃ i : Nat, v16 = .int .i64 i ∧ i + m = hs.size ∧ v15 = .bool (hasN hs 66 i) ∧ ∃ d, wc = W4.drewN d)
  case atStart => exact ⟨0, rfl, by simp, rfl, 0, rfl⟩
  case round =>
    obtain ⟨i, rfl, hm, rfl, d, rfl⟩ := hrel
    obtain ⟨b, hb⟩ : ∃ b, hasN hs 66 i = b := ⟨_, rfl⟩
    rw [hb]
    by_cases hi : i < hs.size
    · have hn := Aside0.mk (hasN_succ hs 66 i hi)
      have HB := Aside0.mk hb
      clear hb
      have hfi : I % 7 = 1 := HJ.out
      cases b
      · go_upto_region 34 with (fail)
        go_quiet (fail)
        go_wp2
        go_roundg (gk - 1)
        case measure => omega
        case rel => exact ⟨i + 1, by go_num, by omega, by rw [hn.out, HB.out, Bool.false_or]; exact byte_beq _ _, d + nq, rfl⟩
      · go_upto_region 34 with (fail)
        go_quiet (fail)
        go_wp2
        go_roundg (gk - 1)
        case measure => omega
        case rel => exact ⟨i + 1, by go_num, by omega, by rw [hn.out, HB.out, Bool.true_or], d + nq, rfl⟩
    · obtain rfl : i = hs.size := by omega
      have HF := HFIN.out
      rw [hb] at HF
      have B1 := Aside0.mk (B.out.drewN d)
      have D1 := Aside0.mk (pw_below_drewN D.out d)
      obtain ⟨c0, c1, c2, c3, c4, c5, c6, c7, c8, c9⟩ := B1.out.read
      clear hb B D
      go_wp2_with (fail)
      refine (event_Right.calls (K : Int) a1 a2 x3 s x5 x6 a7 a8 a9 rr _ (HG.out.below D1.out) HR.out).mono ?_
      rintro e wz2 ⟨rfl, hb⟩
      have D2 := Aside0.mk (below_step D1.out hb)
      clear hb c0 c1 c2 c3 c4 c5 c6 c7 c8 c9 B1 D1
      cases b
      · have hse : s.toList.isEmpty = rr := by revert HF; cases rr <;> cases s.toList.isEmpty <;> simp
        have hse2 : (s.toList == ([] : List UInt8)) = rr := by rw [← hse]; cases s.toList <;> rfl
        clear HF
        cases rr
        · go_wp2
          go_ret
          exact ⟨rfl, D2.out⟩
        · go_wp2
          go_ret
          exact ⟨rfl, D2.out⟩
      · obtain rfl : rr = true := by revert HF; cases rr <;> simp
        clear HF
        go_wp2
        go_ret
        exact ⟨rfl, D2.out⟩
set_option maxHeartbeats 4000000 in
set_option maxRecDepth 100000 in
theorem fields_yes2_7 (a1 a2 : Int) (a3 a4 a5 a6 : ByteArray) (a7 a8 a9 : Int) (x3 x4 x5 x6 : ByteArray) (fi : Int) (v2 : ByteArray) (n : Int)
    (hc0 : ∀ w, Calls Tryd.prog 12 #[.agg (ten 7 a1 a2 a3 a4 a5 a6 a7 a8 a9)] w fun e w' => e = .returned (.agg (ten 7 a1 a2 x3 x4 x5 x6 a7 a8 a9)) ∧ Below w.heap.size w w')
    (hX : event_Right.f 7 a1 a2 x3 x4 x5 x6 a7 a8 a9 = some true) (w : World) (hG : Glob w)
    (hs : ByteArray) (hhas : hasL[7]? = some hs) (hsz : hs.size ≤ 7)
    (n2 : Nat) (s : ByteArray) (hm2 : (if 100 < (v2.size : Int) then 100 else (v2.size : Int)) = (n2 : Int)) (h2 : n2 ≤ v2.size) (hss : v2.extract 0 n2 = s) (hz2 : v2.size ≤ 140737488351232)
    (I : Int) (hI : Go.bits .and .i64 fi 65535 = I) (hI0 : 0 ≤ I) (hJ : I % 7 = 2) (rr : Bool) (hR : event_Right.f 7 a1 a2 x3 x4 s x6 a7 a8 a9 = some rr)
    (hfin : (rr == (hasN hs 67 hs.size || s.toList.isEmpty)) = true) :
    Calls Tryd.prog 8 #[.agg (ten 7 a1 a2 a3 a4 a5 a6 a7 a8 a9), .int .i64 fi, .string v2, .int .i64 n] w fun e w' => e = .returned (.bool true) ∧ Below w.heap.size w w' := by
  have HG := Aside0.mk hG
  have HC0 := Aside0.mk hc0
  have HX := Aside0.mk hX
  clear hG hc0 hX
  have HR := Aside0.mk hR
  have HFIN := Aside0.mk hfin
  have HHAS := Aside0.mk hhas
  clear hR hfin hhas
  go_enter Tryd.func8, Tryd.ntmps8
  go_upto_region 1 with (fail)
  obtain ⟨g, hg⟩ : ∃ g, g = w.heap.size := ⟨_, rfl⟩
  obtain ⟨W1, hW1⟩ : ∃ W, W = w.alloc (.cells (ten 7 a1 a2 a3 a4 a5 a6 a7 a8 a9) 24) := ⟨_, rfl⟩
  rw [← hW1, ← hg]
  have A := Aside0.mk (show Box w W1 g (ten 7 a1 a2 a3 a4 a5 a6 a7 a8 a9) by rw [hW1, hg]; exact Box.new (Nat.le_refl _) _)
  have D := Aside0.mk (show Below w.heap.size w W1 by rw [hW1]; exact below_alloc (Below.refl _ _) _)
  clear hW1 hg
  go_upto_if 22 with (first | ((with_reducible refine gate_dst (N := 17) rfl ?_); (with_reducible refine gate_callee (f := 11) rfl ?_); refine goesL_ (some 17) rfl rfl Tryd.func11 (by kernel_rfl) rfl #[] rfl (by (try simp only [List.map_toArray, List.map_cons, List.map_nil]); first | done | rfl) ?_; refine (transeptlaw05_shown.calls true _ (HG.out.below D.out) rfl).mono ?_; rintro e wz_ ⟨rfl, hb⟩; refine ⟨_, rfl, ?_⟩; have n0_ := Aside0.mk (below_step D.out hb); have n1_ := Aside0.mk (A.out.then_ hb); clear D; clear A; have D := n0_; have A := n1_; clear n0_ n1_; clear hb) | ((with_reducible refine gate_dst (N := 18) rfl ?_); refine wpList_load_row ?hgd_18 24 (.tmp 4) ?ho_18 g ?hx_18 ?t_18 ?cs_18 ?fr_18 ?d_18 ?hg_18 ?hu_18 ?hd_18 ?hi_18 ?_; (case hgd_18 => rfl); (case ho_18 => rfl); (case hx_18 => rfl); (case hg_18 => exact A.out.blk); (case hu_18 => exact Tryd.underlying24); (case hd_18 => rfl); (case hi_18 => exact size24)) | ((with_reducible refine gate_dst (N := 20) rfl ?_); refine wpList_load_row ?hgd_20 24 (.tmp 4) ?ho_20 g ?hx_20 ?t_20 ?cs_20 ?fr_20 ?d_20 ?hg_20 ?hu_20 ?hd_20 ?hi_20 ?_; (case hgd_20 => rfl); (case ho_20 => rfl); (case hx_20 => rfl); (case hg_20 => exact A.out.blk); (case hu_20 => exact Tryd.underlying24); (case hd_20 => rfl); (case hi_20 => exact size24)) | ((with_reducible refine gate_dst (N := 19) rfl ?_); (with_reducible refine gate_callee (f := 12) rfl ?_); refine goesL_ (some 19) rfl rfl Tryd.func12 (by kernel_rfl) rfl #[.agg (ten 7 a1 a2 a3 a4 a5 a6 a7 a8 a9)] rfl (by (try simp only [List.map_toArray, List.map_cons, List.map_nil]); first | done | rfl) ?_; refine (HC0.out _).mono ?_; rintro e wz_ ⟨rfl, hb⟩; refine ⟨_, rfl, ?_⟩; have n0_ := Aside0.mk (below_step D.out hb); have n1_ := Aside0.mk (A.out.then_ hb); clear D; clear A; have D := n0_; have A := n1_; clear n0_ n1_; clear hb) | ((with_reducible refine gate_store (p := 4) rfl ?_); refine wpList_store_row ?hgd_s19 24 (.tmp 4) (.tmp 19) ?ho_s19 g (ten 7 a1 a2 x3 x4 x5 x6 a7 a8 a9) ?hx_s19 ?hy_s19 ?t_s19 ?old_s19 ?hg_s19 ?hi_s19 ?hold_s19 ?h1_s19 ?_; (case hgd_s19 => rfl); (case ho_s19 => rfl); (case hx_s19 => rfl); (case hy_s19 => rfl); (case hg_s19 => exact A.out.blk); (case hi_s19 => exact size24); (case hold_s19 => rfl); (case h1_s19 => exact ten_one _ _ _ _ _ _ _ _ _ _); have n0_ := Aside0.mk (setRow_below D.out A.out.base (ten 7 a1 a2 x3 x4 x5 x6 a7 a8 a9)); have n1_ := Aside0.mk (Box.row A.out (ten 7 a1 a2 x3 x4 x5 x6 a7 a8 a9)); clear D; clear A; have D := n0_; have A := n1_; clear n0_ n1_) | ((with_reducible refine gate_dst (N := 21) rfl ?_); (with_reducible refine gate_callee (f := 15) rfl ?_); refine goesL_ (some 21) rfl rfl Tryd.func15 (by kernel_rfl) rfl #[.agg (ten 7 a1 a2 x3 x4 x5 x6 a7 a8 a9)] rfl (by (try simp only [List.map_toArray, List.map_cons, List.map_nil]); first | done | rfl) ?_; refine (event_Right.calls 7 a1 a2 x3 x4 x5 x6 a7 a8 a9 true _ (HG.out.below D.out) HX.out).mono ?_; rintro e wz_ ⟨rfl, hb⟩; refine ⟨_, rfl, ?_⟩; have n0_ := Aside0.mk (below_step D.out hb); have n1_ := Aside0.mk (A.out.then_ hb); clear D; clear A; have D := n0_; have A := n1_; clear n0_ n1_; clear hb))
  go_upto_region 6 with (fail)
  clear hm2 h2 hss
  have e0 : ∀ o, (wz_.alloc o).cell? ⟨g, 0, none⟩ = some (.int .i64 7) := fun o => (A.out.alloc o).read.1
  have e1 : (wz_.alloc (.cells (hasL.map Value.string).toArray 9)).cell? ⟨wz_.heap.size, 7, none⟩ = some (.string hs) := by
    rw [cell_of_row _ _ _ _ _ _ (heap_alloc_new wz_ _)]
    simp only [List.getElem?_toArray, List.getElem?_map, HHAS.out, Option.map_some]
  simp only [hasL, List.map_cons, List.map_nil] at e1
  go_upto_region 7 with (fail)
  obtain ⟨W2, hW2⟩ : ∃ W, W = wz_.alloc (.cells (hasL.map Value.string).toArray 9) := ⟨_, rfl⟩
  have A' := Aside0.mk (show Box w W2 g (ten 7 a1 a2 x3 x4 x5 x6 a7 a8 a9) by rw [hW2]; exact A.out.alloc _)
  have D' := Aside0.mk (show Below w.heap.size w W2 by rw [hW2]; exact below_alloc D.out _)
  simp only [hasL, List.map_cons, List.map_nil] at hW2
  rw [← hW2]
  clear A D hW2 e0 e1
  have A := A'
  have D := D'
  clear A' D'
  obtain ⟨c0, c1, c2, c3, c4, c5, c6, c7, c8, c9⟩ := A.out.read
  go_upto_region 13 with (fail)
  clear c0 c1 c2 c3 c4 c5 c6 c7 c8 c9
  obtain ⟨h, hh⟩ : ∃ h, h = W2.heap.size := ⟨_, rfl⟩
  obtain ⟨W3, hW3⟩ : ∃ W, W = W2.alloc (.cells (ten 7 a1 a2 x3 x4 x5 x6 a7 a8 a9) 24) := ⟨_, rfl⟩
  rw [← hW3, ← hh]
  have B := Aside0.mk (show Box w W3 h (ten 7 a1 a2 x3 x4 x5 x6 a7 a8 a9) by rw [hW3, hh]; exact Box.fresh D.out _)
  have D' := Aside0.mk (show Below w.heap.size w W3 by rw [hW3]; exact below_alloc D.out _)
  clear A D hW3 hh
  have D := D'
  clear D'
  obtain ⟨o0, o1, o2, o3, o4, o5, o6, o7, o8, o9⟩ := B.out.free
  obtain ⟨c0, c1, c2, c3, c4, c5, c6, c7, c8, c9⟩ := B.out.read
  go_upto_region 30 with (fail)
  clear o0 o1 o2 o3 o4 o5 o6 o7 o8 o9 c0 c1 c2 c3 c4 c5 c6 c7 c8 c9
  obtain ⟨W4, hW4⟩ : ∃ W, W = W3.setCell ⟨h, 5, none⟩ (.string s) := ⟨_, rfl⟩
  rw [← hW4]
  have B' := Aside0.mk (show Box w W4 h (ten 7 a1 a2 x3 x4 s x6 a7 a8 a9) by rw [hW4]; exact ⟨B.out.base, blk_put B.out.blk 5 _ rfl⟩)
  have D' := Aside0.mk (show Below w.heap.size w W4 by rw [hW4]; exact D.out.setCell B.out.base _)
  clear B D hW4
  have B := B'
  have D := D'
  have HJ := Aside0.mk hJ
  clear B' D' hI hI0
  go_wp2_with (fail)
  go_loopg [15, 16] hs.size (fun m v15 v16 wc => ∃ i : Nat, v16 = .int .i64 i ∧ i + m = hs.size ∧ v15 = .bool (hasN hs 67 i) ∧ ∃ d, wc = W4.drewN d)
  case atStart => exact ⟨0, rfl, by simp, rfl, 0, rfl⟩
  case round =>
    obtain ⟨i, rfl, hm, rfl, d, rfl⟩ := hrel
    obtain ⟨b, hb⟩ : ∃ b, hasN hs 67 i = b := ⟨_, rfl⟩
    rw [hb]
    by_cases hi : i < hs.size
    · have hn := Aside0.mk (hasN_succ hs 67 i hi)
      have HB := Aside0.mk hb
      clear hb
      have hfi : I % 7 = 2 := HJ.out
      cases b
      · go_upto_region 34 with (fail)
        go_quiet (fail)
        go_wp2
        go_roundg (gk - 1)
        case measure => omega
        case rel => exact ⟨i + 1, by go_num, by omega, by rw [hn.out, HB.out, Bool.false_or]; exact byte_beq _ _, d + nq, rfl⟩
      · go_upto_region 34 with (fail)
        go_quiet (fail)
        go_wp2
        go_roundg (gk - 1)
        case measure => omega
        case rel => exact ⟨i + 1, by go_num, by omega, by rw [hn.out, HB.out, Bool.true_or], d + nq, rfl⟩
    · obtain rfl : i = hs.size := by omega
      have HF := HFIN.out
      rw [hb] at HF
      have B1 := Aside0.mk (B.out.drewN d)
      have D1 := Aside0.mk (pw_below_drewN D.out d)
      obtain ⟨c0, c1, c2, c3, c4, c5, c6, c7, c8, c9⟩ := B1.out.read
      clear hb B D
      go_wp2_with (fail)
      refine (event_Right.calls 7 a1 a2 x3 x4 s x6 a7 a8 a9 rr _ (HG.out.below D1.out) HR.out).mono ?_
      rintro e wz2 ⟨rfl, hb⟩
      have D2 := Aside0.mk (below_step D1.out hb)
      clear hb c0 c1 c2 c3 c4 c5 c6 c7 c8 c9 B1 D1
      cases b
      · have hse : s.toList.isEmpty = rr := by revert HF; cases rr <;> cases s.toList.isEmpty <;> simp
        have hse2 : (s.toList == ([] : List UInt8)) = rr := by rw [← hse]; cases s.toList <;> rfl
        clear HF
        cases rr
        · go_wp2
          go_ret
          exact ⟨rfl, D2.out⟩
        · go_wp2
          go_ret
          exact ⟨rfl, D2.out⟩
      · obtain rfl : rr = true := by revert HF; cases rr <;> simp
        clear HF
        go_wp2
        go_ret
        exact ⟨rfl, D2.out⟩
set_option maxHeartbeats 4000000 in
set_option maxRecDepth 100000 in
theorem fields_yes2_10 (a1 a2 : Int) (a3 a4 a5 a6 : ByteArray) (a7 a8 a9 : Int) (x3 x4 x5 x6 : ByteArray) (fi : Int) (v2 : ByteArray) (n : Int)
    (hc0 : ∀ w, Calls Tryd.prog 12 #[.agg (ten 10 a1 a2 a3 a4 a5 a6 a7 a8 a9)] w fun e w' => e = .returned (.agg (ten 10 a1 a2 x3 x4 x5 x6 a7 a8 a9)) ∧ Below w.heap.size w w')
    (hX : event_Right.f 10 a1 a2 x3 x4 x5 x6 a7 a8 a9 = some true) (w : World) (hG : Glob w)
    (hs : ByteArray) (hhas : hasL[10]? = some hs) (hsz : hs.size ≤ 7)
    (n2 : Nat) (s : ByteArray) (hm2 : (if 100 < (v2.size : Int) then 100 else (v2.size : Int)) = (n2 : Int)) (h2 : n2 ≤ v2.size) (hss : v2.extract 0 n2 = s) (hz2 : v2.size ≤ 140737488351232)
    (I : Int) (hI : Go.bits .and .i64 fi 65535 = I) (hI0 : 0 ≤ I) (hJ : I % 7 = 2) (rr : Bool) (hR : event_Right.f 10 a1 a2 x3 x4 s x6 a7 a8 a9 = some rr)
    (hfin : (rr == (hasN hs 67 hs.size || s.toList.isEmpty)) = true) :
    Calls Tryd.prog 8 #[.agg (ten 10 a1 a2 a3 a4 a5 a6 a7 a8 a9), .int .i64 fi, .string v2, .int .i64 n] w fun e w' => e = .returned (.bool true) ∧ Below w.heap.size w w' := by
  have HG := Aside0.mk hG
  have HC0 := Aside0.mk hc0
  have HX := Aside0.mk hX
  clear hG hc0 hX
  have HR := Aside0.mk hR
  have HFIN := Aside0.mk hfin
  have HHAS := Aside0.mk hhas
  clear hR hfin hhas
  go_enter Tryd.func8, Tryd.ntmps8
  go_upto_region 1 with (fail)
  obtain ⟨g, hg⟩ : ∃ g, g = w.heap.size := ⟨_, rfl⟩
  obtain ⟨W1, hW1⟩ : ∃ W, W = w.alloc (.cells (ten 10 a1 a2 a3 a4 a5 a6 a7 a8 a9) 24) := ⟨_, rfl⟩
  rw [← hW1, ← hg]
  have A := Aside0.mk (show Box w W1 g (ten 10 a1 a2 a3 a4 a5 a6 a7 a8 a9) by rw [hW1, hg]; exact Box.new (Nat.le_refl _) _)
  have D := Aside0.mk (show Below w.heap.size w W1 by rw [hW1]; exact below_alloc (Below.refl _ _) _)
  clear hW1 hg
  go_upto_if 22 with (first | ((with_reducible refine gate_dst (N := 17) rfl ?_); (with_reducible refine gate_callee (f := 11) rfl ?_); refine goesL_ (some 17) rfl rfl Tryd.func11 (by kernel_rfl) rfl #[] rfl (by (try simp only [List.map_toArray, List.map_cons, List.map_nil]); first | done | rfl) ?_; refine (transeptlaw05_shown.calls true _ (HG.out.below D.out) rfl).mono ?_; rintro e wz_ ⟨rfl, hb⟩; refine ⟨_, rfl, ?_⟩; have n0_ := Aside0.mk (below_step D.out hb); have n1_ := Aside0.mk (A.out.then_ hb); clear D; clear A; have D := n0_; have A := n1_; clear n0_ n1_; clear hb) | ((with_reducible refine gate_dst (N := 18) rfl ?_); refine wpList_load_row ?hgd_18 24 (.tmp 4) ?ho_18 g ?hx_18 ?t_18 ?cs_18 ?fr_18 ?d_18 ?hg_18 ?hu_18 ?hd_18 ?hi_18 ?_; (case hgd_18 => rfl); (case ho_18 => rfl); (case hx_18 => rfl); (case hg_18 => exact A.out.blk); (case hu_18 => exact Tryd.underlying24); (case hd_18 => rfl); (case hi_18 => exact size24)) | ((with_reducible refine gate_dst (N := 20) rfl ?_); refine wpList_load_row ?hgd_20 24 (.tmp 4) ?ho_20 g ?hx_20 ?t_20 ?cs_20 ?fr_20 ?d_20 ?hg_20 ?hu_20 ?hd_20 ?hi_20 ?_; (case hgd_20 => rfl); (case ho_20 => rfl); (case hx_20 => rfl); (case hg_20 => exact A.out.blk); (case hu_20 => exact Tryd.underlying24); (case hd_20 => rfl); (case hi_20 => exact size24)) | ((with_reducible refine gate_dst (N := 19) rfl ?_); (with_reducible refine gate_callee (f := 12) rfl ?_); refine goesL_ (some 19) rfl rfl Tryd.func12 (by kernel_rfl) rfl #[.agg (ten 10 a1 a2 a3 a4 a5 a6 a7 a8 a9)] rfl (by (try simp only [List.map_toArray, List.map_cons, List.map_nil]); first | done | rfl) ?_; refine (HC0.out _).mono ?_; rintro e wz_ ⟨rfl, hb⟩; refine ⟨_, rfl, ?_⟩; have n0_ := Aside0.mk (below_step D.out hb); have n1_ := Aside0.mk (A.out.then_ hb); clear D; clear A; have D := n0_; have A := n1_; clear n0_ n1_; clear hb) | ((with_reducible refine gate_store (p := 4) rfl ?_); refine wpList_store_row ?hgd_s19 24 (.tmp 4) (.tmp 19) ?ho_s19 g (ten 10 a1 a2 x3 x4 x5 x6 a7 a8 a9) ?hx_s19 ?hy_s19 ?t_s19 ?old_s19 ?hg_s19 ?hi_s19 ?hold_s19 ?h1_s19 ?_; (case hgd_s19 => rfl); (case ho_s19 => rfl); (case hx_s19 => rfl); (case hy_s19 => rfl); (case hg_s19 => exact A.out.blk); (case hi_s19 => exact size24); (case hold_s19 => rfl); (case h1_s19 => exact ten_one _ _ _ _ _ _ _ _ _ _); have n0_ := Aside0.mk (setRow_below D.out A.out.base (ten 10 a1 a2 x3 x4 x5 x6 a7 a8 a9)); have n1_ := Aside0.mk (Box.row A.out (ten 10 a1 a2 x3 x4 x5 x6 a7 a8 a9)); clear D; clear A; have D := n0_; have A := n1_; clear n0_ n1_) | ((with_reducible refine gate_dst (N := 21) rfl ?_); (with_reducible refine gate_callee (f := 15) rfl ?_); refine goesL_ (some 21) rfl rfl Tryd.func15 (by kernel_rfl) rfl #[.agg (ten 10 a1 a2 x3 x4 x5 x6 a7 a8 a9)] rfl (by (try simp only [List.map_toArray, List.map_cons, List.map_nil]); first | done | rfl) ?_; refine (event_Right.calls 10 a1 a2 x3 x4 x5 x6 a7 a8 a9 true _ (HG.out.below D.out) HX.out).mono ?_; rintro e wz_ ⟨rfl, hb⟩; refine ⟨_, rfl, ?_⟩; have n0_ := Aside0.mk (below_step D.out hb); have n1_ := Aside0.mk (A.out.then_ hb); clear D; clear A; have D := n0_; have A := n1_; clear n0_ n1_; clear hb))
  go_upto_region 6 with (fail)
  clear hm2 h2 hss
  have e0 : ∀ o, (wz_.alloc o).cell? ⟨g, 0, none⟩ = some (.int .i64 10) := fun o => (A.out.alloc o).read.1
  have e1 : (wz_.alloc (.cells (hasL.map Value.string).toArray 9)).cell? ⟨wz_.heap.size, 10, none⟩ = some (.string hs) := by
    rw [cell_of_row _ _ _ _ _ _ (heap_alloc_new wz_ _)]
    simp only [List.getElem?_toArray, List.getElem?_map, HHAS.out, Option.map_some]
  simp only [hasL, List.map_cons, List.map_nil] at e1
  go_upto_region 7 with (fail)
  obtain ⟨W2, hW2⟩ : ∃ W, W = wz_.alloc (.cells (hasL.map Value.string).toArray 9) := ⟨_, rfl⟩
  have A' := Aside0.mk (show Box w W2 g (ten 10 a1 a2 x3 x4 x5 x6 a7 a8 a9) by rw [hW2]; exact A.out.alloc _)
  have D' := Aside0.mk (show Below w.heap.size w W2 by rw [hW2]; exact below_alloc D.out _)
  simp only [hasL, List.map_cons, List.map_nil] at hW2
  rw [← hW2]
  clear A D hW2 e0 e1
  have A := A'
  have D := D'
  clear A' D'
  obtain ⟨c0, c1, c2, c3, c4, c5, c6, c7, c8, c9⟩ := A.out.read
  go_upto_region 13 with (fail)
  clear c0 c1 c2 c3 c4 c5 c6 c7 c8 c9
  obtain ⟨h, hh⟩ : ∃ h, h = W2.heap.size := ⟨_, rfl⟩
  obtain ⟨W3, hW3⟩ : ∃ W, W = W2.alloc (.cells (ten 10 a1 a2 x3 x4 x5 x6 a7 a8 a9) 24) := ⟨_, rfl⟩
  rw [← hW3, ← hh]
  have B := Aside0.mk (show Box w W3 h (ten 10 a1 a2 x3 x4 x5 x6 a7 a8 a9) by rw [hW3, hh]; exact Box.fresh D.out _)
  have D' := Aside0.mk (show Below w.heap.size w W3 by rw [hW3]; exact below_alloc D.out _)
  clear A D hW3 hh
  have D := D'
  clear D'
  obtain ⟨o0, o1, o2, o3, o4, o5, o6, o7, o8, o9⟩ := B.out.free
  obtain ⟨c0, c1, c2, c3, c4, c5, c6, c7, c8, c9⟩ := B.out.read
  go_upto_region 30 with (fail)
  clear o0 o1 o2 o3 o4 o5 o6 o7 o8 o9 c0 c1 c2 c3 c4 c5 c6 c7 c8 c9
  obtain ⟨W4, hW4⟩ : ∃ W, W = W3.setCell ⟨h, 5, none⟩ (.string s) := ⟨_, rfl⟩
  rw [← hW4]
  have B' := Aside0.mk (show Box w W4 h (ten 10 a1 a2 x3 x4 s x6 a7 a8 a9) by rw [hW4]; exact ⟨B.out.base, blk_put B.out.blk 5 _ rfl⟩)
  have D' := Aside0.mk (show Below w.heap.size w W4 by rw [hW4]; exact D.out.setCell B.out.base _)
  clear B D hW4
  have B := B'
  have D := D'
  have HJ := Aside0.mk hJ
  clear B' D' hI hI0
  go_wp2_with (fail)
  go_loopg [15, 16] hs.size (fun m v15 v16 wc => ∃ i : Nat, v16 = .int .i64 i ∧ i + m = hs.size ∧ v15 = .bool (hasN hs 67 i) ∧ ∃ d, wc = W4.drewN d)
  case atStart => exact ⟨0, rfl, by simp, rfl, 0, rfl⟩
  case round =>
    obtain ⟨i, rfl, hm, rfl, d, rfl⟩ := hrel
    obtain ⟨b, hb⟩ : ∃ b, hasN hs 67 i = b := ⟨_, rfl⟩
    rw [hb]
    by_cases hi : i < hs.size
    · have hn := Aside0.mk (hasN_succ hs 67 i hi)
      have HB := Aside0.mk hb
      clear hb
      have hfi : I % 7 = 2 := HJ.out
      cases b
      · go_upto_region 34 with (fail)
        go_quiet (fail)
        go_wp2
        go_roundg (gk - 1)
        case measure => omega
        case rel => exact ⟨i + 1, by go_num, by omega, by rw [hn.out, HB.out, Bool.false_or]; exact byte_beq _ _, d + nq, rfl⟩
      · go_upto_region 34 with (fail)
        go_quiet (fail)
        go_wp2
        go_roundg (gk - 1)
        case measure => omega
        case rel => exact ⟨i + 1, by go_num, by omega, by rw [hn.out, HB.out, Bool.true_or], d + nq, rfl⟩
    · obtain rfl : i = hs.size := by omega
      have HF := HFIN.out
      rw [hb] at HF
      have B1 := Aside0.mk (B.out.drewN d)
      have D1 := Aside0.mk (pw_below_drewN D.out d)
      obtain ⟨c0, c1, c2, c3, c4, c5, c6, c7, c8, c9⟩ := B1.out.read
      clear hb B D
      go_wp2_with (fail)
      refine (event_Right.calls 10 a1 a2 x3 x4 s x6 a7 a8 a9 rr _ (HG.out.below D1.out) HR.out).mono ?_
      rintro e wz2 ⟨rfl, hb⟩
      have D2 := Aside0.mk (below_step D1.out hb)
      clear hb c0 c1 c2 c3 c4 c5 c6 c7 c8 c9 B1 D1
      cases b
      · have hse : s.toList.isEmpty = rr := by revert HF; cases rr <;> cases s.toList.isEmpty <;> simp
        have hse2 : (s.toList == ([] : List UInt8)) = rr := by rw [← hse]; cases s.toList <;> rfl
        clear HF
        cases rr
        · go_wp2
          go_ret
          exact ⟨rfl, D2.out⟩
        · go_wp2
          go_ret
          exact ⟨rfl, D2.out⟩
      · obtain rfl : rr = true := by revert HF; cases rr <;> simp
        clear HF
        go_wp2
        go_ret
        exact ⟨rfl, D2.out⟩
set_option maxHeartbeats 4000000 in
set_option maxRecDepth 100000 in
theorem fields_yes2_o (K : Nat) (a1 a2 : Int) (a3 a4 a5 a6 : ByteArray) (a7 a8 a9 : Int) (x3 x4 x5 x6 : ByteArray) (fi : Int) (v2 : ByteArray) (n : Int)
    (hc0 : ∀ w, Calls Tryd.prog 12 #[.agg (ten (K : Int) a1 a2 a3 a4 a5 a6 a7 a8 a9)] w fun e w' => e = .returned (.agg (ten (K : Int) a1 a2 x3 x4 x5 x6 a7 a8 a9)) ∧ Below w.heap.size w w')
    (hX : event_Right.f (K : Int) a1 a2 x3 x4 x5 x6 a7 a8 a9 = some true) (w : World) (hG : Glob w)
    (hK1 : 1 ≤ K) (hK2 : K ≤ 14) (hK7 : ((K : Int) == 7) = false) (hK10 : ((K : Int) == 10) = false) (hs : ByteArray) (hhas : hasL[K]? = some hs) (hsz : hs.size ≤ 7)
    (n2 : Nat) (s : ByteArray) (hm2 : (if 100 < (v2.size : Int) then 100 else (v2.size : Int)) = (n2 : Int)) (h2 : n2 ≤ v2.size) (hss : v2.extract 0 n2 = s) (hz2 : v2.size ≤ 140737488351232)
    (I : Int) (hI : Go.bits .and .i64 fi 65535 = I) (hI0 : 0 ≤ I) (hJ : I % 7 = 2) (rr : Bool) (hR : event_Right.f (K : Int) a1 a2 x3 x4 s x6 a7 a8 a9 = some rr)
    (hfin : (rr == (hasN hs 67 hs.size || s.toList.isEmpty)) = true) :
    Calls Tryd.prog 8 #[.agg (ten (K : Int) a1 a2 a3 a4 a5 a6 a7 a8 a9), .int .i64 fi, .string v2, .int .i64 n] w fun e w' => e = .returned (.bool true) ∧ Below w.heap.size w w' := by
  have HG := Aside0.mk hG
  have HC0 := Aside0.mk hc0
  have HX := Aside0.mk hX
  clear hG hc0 hX
  have HR := Aside0.mk hR
  have HFIN := Aside0.mk hfin
  have HHAS := Aside0.mk hhas
  clear hR hfin hhas
  go_enter Tryd.func8, Tryd.ntmps8
  go_upto_region 1 with (fail)
  obtain ⟨g, hg⟩ : ∃ g, g = w.heap.size := ⟨_, rfl⟩
  obtain ⟨W1, hW1⟩ : ∃ W, W = w.alloc (.cells (ten (K : Int) a1 a2 a3 a4 a5 a6 a7 a8 a9) 24) := ⟨_, rfl⟩
  rw [← hW1, ← hg]
  have A := Aside0.mk (show Box w W1 g (ten (K : Int) a1 a2 a3 a4 a5 a6 a7 a8 a9) by rw [hW1, hg]; exact Box.new (Nat.le_refl _) _)
  have D := Aside0.mk (show Below w.heap.size w W1 by rw [hW1]; exact below_alloc (Below.refl _ _) _)
  clear hW1 hg
  go_upto_if 22 with (first | ((with_reducible refine gate_dst (N := 17) rfl ?_); (with_reducible refine gate_callee (f := 11) rfl ?_); refine goesL_ (some 17) rfl rfl Tryd.func11 (by kernel_rfl) rfl #[] rfl (by (try simp only [List.map_toArray, List.map_cons, List.map_nil]); first | done | rfl) ?_; refine (transeptlaw05_shown.calls true _ (HG.out.below D.out) rfl).mono ?_; rintro e wz_ ⟨rfl, hb⟩; refine ⟨_, rfl, ?_⟩; have n0_ := Aside0.mk (below_step D.out hb); have n1_ := Aside0.mk (A.out.then_ hb); clear D; clear A; have D := n0_; have A := n1_; clear n0_ n1_; clear hb) | ((with_reducible refine gate_dst (N := 18) rfl ?_); refine wpList_load_row ?hgd_18 24 (.tmp 4) ?ho_18 g ?hx_18 ?t_18 ?cs_18 ?fr_18 ?d_18 ?hg_18 ?hu_18 ?hd_18 ?hi_18 ?_; (case hgd_18 => rfl); (case ho_18 => rfl); (case hx_18 => rfl); (case hg_18 => exact A.out.blk); (case hu_18 => exact Tryd.underlying24); (case hd_18 => rfl); (case hi_18 => exact size24)) | ((with_reducible refine gate_dst (N := 20) rfl ?_); refine wpList_load_row ?hgd_20 24 (.tmp 4) ?ho_20 g ?hx_20 ?t_20 ?cs_20 ?fr_20 ?d_20 ?hg_20 ?hu_20 ?hd_20 ?hi_20 ?_; (case hgd_20 => rfl); (case ho_20 => rfl); (case hx_20 => rfl); (case hg_20 => exact A.out.blk); (case hu_20 => exact Tryd.underlying24); (case hd_20 => rfl); (case hi_20 => exact size24)) | ((with_reducible refine gate_dst (N := 19) rfl ?_); (with_reducible refine gate_callee (f := 12) rfl ?_); refine goesL_ (some 19) rfl rfl Tryd.func12 (by kernel_rfl) rfl #[.agg (ten (K : Int) a1 a2 a3 a4 a5 a6 a7 a8 a9)] rfl (by (try simp only [List.map_toArray, List.map_cons, List.map_nil]); first | done | rfl) ?_; refine (HC0.out _).mono ?_; rintro e wz_ ⟨rfl, hb⟩; refine ⟨_, rfl, ?_⟩; have n0_ := Aside0.mk (below_step D.out hb); have n1_ := Aside0.mk (A.out.then_ hb); clear D; clear A; have D := n0_; have A := n1_; clear n0_ n1_; clear hb) | ((with_reducible refine gate_store (p := 4) rfl ?_); refine wpList_store_row ?hgd_s19 24 (.tmp 4) (.tmp 19) ?ho_s19 g (ten (K : Int) a1 a2 x3 x4 x5 x6 a7 a8 a9) ?hx_s19 ?hy_s19 ?t_s19 ?old_s19 ?hg_s19 ?hi_s19 ?hold_s19 ?h1_s19 ?_; (case hgd_s19 => rfl); (case ho_s19 => rfl); (case hx_s19 => rfl); (case hy_s19 => rfl); (case hg_s19 => exact A.out.blk); (case hi_s19 => exact size24); (case hold_s19 => rfl); (case h1_s19 => exact ten_one _ _ _ _ _ _ _ _ _ _); have n0_ := Aside0.mk (setRow_below D.out A.out.base (ten (K : Int) a1 a2 x3 x4 x5 x6 a7 a8 a9)); have n1_ := Aside0.mk (Box.row A.out (ten (K : Int) a1 a2 x3 x4 x5 x6 a7 a8 a9)); clear D; clear A; have D := n0_; have A := n1_; clear n0_ n1_) | ((with_reducible refine gate_dst (N := 21) rfl ?_); (with_reducible refine gate_callee (f := 15) rfl ?_); refine goesL_ (some 21) rfl rfl Tryd.func15 (by kernel_rfl) rfl #[.agg (ten (K : Int) a1 a2 x3 x4 x5 x6 a7 a8 a9)] rfl (by (try simp only [List.map_toArray, List.map_cons, List.map_nil]); first | done | rfl) ?_; refine (event_Right.calls (K : Int) a1 a2 x3 x4 x5 x6 a7 a8 a9 true _ (HG.out.below D.out) HX.out).mono ?_; rintro e wz_ ⟨rfl, hb⟩; refine ⟨_, rfl, ?_⟩; have n0_ := Aside0.mk (below_step D.out hb); have n1_ := Aside0.mk (A.out.then_ hb); clear D; clear A; have D := n0_; have A := n1_; clear n0_ n1_; clear hb))
  go_upto_region 6 with (fail)
  clear hm2 h2 hss
  have e0 : ∀ o, (wz_.alloc o).cell? ⟨g, 0, none⟩ = some (.int .i64 (K : Int)) := fun o => (A.out.alloc o).read.1
  have e1 : (wz_.alloc (.cells (hasL.map Value.string).toArray 9)).cell? ⟨wz_.heap.size, K, none⟩ = some (.string hs) := by
    rw [cell_of_row _ _ _ _ _ _ (heap_alloc_new wz_ _)]
    simp only [List.getElem?_toArray, List.getElem?_map, HHAS.out, Option.map_some]
  simp only [hasL, List.map_cons, List.map_nil] at e1
  go_upto_region 7 with (fail)
  obtain ⟨W2, hW2⟩ : ∃ W, W = wz_.alloc (.cells (hasL.map Value.string).toArray 9) := ⟨_, rfl⟩
  have A' := Aside0.mk (show Box w W2 g (ten (K : Int) a1 a2 x3 x4 x5 x6 a7 a8 a9) by rw [hW2]; exact A.out.alloc _)
  have D' := Aside0.mk (show Below w.heap.size w W2 by rw [hW2]; exact below_alloc D.out _)
  simp only [hasL, List.map_cons, List.map_nil] at hW2
  rw [← hW2]
  clear A D hW2 e0 e1
  have A := A'
  have D := D'
  clear A' D'
  obtain ⟨c0, c1, c2, c3, c4, c5, c6, c7, c8, c9⟩ := A.out.read
  go_upto_region 13 with (fail)
  clear c0 c1 c2 c3 c4 c5 c6 c7 c8 c9
  obtain ⟨h, hh⟩ : ∃ h, h = W2.heap.size := ⟨_, rfl⟩
  obtain ⟨W3, hW3⟩ : ∃ W, W = W2.alloc (.cells (ten (K : Int) a1 a2 x3 x4 x5 x6 a7 a8 a9) 24) := ⟨_, rfl⟩
  rw [← hW3, ← hh]
  have B := Aside0.mk (show Box w W3 h (ten (K : Int) a1 a2 x3 x4 x5 x6 a7 a8 a9) by rw [hW3, hh]; exact Box.fresh D.out _)
  have D' := Aside0.mk (show Below w.heap.size w W3 by rw [hW3]; exact below_alloc D.out _)
  clear A D hW3 hh
  have D := D'
  clear D'
  obtain ⟨o0, o1, o2, o3, o4, o5, o6, o7, o8, o9⟩ := B.out.free
  obtain ⟨c0, c1, c2, c3, c4, c5, c6, c7, c8, c9⟩ := B.out.read
  go_upto_region 30 with (fail)
  clear o0 o1 o2 o3 o4 o5 o6 o7 o8 o9 c0 c1 c2 c3 c4 c5 c6 c7 c8 c9
  obtain ⟨W4, hW4⟩ : ∃ W, W = W3.setCell ⟨h, 5, none⟩ (.string s) := ⟨_, rfl⟩
  rw [← hW4]
  have B' := Aside0.mk (show Box w W4 h (ten (K : Int) a1 a2 x3 x4 s x6 a7 a8 a9) by rw [hW4]; exact ⟨B.out.base, blk_put B.out.blk 5 _ rfl⟩)
  have D' := Aside0.mk (show Below w.heap.size w W4 by rw [hW4]; exact D.out.setCell B.out.base _)
  clear B D hW4
  have B := B'
  have D := D'
  have HJ := Aside0.mk hJ
  clear B' D' hI hI0
  go_wp2_with (fail)
  go_loopg [15, 16] hs.size (fun m v15 v16 wc => ∃ i : Nat, v16 = .int .i64 i ∧ i + m = hs.size ∧ v15 = .bool (hasN hs 67 i) ∧ ∃ d, wc = W4.drewN d)
  case atStart => exact ⟨0, rfl, by simp, rfl, 0, rfl⟩
  case round =>
    obtain ⟨i, rfl, hm, rfl, d, rfl⟩ := hrel
    obtain ⟨b, hb⟩ : ∃ b, hasN hs 67 i = b := ⟨_, rfl⟩
    rw [hb]
    by_cases hi : i < hs.size
    · have hn := Aside0.mk (hasN_succ hs 67 i hi)
      have HB := Aside0.mk hb
      clear hb
      have hfi : I % 7 = 2 := HJ.out
      cases b
      · go_upto_region 34 with (fail)
        go_quiet (fail)
        go_wp2
        go_roundg (gk - 1)
        case measure => omega
        case rel => exact ⟨i + 1, by go_num, by omega, by rw [hn.out, HB.out, Bool.false_or]; exact byte_beq _ _, d + nq, rfl⟩
      · go_upto_region 34 with (fail)
        go_quiet (fail)
        go_wp2
        go_roundg (gk - 1)
        case measure => omega
        case rel => exact ⟨i + 1, by go_num, by omega, by rw [hn.out, HB.out, Bool.true_or], d + nq, rfl⟩
    · obtain rfl : i = hs.size := by omega
      have HF := HFIN.out
      rw [hb] at HF
      have B1 := Aside0.mk (B.out.drewN d)
      have D1 := Aside0.mk (pw_below_drewN D.out d)
      obtain ⟨c0, c1, c2, c3, c4, c5, c6, c7, c8, c9⟩ := B1.out.read
      clear hb B D
      go_wp2_with (fail)
      refine (event_Right.calls (K : Int) a1 a2 x3 x4 s x6 a7 a8 a9 rr _ (HG.out.below D1.out) HR.out).mono ?_
      rintro e wz2 ⟨rfl, hb⟩
      have D2 := Aside0.mk (below_step D1.out hb)
      clear hb c0 c1 c2 c3 c4 c5 c6 c7 c8 c9 B1 D1
      cases b
      · have hse : s.toList.isEmpty = rr := by revert HF; cases rr <;> cases s.toList.isEmpty <;> simp
        have hse2 : (s.toList == ([] : List UInt8)) = rr := by rw [← hse]; cases s.toList <;> rfl
        clear HF
        cases rr
        · go_wp2
          go_ret
          exact ⟨rfl, D2.out⟩
        · go_wp2
          go_ret
          exact ⟨rfl, D2.out⟩
      · obtain rfl : rr = true := by revert HF; cases rr <;> simp
        clear HF
        go_wp2
        go_ret
        exact ⟨rfl, D2.out⟩
set_option maxHeartbeats 4000000 in
set_option maxRecDepth 100000 in
theorem fields_yes3_7 (a1 a2 : Int) (a3 a4 a5 a6 : ByteArray) (a7 a8 a9 : Int) (x3 x4 x5 x6 : ByteArray) (fi : Int) (v2 : ByteArray) (n : Int)
    (hc0 : ∀ w, Calls Tryd.prog 12 #[.agg (ten 7 a1 a2 a3 a4 a5 a6 a7 a8 a9)] w fun e w' => e = .returned (.agg (ten 7 a1 a2 x3 x4 x5 x6 a7 a8 a9)) ∧ Below w.heap.size w w')
    (hX : event_Right.f 7 a1 a2 x3 x4 x5 x6 a7 a8 a9 = some true) (w : World) (hG : Glob w)
    (hs : ByteArray) (hhas : hasL[7]? = some hs) (hsz : hs.size ≤ 7)
    (n2 : Nat) (s : ByteArray) (hm2 : (if 100 < (v2.size : Int) then 100 else (v2.size : Int)) = (n2 : Int)) (h2 : n2 ≤ v2.size) (hss : v2.extract 0 n2 = s) (hz2 : v2.size ≤ 140737488351232)
    (I : Int) (hI : Go.bits .and .i64 fi 65535 = I) (hI0 : 0 ≤ I) (hJ : I % 7 = 3) (rr : Bool) (hR : event_Right.f 7 a1 a2 x3 x4 x5 s a7 a8 a9 = some rr)
    (hfin : (rr == (hasN hs 68 hs.size || s.toList.isEmpty)) = true) :
    Calls Tryd.prog 8 #[.agg (ten 7 a1 a2 a3 a4 a5 a6 a7 a8 a9), .int .i64 fi, .string v2, .int .i64 n] w fun e w' => e = .returned (.bool true) ∧ Below w.heap.size w w' := by
  have HG := Aside0.mk hG
  have HC0 := Aside0.mk hc0
  have HX := Aside0.mk hX
  clear hG hc0 hX
  have HR := Aside0.mk hR
  have HFIN := Aside0.mk hfin
  have HHAS := Aside0.mk hhas
  clear hR hfin hhas
  go_enter Tryd.func8, Tryd.ntmps8
  go_upto_region 1 with (fail)
  obtain ⟨g, hg⟩ : ∃ g, g = w.heap.size := ⟨_, rfl⟩
  obtain ⟨W1, hW1⟩ : ∃ W, W = w.alloc (.cells (ten 7 a1 a2 a3 a4 a5 a6 a7 a8 a9) 24) := ⟨_, rfl⟩
  rw [← hW1, ← hg]
  have A := Aside0.mk (show Box w W1 g (ten 7 a1 a2 a3 a4 a5 a6 a7 a8 a9) by rw [hW1, hg]; exact Box.new (Nat.le_refl _) _)
  have D := Aside0.mk (show Below w.heap.size w W1 by rw [hW1]; exact below_alloc (Below.refl _ _) _)
  clear hW1 hg
  go_upto_if 22 with (first | ((with_reducible refine gate_dst (N := 17) rfl ?_); (with_reducible refine gate_callee (f := 11) rfl ?_); refine goesL_ (some 17) rfl rfl Tryd.func11 (by kernel_rfl) rfl #[] rfl (by (try simp only [List.map_toArray, List.map_cons, List.map_nil]); first | done | rfl) ?_; refine (transeptlaw05_shown.calls true _ (HG.out.below D.out) rfl).mono ?_; rintro e wz_ ⟨rfl, hb⟩; refine ⟨_, rfl, ?_⟩; have n0_ := Aside0.mk (below_step D.out hb); have n1_ := Aside0.mk (A.out.then_ hb); clear D; clear A; have D := n0_; have A := n1_; clear n0_ n1_; clear hb) | ((with_reducible refine gate_dst (N := 18) rfl ?_); refine wpList_load_row ?hgd_18 24 (.tmp 4) ?ho_18 g ?hx_18 ?t_18 ?cs_18 ?fr_18 ?d_18 ?hg_18 ?hu_18 ?hd_18 ?hi_18 ?_; (case hgd_18 => rfl); (case ho_18 => rfl); (case hx_18 => rfl); (case hg_18 => exact A.out.blk); (case hu_18 => exact Tryd.underlying24); (case hd_18 => rfl); (case hi_18 => exact size24)) | ((with_reducible refine gate_dst (N := 20) rfl ?_); refine wpList_load_row ?hgd_20 24 (.tmp 4) ?ho_20 g ?hx_20 ?t_20 ?cs_20 ?fr_20 ?d_20 ?hg_20 ?hu_20 ?hd_20 ?hi_20 ?_; (case hgd_20 => rfl); (case ho_20 => rfl); (case hx_20 => rfl); (case hg_20 => exact A.out.blk); (case hu_20 => exact Tryd.underlying24); (case hd_20 => rfl); (case hi_20 => exact size24)) | ((with_reducible refine gate_dst (N := 19) rfl ?_); (with_reducible refine gate_callee (f := 12) rfl ?_); refine goesL_ (some 19) rfl rfl Tryd.func12 (by kernel_rfl) rfl #[.agg (ten 7 a1 a2 a3 a4 a5 a6 a7 a8 a9)] rfl (by (try simp only [List.map_toArray, List.map_cons, List.map_nil]); first | done | rfl) ?_; refine (HC0.out _).mono ?_; rintro e wz_ ⟨rfl, hb⟩; refine ⟨_, rfl, ?_⟩; have n0_ := Aside0.mk (below_step D.out hb); have n1_ := Aside0.mk (A.out.then_ hb); clear D; clear A; have D := n0_; have A := n1_; clear n0_ n1_; clear hb) | ((with_reducible refine gate_store (p := 4) rfl ?_); refine wpList_store_row ?hgd_s19 24 (.tmp 4) (.tmp 19) ?ho_s19 g (ten 7 a1 a2 x3 x4 x5 x6 a7 a8 a9) ?hx_s19 ?hy_s19 ?t_s19 ?old_s19 ?hg_s19 ?hi_s19 ?hold_s19 ?h1_s19 ?_; (case hgd_s19 => rfl); (case ho_s19 => rfl); (case hx_s19 => rfl); (case hy_s19 => rfl); (case hg_s19 => exact A.out.blk); (case hi_s19 => exact size24); (case hold_s19 => rfl); (case h1_s19 => exact ten_one _ _ _ _ _ _ _ _ _ _); have n0_ := Aside0.mk (setRow_below D.out A.out.base (ten 7 a1 a2 x3 x4 x5 x6 a7 a8 a9)); have n1_ := Aside0.mk (Box.row A.out (ten 7 a1 a2 x3 x4 x5 x6 a7 a8 a9)); clear D; clear A; have D := n0_; have A := n1_; clear n0_ n1_) | ((with_reducible refine gate_dst (N := 21) rfl ?_); (with_reducible refine gate_callee (f := 15) rfl ?_); refine goesL_ (some 21) rfl rfl Tryd.func15 (by kernel_rfl) rfl #[.agg (ten 7 a1 a2 x3 x4 x5 x6 a7 a8 a9)] rfl (by (try simp only [List.map_toArray, List.map_cons, List.map_nil]); first | done | rfl) ?_; refine (event_Right.calls 7 a1 a2 x3 x4 x5 x6 a7 a8 a9 true _ (HG.out.below D.out) HX.out).mono ?_; rintro e wz_ ⟨rfl, hb⟩; refine ⟨_, rfl, ?_⟩; have n0_ := Aside0.mk (below_step D.out hb); have n1_ := Aside0.mk (A.out.then_ hb); clear D; clear A; have D := n0_; have A := n1_; clear n0_ n1_; clear hb))
  go_upto_region 6 with (fail)
  clear hm2 h2 hss
  have e0 : ∀ o, (wz_.alloc o).cell? ⟨g, 0, none⟩ = some (.int .i64 7) := fun o => (A.out.alloc o).read.1
  have e1 : (wz_.alloc (.cells (hasL.map Value.string).toArray 9)).cell? ⟨wz_.heap.size, 7, none⟩ = some (.string hs) := by
    rw [cell_of_row _ _ _ _ _ _ (heap_alloc_new wz_ _)]
    simp only [List.getElem?_toArray, List.getElem?_map, HHAS.out, Option.map_some]
  simp only [hasL, List.map_cons, List.map_nil] at e1
  go_upto_region 7 with (fail)
  obtain ⟨W2, hW2⟩ : ∃ W, W = wz_.alloc (.cells (hasL.map Value.string).toArray 9) := ⟨_, rfl⟩
  have A' := Aside0.mk (show Box w W2 g (ten 7 a1 a2 x3 x4 x5 x6 a7 a8 a9) by rw [hW2]; exact A.out.alloc _)
  have D' := Aside0.mk (show Below w.heap.size w W2 by rw [hW2]; exact below_alloc D.out _)
  simp only [hasL, List.map_cons, List.map_nil] at hW2
  rw [← hW2]
  clear A D hW2 e0 e1
  have A := A'
  have D := D'
  clear A' D'
  obtain ⟨c0, c1, c2, c3, c4, c5, c6, c7, c8, c9⟩ := A.out.read
  go_upto_region 13 with (fail)
  clear c0 c1 c2 c3 c4 c5 c6 c7 c8 c9
  obtain ⟨h, hh⟩ : ∃ h, h = W2.heap.size := ⟨_, rfl⟩
  obtain ⟨W3, hW3⟩ : ∃ W, W = W2.alloc (.cells (ten 7 a1 a2 x3 x4 x5 x6 a7 a8 a9) 24) := ⟨_, rfl⟩
  rw [← hW3, ← hh]
  have B := Aside0.mk (show Box w W3 h (ten 7 a1 a2 x3 x4 x5 x6 a7 a8 a9) by rw [hW3, hh]; exact Box.fresh D.out _)
  have D' := Aside0.mk (show Below w.heap.size w W3 by rw [hW3]; exact below_alloc D.out _)
  clear A D hW3 hh
  have D := D'
  clear D'
  obtain ⟨o0, o1, o2, o3, o4, o5, o6, o7, o8, o9⟩ := B.out.free
  obtain ⟨c0, c1, c2, c3, c4, c5, c6, c7, c8, c9⟩ := B.out.read
  go_upto_region 30 with (fail)
  clear o0 o1 o2 o3 o4 o5 o6 o7 o8 o9 c0 c1 c2 c3 c4 c5 c6 c7 c8 c9
  obtain ⟨W4, hW4⟩ : ∃ W, W = W3.setCell ⟨h, 6, none⟩ (.string s) := ⟨_, rfl⟩
  rw [← hW4]
  have B' := Aside0.mk (show Box w W4 h (ten 7 a1 a2 x3 x4 x5 s a7 a8 a9) by rw [hW4]; exact ⟨B.out.base, blk_put B.out.blk 6 _ rfl⟩)
  have D' := Aside0.mk (show Below w.heap.size w W4 by rw [hW4]; exact D.out.setCell B.out.base _)
  clear B D hW4
  have B := B'
  have D := D'
  have HJ := Aside0.mk hJ
  clear B' D' hI hI0
  go_wp2_with (fail)
  go_loopg [15, 16] hs.size (fun m v15 v16 wc => ∃ i : Nat, v16 = .int .i64 i ∧ i + m = hs.size ∧ v15 = .bool (hasN hs 68 i) ∧ ∃ d, wc = W4.drewN d)
  case atStart => exact ⟨0, rfl, by simp, rfl, 0, rfl⟩
  case round =>
    obtain ⟨i, rfl, hm, rfl, d, rfl⟩ := hrel
    obtain ⟨b, hb⟩ : ∃ b, hasN hs 68 i = b := ⟨_, rfl⟩
    rw [hb]
    by_cases hi : i < hs.size
    · have hn := Aside0.mk (hasN_succ hs 68 i hi)
      have HB := Aside0.mk hb
      clear hb
      have hfi : I % 7 = 3 := HJ.out
      cases b
      · go_upto_region 34 with (fail)
        go_quiet (fail)
        go_wp2
        go_roundg (gk - 1)
        case measure => omega
        case rel => exact ⟨i + 1, by go_num, by omega, by rw [hn.out, HB.out, Bool.false_or]; exact byte_beq _ _, d + nq, rfl⟩
      · go_upto_region 34 with (fail)
        go_quiet (fail)
        go_wp2
        go_roundg (gk - 1)
        case measure => omega
        case rel => exact ⟨i + 1, by go_num, by omega, by rw [hn.out, HB.out, Bool.true_or], d + nq, rfl⟩
    · obtain rfl : i = hs.size := by omega
      have HF := HFIN.out
      rw [hb] at HF
      have B1 := Aside0.mk (B.out.drewN d)
      have D1 := Aside0.mk (pw_below_drewN D.out d)
      obtain ⟨c0, c1, c2, c3, c4, c5, c6, c7, c8, c9⟩ := B1.out.read
      clear hb B D
      go_wp2_with (fail)
      refine (event_Right.calls 7 a1 a2 x3 x4 x5 s a7 a8 a9 rr _ (HG.out.below D1.out) HR.out).mono ?_
      rintro e wz2 ⟨rfl, hb⟩
      have D2 := Aside0.mk (below_step D1.out hb)
      clear hb c0 c1 c2 c3 c4 c5 c6 c7 c8 c9 B1 D1
      cases b
      · have hse : s.toList.isEmpty = rr := by revert HF; cases rr <;> cases s.toList.isEmpty <;> simp
        have hse2 : (s.toList == ([] : List UInt8)) = rr := by rw [← hse]; cases s.toList <;> rfl
        clear HF
        cases rr
        · go_wp2
          go_ret
          exact ⟨rfl, D2.out⟩
        · go_wp2
          go_ret
          exact ⟨rfl, D2.out⟩
      · obtain rfl : rr = true := by revert HF; cases rr <;> simp
        clear HF
        go_wp2
        go_ret
        exact ⟨rfl, D2.out⟩
set_option maxHeartbeats 4000000 in
set_option maxRecDepth 100000 in
theorem fields_yes3_10 (a1 a2 : Int) (a3 a4 a5 a6 : ByteArray) (a7 a8 a9 : Int) (x3 x4 x5 x6 : ByteArray) (fi : Int) (v2 : ByteArray) (n : Int)
    (hc0 : ∀ w, Calls Tryd.prog 12 #[.agg (ten 10 a1 a2 a3 a4 a5 a6 a7 a8 a9)] w fun e w' => e = .returned (.agg (ten 10 a1 a2 x3 x4 x5 x6 a7 a8 a9)) ∧ Below w.heap.size w w')
    (hX : event_Right.f 10 a1 a2 x3 x4 x5 x6 a7 a8 a9 = some true) (w : World) (hG : Glob w)
    (hs : ByteArray) (hhas : hasL[10]? = some hs) (hsz : hs.size ≤ 7)
    (n2 : Nat) (s : ByteArray) (hm2 : (if 100 < (v2.size : Int) then 100 else (v2.size : Int)) = (n2 : Int)) (h2 : n2 ≤ v2.size) (hss : v2.extract 0 n2 = s) (hz2 : v2.size ≤ 140737488351232)
    (I : Int) (hI : Go.bits .and .i64 fi 65535 = I) (hI0 : 0 ≤ I) (hJ : I % 7 = 3) (rr : Bool) (hR : event_Right.f 10 a1 a2 x3 x4 x5 s a7 a8 a9 = some rr)
    (hfin : (rr == (hasN hs 68 hs.size || s.toList.isEmpty)) = true) :
    Calls Tryd.prog 8 #[.agg (ten 10 a1 a2 a3 a4 a5 a6 a7 a8 a9), .int .i64 fi, .string v2, .int .i64 n] w fun e w' => e = .returned (.bool true) ∧ Below w.heap.size w w' := by
  have HG := Aside0.mk hG
  have HC0 := Aside0.mk hc0
  have HX := Aside0.mk hX
  clear hG hc0 hX
  have HR := Aside0.mk hR
  have HFIN := Aside0.mk hfin
  have HHAS := Aside0.mk hhas
  clear hR hfin hhas
  go_enter Tryd.func8, Tryd.ntmps8
  go_upto_region 1 with (fail)
  obtain ⟨g, hg⟩ : ∃ g, g = w.heap.size := ⟨_, rfl⟩
  obtain ⟨W1, hW1⟩ : ∃ W, W = w.alloc (.cells (ten 10 a1 a2 a3 a4 a5 a6 a7 a8 a9) 24) := ⟨_, rfl⟩
  rw [← hW1, ← hg]
  have A := Aside0.mk (show Box w W1 g (ten 10 a1 a2 a3 a4 a5 a6 a7 a8 a9) by rw [hW1, hg]; exact Box.new (Nat.le_refl _) _)
  have D := Aside0.mk (show Below w.heap.size w W1 by rw [hW1]; exact below_alloc (Below.refl _ _) _)
  clear hW1 hg
  go_upto_if 22 with (first | ((with_reducible refine gate_dst (N := 17) rfl ?_); (with_reducible refine gate_callee (f := 11) rfl ?_); refine goesL_ (some 17) rfl rfl Tryd.func11 (by kernel_rfl) rfl #[] rfl (by (try simp only [List.map_toArray, List.map_cons, List.map_nil]); first | done | rfl) ?_; refine (transeptlaw05_shown.calls true _ (HG.out.below D.out) rfl).mono ?_; rintro e wz_ ⟨rfl, hb⟩; refine ⟨_, rfl, ?_⟩; have n0_ := Aside0.mk (below_step D.out hb); have n1_ := Aside0.mk (A.out.then_ hb); clear D; clear A; have D := n0_; have A := n1_; clear n0_ n1_; clear hb) | ((with_reducible refine gate_dst (N := 18) rfl ?_); refine wpList_load_row ?hgd_18 24 (.tmp 4) ?ho_18 g ?hx_18 ?t_18 ?cs_18 ?fr_18 ?d_18 ?hg_18 ?hu_18 ?hd_18 ?hi_18 ?_; (case hgd_18 => rfl); (case ho_18 => rfl); (case hx_18 => rfl); (case hg_18 => exact A.out.blk); (case hu_18 => exact Tryd.underlying24); (case hd_18 => rfl); (case hi_18 => exact size24)) | ((with_reducible refine gate_dst (N := 20) rfl ?_); refine wpList_load_row ?hgd_20 24 (.tmp 4) ?ho_20 g ?hx_20 ?t_20 ?cs_20 ?fr_20 ?d_20 ?hg_20 ?hu_20 ?hd_20 ?hi_20 ?_; (case hgd_20 => rfl); (case ho_20 => rfl); (case hx_20 => rfl); (case hg_20 => exact A.out.blk); (case hu_20 => exact Tryd.underlying24); (case hd_20 => rfl); (case hi_20 => exact size24)) | ((with_reducible refine gate_dst (N := 19) rfl ?_); (with_reducible refine gate_callee (f := 12) rfl ?_); refine goesL_ (some 19) rfl rfl Tryd.func12 (by kernel_rfl) rfl #[.agg (ten 10 a1 a2 a3 a4 a5 a6 a7 a8 a9)] rfl (by (try simp only [List.map_toArray, List.map_cons, List.map_nil]); first | done | rfl) ?_; refine (HC0.out _).mono ?_; rintro e wz_ ⟨rfl, hb⟩; refine ⟨_, rfl, ?_⟩; have n0_ := Aside0.mk (below_step D.out hb); have n1_ := Aside0.mk (A.out.then_ hb); clear D; clear A; have D := n0_; have A := n1_; clear n0_ n1_; clear hb) | ((with_reducible refine gate_store (p := 4) rfl ?_); refine wpList_store_row ?hgd_s19 24 (.tmp 4) (.tmp 19) ?ho_s19 g (ten 10 a1 a2 x3 x4 x5 x6 a7 a8 a9) ?hx_s19 ?hy_s19 ?t_s19 ?old_s19 ?hg_s19 ?hi_s19 ?hold_s19 ?h1_s19 ?_; (case hgd_s19 => rfl); (case ho_s19 => rfl); (case hx_s19 => rfl); (case hy_s19 => rfl); (case hg_s19 => exact A.out.blk); (case hi_s19 => exact size24); (case hold_s19 => rfl); (case h1_s19 => exact ten_one _ _ _ _ _ _ _ _ _ _); have n0_ := Aside0.mk (setRow_below D.out A.out.base (ten 10 a1 a2 x3 x4 x5 x6 a7 a8 a9)); have n1_ := Aside0.mk (Box.row A.out (ten 10 a1 a2 x3 x4 x5 x6 a7 a8 a9)); clear D; clear A; have D := n0_; have A := n1_; clear n0_ n1_) | ((with_reducible refine gate_dst (N := 21) rfl ?_); (with_reducible refine gate_callee (f := 15) rfl ?_); refine goesL_ (some 21) rfl rfl Tryd.func15 (by kernel_rfl) rfl #[.agg (ten 10 a1 a2 x3 x4 x5 x6 a7 a8 a9)] rfl (by (try simp only [List.map_toArray, List.map_cons, List.map_nil]); first | done | rfl) ?_; refine (event_Right.calls 10 a1 a2 x3 x4 x5 x6 a7 a8 a9 true _ (HG.out.below D.out) HX.out).mono ?_; rintro e wz_ ⟨rfl, hb⟩; refine ⟨_, rfl, ?_⟩; have n0_ := Aside0.mk (below_step D.out hb); have n1_ := Aside0.mk (A.out.then_ hb); clear D; clear A; have D := n0_; have A := n1_; clear n0_ n1_; clear hb))
  go_upto_region 6 with (fail)
  clear hm2 h2 hss
  have e0 : ∀ o, (wz_.alloc o).cell? ⟨g, 0, none⟩ = some (.int .i64 10) := fun o => (A.out.alloc o).read.1
  have e1 : (wz_.alloc (.cells (hasL.map Value.string).toArray 9)).cell? ⟨wz_.heap.size, 10, none⟩ = some (.string hs) := by
    rw [cell_of_row _ _ _ _ _ _ (heap_alloc_new wz_ _)]
    simp only [List.getElem?_toArray, List.getElem?_map, HHAS.out, Option.map_some]
  simp only [hasL, List.map_cons, List.map_nil] at e1
  go_upto_region 7 with (fail)
  obtain ⟨W2, hW2⟩ : ∃ W, W = wz_.alloc (.cells (hasL.map Value.string).toArray 9) := ⟨_, rfl⟩
  have A' := Aside0.mk (show Box w W2 g (ten 10 a1 a2 x3 x4 x5 x6 a7 a8 a9) by rw [hW2]; exact A.out.alloc _)
  have D' := Aside0.mk (show Below w.heap.size w W2 by rw [hW2]; exact below_alloc D.out _)
  simp only [hasL, List.map_cons, List.map_nil] at hW2
  rw [← hW2]
  clear A D hW2 e0 e1
  have A := A'
  have D := D'
  clear A' D'
  obtain ⟨c0, c1, c2, c3, c4, c5, c6, c7, c8, c9⟩ := A.out.read
  go_upto_region 13 with (fail)
  clear c0 c1 c2 c3 c4 c5 c6 c7 c8 c9
  obtain ⟨h, hh⟩ : ∃ h, h = W2.heap.size := ⟨_, rfl⟩
  obtain ⟨W3, hW3⟩ : ∃ W, W = W2.alloc (.cells (ten 10 a1 a2 x3 x4 x5 x6 a7 a8 a9) 24) := ⟨_, rfl⟩
  rw [← hW3, ← hh]
  have B := Aside0.mk (show Box w W3 h (ten 10 a1 a2 x3 x4 x5 x6 a7 a8 a9) by rw [hW3, hh]; exact Box.fresh D.out _)
  have D' := Aside0.mk (show Below w.heap.size w W3 by rw [hW3]; exact below_alloc D.out _)
  clear A D hW3 hh
  have D := D'
  clear D'
  obtain ⟨o0, o1, o2, o3, o4, o5, o6, o7, o8, o9⟩ := B.out.free
  obtain ⟨c0, c1, c2, c3, c4, c5, c6, c7, c8, c9⟩ := B.out.read
  go_upto_region 30 with (fail)
  clear o0 o1 o2 o3 o4 o5 o6 o7 o8 o9 c0 c1 c2 c3 c4 c5 c6 c7 c8 c9
  obtain ⟨W4, hW4⟩ : ∃ W, W = W3.setCell ⟨h, 6, none⟩ (.string s) := ⟨_, rfl⟩
  rw [← hW4]
  have B' := Aside0.mk (show Box w W4 h (ten 10 a1 a2 x3 x4 x5 s a7 a8 a9) by rw [hW4]; exact ⟨B.out.base, blk_put B.out.blk 6 _ rfl⟩)
  have D' := Aside0.mk (show Below w.heap.size w W4 by rw [hW4]; exact D.out.setCell B.out.base _)
  clear B D hW4
  have B := B'
  have D := D'
  have HJ := Aside0.mk hJ
  clear B' D' hI hI0
  go_wp2_with (fail)
  go_loopg [15, 16] hs.size (fun m v15 v16 wc => ∃ i : Nat, v16 = .int .i64 i ∧ i + m = hs.size ∧ v15 = .bool (hasN hs 68 i) ∧ ∃ d, wc = W4.drewN d)
  case atStart => exact ⟨0, rfl, by simp, rfl, 0, rfl⟩
  case round =>
    obtain ⟨i, rfl, hm, rfl, d, rfl⟩ := hrel
    obtain ⟨b, hb⟩ : ∃ b, hasN hs 68 i = b := ⟨_, rfl⟩
    rw [hb]
    by_cases hi : i < hs.size
    · have hn := Aside0.mk (hasN_succ hs 68 i hi)
      have HB := Aside0.mk hb
      clear hb
      have hfi : I % 7 = 3 := HJ.out
      cases b
      · go_upto_region 34 with (fail)
        go_quiet (fail)
        go_wp2
        go_roundg (gk - 1)
        case measure => omega
        case rel => exact ⟨i + 1, by go_num, by omega, by rw [hn.out, HB.out, Bool.false_or]; exact byte_beq _ _, d + nq, rfl⟩
      · go_upto_region 34 with (fail)
        go_quiet (fail)
        go_wp2
        go_roundg (gk - 1)
        case measure => omega
        case rel => exact ⟨i + 1, by go_num, by omega, by rw [hn.out, HB.out, Bool.true_or], d + nq, rfl⟩
    · obtain rfl : i = hs.size := by omega
      have HF := HFIN.out
      rw [hb] at HF
      have B1 := Aside0.mk (B.out.drewN d)
      have D1 := Aside0.mk (pw_below_drewN D.out d)
      obtain ⟨c0, c1, c2, c3, c4, c5, c6, c7, c8, c9⟩ := B1.out.read
      clear hb B D
      go_wp2_with (fail)
      refine (event_Right.calls 10 a1 a2 x3 x4 x5 s a7 a8 a9 rr _ (HG.out.below D1.out) HR.out).mono ?_
      rintro e wz2 ⟨rfl, hb⟩
      have D2 := Aside0.mk (below_step D1.out hb)
      clear hb c0 c1 c2 c3 c4 c5 c6 c7 c8 c9 B1 D1
      cases b
      · have hse : s.toList.isEmpty = rr := by revert HF; cases rr <;> cases s.toList.isEmpty <;> simp
        have hse2 : (s.toList == ([] : List UInt8)) = rr := by rw [← hse]; cases s.toList <;> rfl
        clear HF
        cases rr
        · go_wp2
          go_ret
          exact ⟨rfl, D2.out⟩
        · go_wp2
          go_ret
          exact ⟨rfl, D2.out⟩
      · obtain rfl : rr = true := by revert HF; cases rr <;> simp
        clear HF
        go_wp2
        go_ret
        exact ⟨rfl, D2.out⟩
set_option maxHeartbeats 4000000 in
set_option maxRecDepth 100000 in
theorem fields_yes3_o (K : Nat) (a1 a2 : Int) (a3 a4 a5 a6 : ByteArray) (a7 a8 a9 : Int) (x3 x4 x5 x6 : ByteArray) (fi : Int) (v2 : ByteArray) (n : Int)
    (hc0 : ∀ w, Calls Tryd.prog 12 #[.agg (ten (K : Int) a1 a2 a3 a4 a5 a6 a7 a8 a9)] w fun e w' => e = .returned (.agg (ten (K : Int) a1 a2 x3 x4 x5 x6 a7 a8 a9)) ∧ Below w.heap.size w w')
    (hX : event_Right.f (K : Int) a1 a2 x3 x4 x5 x6 a7 a8 a9 = some true) (w : World) (hG : Glob w)
    (hK1 : 1 ≤ K) (hK2 : K ≤ 14) (hK7 : ((K : Int) == 7) = false) (hK10 : ((K : Int) == 10) = false) (hs : ByteArray) (hhas : hasL[K]? = some hs) (hsz : hs.size ≤ 7)
    (n2 : Nat) (s : ByteArray) (hm2 : (if 100 < (v2.size : Int) then 100 else (v2.size : Int)) = (n2 : Int)) (h2 : n2 ≤ v2.size) (hss : v2.extract 0 n2 = s) (hz2 : v2.size ≤ 140737488351232)
    (I : Int) (hI : Go.bits .and .i64 fi 65535 = I) (hI0 : 0 ≤ I) (hJ : I % 7 = 3) (rr : Bool) (hR : event_Right.f (K : Int) a1 a2 x3 x4 x5 s a7 a8 a9 = some rr)
    (hfin : (rr == (hasN hs 68 hs.size || s.toList.isEmpty)) = true) :
    Calls Tryd.prog 8 #[.agg (ten (K : Int) a1 a2 a3 a4 a5 a6 a7 a8 a9), .int .i64 fi, .string v2, .int .i64 n] w fun e w' => e = .returned (.bool true) ∧ Below w.heap.size w w' := by
  have HG := Aside0.mk hG
  have HC0 := Aside0.mk hc0
  have HX := Aside0.mk hX
  clear hG hc0 hX
  have HR := Aside0.mk hR
  have HFIN := Aside0.mk hfin
  have HHAS := Aside0.mk hhas
  clear hR hfin hhas
  go_enter Tryd.func8, Tryd.ntmps8
  go_upto_region 1 with (fail)
  obtain ⟨g, hg⟩ : ∃ g, g = w.heap.size := ⟨_, rfl⟩
  obtain ⟨W1, hW1⟩ : ∃ W, W = w.alloc (.cells (ten (K : Int) a1 a2 a3 a4 a5 a6 a7 a8 a9) 24) := ⟨_, rfl⟩
  rw [← hW1, ← hg]
  have A := Aside0.mk (show Box w W1 g (ten (K : Int) a1 a2 a3 a4 a5 a6 a7 a8 a9) by rw [hW1, hg]; exact Box.new (Nat.le_refl _) _)
  have D := Aside0.mk (show Below w.heap.size w W1 by rw [hW1]; exact below_alloc (Below.refl _ _) _)
  clear hW1 hg
  go_upto_if 22 with (first | ((with_reducible refine gate_dst (N := 17) rfl ?_); (with_reducible refine gate_callee (f := 11) rfl ?_); refine goesL_ (some 17) rfl rfl Tryd.func11 (by kernel_rfl) rfl #[] rfl (by (try simp only [List.map_toArray, List.map_cons, List.map_nil]); first | done | rfl) ?_; refine (transeptlaw05_shown.calls true _ (HG.out.below D.out) rfl).mono ?_; rintro e wz_ ⟨rfl, hb⟩; refine ⟨_, rfl, ?_⟩; have n0_ := Aside0.mk (below_step D.out hb); have n1_ := Aside0.mk (A.out.then_ hb); clear D; clear A; have D := n0_; have A := n1_; clear n0_ n1_; clear hb) | ((with_reducible refine gate_dst (N := 18) rfl ?_); refine wpList_load_row ?hgd_18 24 (.tmp 4) ?ho_18 g ?hx_18 ?t_18 ?cs_18 ?fr_18 ?d_18 ?hg_18 ?hu_18 ?hd_18 ?hi_18 ?_; (case hgd_18 => rfl); (case ho_18 => rfl); (case hx_18 => rfl); (case hg_18 => exact A.out.blk); (case hu_18 => exact Tryd.underlying24); (case hd_18 => rfl); (case hi_18 => exact size24)) | ((with_reducible refine gate_dst (N := 20) rfl ?_); refine wpList_load_row ?hgd_20 24 (.tmp 4) ?ho_20 g ?hx_20 ?t_20 ?cs_20 ?fr_20 ?d_20 ?hg_20 ?hu_20 ?hd_20 ?hi_20 ?_; (case hgd_20 => rfl); (case ho_20 => rfl); (case hx_20 => rfl); (case hg_20 => exact A.out.blk); (case hu_20 => exact Tryd.underlying24); (case hd_20 => rfl); (case hi_20 => exact size24)) | ((with_reducible refine gate_dst (N := 19) rfl ?_); (with_reducible refine gate_callee (f := 12) rfl ?_); refine goesL_ (some 19) rfl rfl Tryd.func12 (by kernel_rfl) rfl #[.agg (ten (K : Int) a1 a2 a3 a4 a5 a6 a7 a8 a9)] rfl (by (try simp only [List.map_toArray, List.map_cons, List.map_nil]); first | done | rfl) ?_; refine (HC0.out _).mono ?_; rintro e wz_ ⟨rfl, hb⟩; refine ⟨_, rfl, ?_⟩; have n0_ := Aside0.mk (below_step D.out hb); have n1_ := Aside0.mk (A.out.then_ hb); clear D; clear A; have D := n0_; have A := n1_; clear n0_ n1_; clear hb) | ((with_reducible refine gate_store (p := 4) rfl ?_); refine wpList_store_row ?hgd_s19 24 (.tmp 4) (.tmp 19) ?ho_s19 g (ten (K : Int) a1 a2 x3 x4 x5 x6 a7 a8 a9) ?hx_s19 ?hy_s19 ?t_s19 ?old_s19 ?hg_s19 ?hi_s19 ?hold_s19 ?h1_s19 ?_; (case hgd_s19 => rfl); (case ho_s19 => rfl); (case hx_s19 => rfl); (case hy_s19 => rfl); (case hg_s19 => exact A.out.blk); (case hi_s19 => exact size24); (case hold_s19 => rfl); (case h1_s19 => exact ten_one _ _ _ _ _ _ _ _ _ _); have n0_ := Aside0.mk (setRow_below D.out A.out.base (ten (K : Int) a1 a2 x3 x4 x5 x6 a7 a8 a9)); have n1_ := Aside0.mk (Box.row A.out (ten (K : Int) a1 a2 x3 x4 x5 x6 a7 a8 a9)); clear D; clear A; have D := n0_; have A := n1_; clear n0_ n1_) | ((with_reducible refine gate_dst (N := 21) rfl ?_); (with_reducible refine gate_callee (f := 15) rfl ?_); refine goesL_ (some 21) rfl rfl Tryd.func15 (by kernel_rfl) rfl #[.agg (ten (K : Int) a1 a2 x3 x4 x5 x6 a7 a8 a9)] rfl (by (try simp only [List.map_toArray, List.map_cons, List.map_nil]); first | done | rfl) ?_; refine (event_Right.calls (K : Int) a1 a2 x3 x4 x5 x6 a7 a8 a9 true _ (HG.out.below D.out) HX.out).mono ?_; rintro e wz_ ⟨rfl, hb⟩; refine ⟨_, rfl, ?_⟩; have n0_ := Aside0.mk (below_step D.out hb); have n1_ := Aside0.mk (A.out.then_ hb); clear D; clear A; have D := n0_; have A := n1_; clear n0_ n1_; clear hb))
  go_upto_region 6 with (fail)
  clear hm2 h2 hss
  have e0 : ∀ o, (wz_.alloc o).cell? ⟨g, 0, none⟩ = some (.int .i64 (K : Int)) := fun o => (A.out.alloc o).read.1
  have e1 : (wz_.alloc (.cells (hasL.map Value.string).toArray 9)).cell? ⟨wz_.heap.size, K, none⟩ = some (.string hs) := by
    rw [cell_of_row _ _ _ _ _ _ (heap_alloc_new wz_ _)]
    simp only [List.getElem?_toArray, List.getElem?_map, HHAS.out, Option.map_some]
  simp only [hasL, List.map_cons, List.map_nil] at e1
  go_upto_region 7 with (fail)
  obtain ⟨W2, hW2⟩ : ∃ W, W = wz_.alloc (.cells (hasL.map Value.string).toArray 9) := ⟨_, rfl⟩
  have A' := Aside0.mk (show Box w W2 g (ten (K : Int) a1 a2 x3 x4 x5 x6 a7 a8 a9) by rw [hW2]; exact A.out.alloc _)
  have D' := Aside0.mk (show Below w.heap.size w W2 by rw [hW2]; exact below_alloc D.out _)
  simp only [hasL, List.map_cons, List.map_nil] at hW2
  rw [← hW2]
  clear A D hW2 e0 e1
  have A := A'
  have D := D'
  clear A' D'
  obtain ⟨c0, c1, c2, c3, c4, c5, c6, c7, c8, c9⟩ := A.out.read
  go_upto_region 13 with (fail)
  clear c0 c1 c2 c3 c4 c5 c6 c7 c8 c9
  obtain ⟨h, hh⟩ : ∃ h, h = W2.heap.size := ⟨_, rfl⟩
  obtain ⟨W3, hW3⟩ : ∃ W, W = W2.alloc (.cells (ten (K : Int) a1 a2 x3 x4 x5 x6 a7 a8 a9) 24) := ⟨_, rfl⟩
  rw [← hW3, ← hh]
  have B := Aside0.mk (show Box w W3 h (ten (K : Int) a1 a2 x3 x4 x5 x6 a7 a8 a9) by rw [hW3, hh]; exact Box.fresh D.out _)
  have D' := Aside0.mk (show Below w.heap.size w W3 by rw [hW3]; exact below_alloc D.out _)
  clear A D hW3 hh
  have D := D'
  clear D'
  obtain ⟨o0, o1, o2, o3, o4, o5, o6, o7, o8, o9⟩ := B.out.free
  obtain ⟨c0, c1, c2, c3, c4, c5, c6, c7, c8, c9⟩ := B.out.read
  go_upto_region 30 with (fail)
  clear o0 o1 o2 o3 o4 o5 o6 o7 o8 o9 c0 c1 c2 c3 c4 c5 c6 c7 c8 c9
  obtain ⟨W4, hW4⟩ : ∃ W, W = W3.setCell ⟨h, 6, none⟩ (.string s) := ⟨_, rfl⟩
  rw [← hW4]
  have B' := Aside0.mk (show Box w W4 h (ten (K : Int) a1 a2 x3 x4 x5 s a7 a8 a9) by rw [hW4]; exact ⟨B.out.base, blk_put B.out.blk 6 _ rfl⟩)
  have D' := Aside0.mk (show Below w.heap.size w W4 by rw [hW4]; exact D.out.setCell B.out.base _)
  clear B D hW4
  have B := B'
  have D := D'
  have HJ := Aside0.mk hJ
  clear B' D' hI hI0
  go_wp2_with (fail)
  go_loopg [15, 16] hs.size (fun m v15 v16 wc => ∃ i : Nat, v16 = .int .i64 i ∧ i + m = hs.size ∧ v15 = .bool (hasN hs 68 i) ∧ ∃ d, wc = W4.drewN d)
  case atStart => exact ⟨0, rfl, by simp, rfl, 0, rfl⟩
  case round =>
    obtain ⟨i, rfl, hm, rfl, d, rfl⟩ := hrel
    obtain ⟨b, hb⟩ : ∃ b, hasN hs 68 i = b := ⟨_, rfl⟩
    rw [hb]
    by_cases hi : i < hs.size
    · have hn := Aside0.mk (hasN_succ hs 68 i hi)
      have HB := Aside0.mk hb
      clear hb
      have hfi : I % 7 = 3 := HJ.out
      cases b
      · go_upto_region 34 with (fail)
        go_quiet (fail)
        go_wp2
        go_roundg (gk - 1)
        case measure => omega
        case rel => exact ⟨i + 1, by go_num, by omega, by rw [hn.out, HB.out, Bool.false_or]; exact byte_beq _ _, d + nq, rfl⟩
      · go_upto_region 34 with (fail)
        go_quiet (fail)
        go_wp2
        go_roundg (gk - 1)
        case measure => omega
        case rel => exact ⟨i + 1, by go_num, by omega, by rw [hn.out, HB.out, Bool.true_or], d + nq, rfl⟩
    · obtain rfl : i = hs.size := by omega
      have HF := HFIN.out
      rw [hb] at HF
      have B1 := Aside0.mk (B.out.drewN d)
      have D1 := Aside0.mk (pw_below_drewN D.out d)
      obtain ⟨c0, c1, c2, c3, c4, c5, c6, c7, c8, c9⟩ := B1.out.read
      clear hb B D
      go_wp2_with (fail)
      refine (event_Right.calls (K : Int) a1 a2 x3 x4 x5 s a7 a8 a9 rr _ (HG.out.below D1.out) HR.out).mono ?_
      rintro e wz2 ⟨rfl, hb⟩
      have D2 := Aside0.mk (below_step D1.out hb)
      clear hb c0 c1 c2 c3 c4 c5 c6 c7 c8 c9 B1 D1
      cases b
      · have hse : s.toList.isEmpty = rr := by revert HF; cases rr <;> cases s.toList.isEmpty <;> simp
        have hse2 : (s.toList == ([] : List UInt8)) = rr := by rw [← hse]; cases s.toList <;> rfl
        clear HF
        cases rr
        · go_wp2
          go_ret
          exact ⟨rfl, D2.out⟩
        · go_wp2
          go_ret
          exact ⟨rfl, D2.out⟩
      · obtain rfl : rr = true := by revert HF; cases rr <;> simp
        clear HF
        go_wp2
        go_ret
        exact ⟨rfl, D2.out⟩
set_option maxHeartbeats 4000000 in
set_option maxRecDepth 100000 in
theorem fields_yes4_7 (a1 a2 : Int) (a3 a4 a5 a6 : ByteArray) (a7 a8 a9 : Int) (x3 x4 x5 x6 : ByteArray) (fi : Int) (v2 : ByteArray) (n : Int)
    (hc0 : ∀ w, Calls Tryd.prog 12 #[.agg (ten 7 a1 a2 a3 a4 a5 a6 a7 a8 a9)] w fun e w' => e = .returned (.agg (ten 7 a1 a2 x3 x4 x5 x6 a7 a8 a9)) ∧ Below w.heap.size w w')
    (hX : event_Right.f 7 a1 a2 x3 x4 x5 x6 a7 a8 a9 = some true) (w : World) (hG : Glob w)
    (hs : ByteArray) (hhas : hasL[7]? = some hs) (hsz : hs.size ≤ 7)
    (n2 : Nat) (s : ByteArray) (hm2 : (if 100 < (v2.size : Int) then 100 else (v2.size : Int)) = (n2 : Int)) (h2 : n2 ≤ v2.size) (hss : v2.extract 0 n2 = s) (hz2 : v2.size ≤ 140737488351232)
    (I : Int) (hI : Go.bits .and .i64 fi 65535 = I) (hI0 : 0 ≤ I) (hJ : I % 7 = 4) (rr : Bool) (hR : event_Right.f 7 a1 a2 x3 x4 x5 x6 n a8 a9 = some rr)
    (hfin : (rr == (decide (n = 0) || (hasN hs 88 hs.size && decide (0 < n) && decide (n ≤ 999)))) = true) :
    Calls Tryd.prog 8 #[.agg (ten 7 a1 a2 a3 a4 a5 a6 a7 a8 a9), .int .i64 fi, .string v2, .int .i64 n] w fun e w' => e = .returned (.bool true) ∧ Below w.heap.size w w' := by
  have HG := Aside0.mk hG
  have HC0 := Aside0.mk hc0
  have HX := Aside0.mk hX
  clear hG hc0 hX
  have HR := Aside0.mk hR
  have HFIN := Aside0.mk hfin
  have HHAS := Aside0.mk hhas
  clear hR hfin hhas
  go_enter Tryd.func8, Tryd.ntmps8
  go_upto_region 1 with (fail)
  obtain ⟨g, hg⟩ : ∃ g, g = w.heap.size := ⟨_, rfl⟩
  obtain ⟨W1, hW1⟩ : ∃ W, W = w.alloc (.cells (ten 7 a1 a2 a3 a4 a5 a6 a7 a8 a9) 24) := ⟨_, rfl⟩
  rw [← hW1, ← hg]
  have A := Aside0.mk (show Box w W1 g (ten 7 a1 a2 a3 a4 a5 a6 a7 a8 a9) by rw [hW1, hg]; exact Box.new (Nat.le_refl _) _)
  have D := Aside0.mk (show Below w.heap.size w W1 by rw [hW1]; exact below_alloc (Below.refl _ _) _)
  clear hW1 hg
  go_upto_if 22 with (first | ((with_reducible refine gate_dst (N := 17) rfl ?_); (with_reducible refine gate_callee (f := 11) rfl ?_); refine goesL_ (some 17) rfl rfl Tryd.func11 (by kernel_rfl) rfl #[] rfl (by (try simp only [List.map_toArray, List.map_cons, List.map_nil]); first | done | rfl) ?_; refine (transeptlaw05_shown.calls true _ (HG.out.below D.out) rfl).mono ?_; rintro e wz_ ⟨rfl, hb⟩; refine ⟨_, rfl, ?_⟩; have n0_ := Aside0.mk (below_step D.out hb); have n1_ := Aside0.mk (A.out.then_ hb); clear D; clear A; have D := n0_; have A := n1_; clear n0_ n1_; clear hb) | ((with_reducible refine gate_dst (N := 18) rfl ?_); refine wpList_load_row ?hgd_18 24 (.tmp 4) ?ho_18 g ?hx_18 ?t_18 ?cs_18 ?fr_18 ?d_18 ?hg_18 ?hu_18 ?hd_18 ?hi_18 ?_; (case hgd_18 => rfl); (case ho_18 => rfl); (case hx_18 => rfl); (case hg_18 => exact A.out.blk); (case hu_18 => exact Tryd.underlying24); (case hd_18 => rfl); (case hi_18 => exact size24)) | ((with_reducible refine gate_dst (N := 20) rfl ?_); refine wpList_load_row ?hgd_20 24 (.tmp 4) ?ho_20 g ?hx_20 ?t_20 ?cs_20 ?fr_20 ?d_20 ?hg_20 ?hu_20 ?hd_20 ?hi_20 ?_; (case hgd_20 => rfl); (case ho_20 => rfl); (case hx_20 => rfl); (case hg_20 => exact A.out.blk); (case hu_20 => exact Tryd.underlying24); (case hd_20 => rfl); (case hi_20 => exact size24)) | ((with_reducible refine gate_dst (N := 19) rfl ?_); (with_reducible refine gate_callee (f := 12) rfl ?_); refine goesL_ (some 19) rfl rfl Tryd.func12 (by kernel_rfl) rfl #[.agg (ten 7 a1 a2 a3 a4 a5 a6 a7 a8 a9)] rfl (by (try simp only [List.map_toArray, List.map_cons, List.map_nil]); first | done | rfl) ?_; refine (HC0.out _).mono ?_; rintro e wz_ ⟨rfl, hb⟩; refine ⟨_, rfl, ?_⟩; have n0_ := Aside0.mk (below_step D.out hb); have n1_ := Aside0.mk (A.out.then_ hb); clear D; clear A; have D := n0_; have A := n1_; clear n0_ n1_; clear hb) | ((with_reducible refine gate_store (p := 4) rfl ?_); refine wpList_store_row ?hgd_s19 24 (.tmp 4) (.tmp 19) ?ho_s19 g (ten 7 a1 a2 x3 x4 x5 x6 a7 a8 a9) ?hx_s19 ?hy_s19 ?t_s19 ?old_s19 ?hg_s19 ?hi_s19 ?hold_s19 ?h1_s19 ?_; (case hgd_s19 => rfl); (case ho_s19 => rfl); (case hx_s19 => rfl); (case hy_s19 => rfl); (case hg_s19 => exact A.out.blk); (case hi_s19 => exact size24); (case hold_s19 => rfl); (case h1_s19 => exact ten_one _ _ _ _ _ _ _ _ _ _); have n0_ := Aside0.mk (setRow_below D.out A.out.base (ten 7 a1 a2 x3 x4 x5 x6 a7 a8 a9)); have n1_ := Aside0.mk (Box.row A.out (ten 7 a1 a2 x3 x4 x5 x6 a7 a8 a9)); clear D; clear A; have D := n0_; have A := n1_; clear n0_ n1_) | ((with_reducible refine gate_dst (N := 21) rfl ?_); (with_reducible refine gate_callee (f := 15) rfl ?_); refine goesL_ (some 21) rfl rfl Tryd.func15 (by kernel_rfl) rfl #[.agg (ten 7 a1 a2 x3 x4 x5 x6 a7 a8 a9)] rfl (by (try simp only [List.map_toArray, List.map_cons, List.map_nil]); first | done | rfl) ?_; refine (event_Right.calls 7 a1 a2 x3 x4 x5 x6 a7 a8 a9 true _ (HG.out.below D.out) HX.out).mono ?_; rintro e wz_ ⟨rfl, hb⟩; refine ⟨_, rfl, ?_⟩; have n0_ := Aside0.mk (below_step D.out hb); have n1_ := Aside0.mk (A.out.then_ hb); clear D; clear A; have D := n0_; have A := n1_; clear n0_ n1_; clear hb))
  go_upto_region 6 with (fail)
  clear hm2 h2 hss
  have e0 : ∀ o, (wz_.alloc o).cell? ⟨g, 0, none⟩ = some (.int .i64 7) := fun o => (A.out.alloc o).read.1
  have e1 : (wz_.alloc (.cells (hasL.map Value.string).toArray 9)).cell? ⟨wz_.heap.size, 7, none⟩ = some (.string hs) := by
    rw [cell_of_row _ _ _ _ _ _ (heap_alloc_new wz_ _)]
    simp only [List.getElem?_toArray, List.getElem?_map, HHAS.out, Option.map_some]
  simp only [hasL, List.map_cons, List.map_nil] at e1
  go_upto_region 7 with (fail)
  obtain ⟨W2, hW2⟩ : ∃ W, W = wz_.alloc (.cells (hasL.map Value.string).toArray 9) := ⟨_, rfl⟩
  have A' := Aside0.mk (show Box w W2 g (ten 7 a1 a2 x3 x4 x5 x6 a7 a8 a9) by rw [hW2]; exact A.out.alloc _)
  have D' := Aside0.mk (show Below w.heap.size w W2 by rw [hW2]; exact below_alloc D.out _)
  simp only [hasL, List.map_cons, List.map_nil] at hW2
  rw [← hW2]
  clear A D hW2 e0 e1
  have A := A'
  have D := D'
  clear A' D'
  obtain ⟨c0, c1, c2, c3, c4, c5, c6, c7, c8, c9⟩ := A.out.read
  go_upto_region 13 with (fail)
  clear c0 c1 c2 c3 c4 c5 c6 c7 c8 c9
  obtain ⟨h, hh⟩ : ∃ h, h = W2.heap.size := ⟨_, rfl⟩
  obtain ⟨W3, hW3⟩ : ∃ W, W = W2.alloc (.cells (ten 7 a1 a2 x3 x4 x5 x6 a7 a8 a9) 24) := ⟨_, rfl⟩
  rw [← hW3, ← hh]
  have B := Aside0.mk (show Box w W3 h (ten 7 a1 a2 x3 x4 x5 x6 a7 a8 a9) by rw [hW3, hh]; exact Box.fresh D.out _)
  have D' := Aside0.mk (show Below w.heap.size w W3 by rw [hW3]; exact below_alloc D.out _)
  clear A D hW3 hh
  have D := D'
  clear D'
  obtain ⟨o0, o1, o2, o3, o4, o5, o6, o7, o8, o9⟩ := B.out.free
  obtain ⟨c0, c1, c2, c3, c4, c5, c6, c7, c8, c9⟩ := B.out.read
  go_upto_region 30 with (fail)
  clear o0 o1 o2 o3 o4 o5 o6 o7 o8 o9 c0 c1 c2 c3 c4 c5 c6 c7 c8 c9
  obtain ⟨W4, hW4⟩ : ∃ W, W = W3.setCell ⟨h, 7, none⟩ (.int .i64 n) := ⟨_, rfl⟩
  rw [← hW4]
  have B' := Aside0.mk (show Box w W4 h (ten 7 a1 a2 x3 x4 x5 x6 n a8 a9) by rw [hW4]; exact ⟨B.out.base, blk_put B.out.blk 7 _ rfl⟩)
  have D' := Aside0.mk (show Below w.heap.size w W4 by rw [hW4]; exact D.out.setCell B.out.base _)
  clear B D hW4
  have B := B'
  have D := D'
  have HJ := Aside0.mk hJ
  clear B' D' hI hI0
  go_wp2_with (fail)
  go_loopg [15, 16] hs.size (fun m v15 v16 wc => ∃ i : Nat, v16 = .int .i64 i ∧ i + m = hs.size ∧ v15 = .bool (hasN hs 88 i) ∧ ∃ d, wc = W4.drewN d)
  case atStart => exact ⟨0, rfl, by simp, rfl, 0, rfl⟩
  case round =>
    obtain ⟨i, rfl, hm, rfl, d, rfl⟩ := hrel
    obtain ⟨b, hb⟩ : ∃ b, hasN hs 88 i = b := ⟨_, rfl⟩
    rw [hb]
    by_cases hi : i < hs.size
    · have hn := Aside0.mk (hasN_succ hs 88 i hi)
      have HB := Aside0.mk hb
      clear hb
      have hfi : I % 7 = 4 := HJ.out
      cases b
      · go_upto_region 34 with (fail)
        go_quiet (fail)
        go_wp2
        go_roundg (gk - 1)
        case measure => omega
        case rel => exact ⟨i + 1, by go_num, by omega, by rw [hn.out, HB.out, Bool.false_or]; exact byte_beq _ _, d + nq, rfl⟩
      · go_upto_region 34 with (fail)
        go_quiet (fail)
        go_wp2
        go_roundg (gk - 1)
        case measure => omega
        case rel => exact ⟨i + 1, by go_num, by omega, by rw [hn.out, HB.out, Bool.true_or], d + nq, rfl⟩
    · obtain rfl : i = hs.size := by omega
      have HF := HFIN.out
      rw [hb] at HF
      have B1 := Aside0.mk (B.out.drewN d)
      have D1 := Aside0.mk (pw_below_drewN D.out d)
      obtain ⟨c0, c1, c2, c3, c4, c5, c6, c7, c8, c9⟩ := B1.out.read
      clear hb B D
      go_wp2_with (fail)
      refine (event_Right.calls 7 a1 a2 x3 x4 x5 x6 n a8 a9 rr _ (HG.out.below D1.out) HR.out).mono ?_
      rintro e wz2 ⟨rfl, hb⟩
      have D2 := Aside0.mk (below_step D1.out hb)
      clear hb c0 c1 c2 c3 c4 c5 c6 c7 c8 c9 B1 D1
      by_cases n0 : n = 0
      · subst n0
        obtain rfl : rr = true := by revert HF; cases rr <;> simp
        clear HF
        go_wp2
        go_ret
        exact ⟨rfl, D2.out⟩
      · have n1 : (n == 0) = false := by rw [beq_eq_false_iff_ne]; exact n0
        rw [decide_eq_false n0] at HF
        cases b
        · obtain rfl : rr = false := by revert HF; cases rr <;> simp
          clear HF
          go_wp2
          go_ret
          exact ⟨rfl, D2.out⟩
        · by_cases np : 0 < n
          · by_cases nm : n ≤ 999
            · rw [decide_eq_true np, decide_eq_true nm] at HF
              obtain rfl : rr = true := by revert HF; cases rr <;> simp
              clear HF
              go_wp2
              go_ret
              exact ⟨rfl, D2.out⟩
            · rw [decide_eq_true np, decide_eq_false nm] at HF
              obtain rfl : rr = false := by revert HF; cases rr <;> simp
              have nm' : 999 < n := by omega
              have nd : decide (n ≤ 999) = false := decide_eq_false nm
              clear HF
              go_wp2
              go_ret
              exact ⟨rfl, D2.out⟩
          · rw [decide_eq_false np] at HF
            obtain rfl : rr = false := by revert HF; cases rr <;> simp
            have nd : decide (0 < n) = false := decide_eq_false np
            clear HF
            go_wp2
            go_ret
            exact ⟨rfl, D2.out⟩
set_option maxHeartbeats 4000000 in
set_option maxRecDepth 100000 in
theorem fields_yes4_10 (a1 a2 : Int) (a3 a4 a5 a6 : ByteArray) (a7 a8 a9 : Int) (x3 x4 x5 x6 : ByteArray) (fi : Int) (v2 : ByteArray) (n : Int)
    (hc0 : ∀ w, Calls Tryd.prog 12 #[.agg (ten 10 a1 a2 a3 a4 a5 a6 a7 a8 a9)] w fun e w' => e = .returned (.agg (ten 10 a1 a2 x3 x4 x5 x6 a7 a8 a9)) ∧ Below w.heap.size w w')
    (hX : event_Right.f 10 a1 a2 x3 x4 x5 x6 a7 a8 a9 = some true) (w : World) (hG : Glob w)
    (hs : ByteArray) (hhas : hasL[10]? = some hs) (hsz : hs.size ≤ 7)
    (n2 : Nat) (s : ByteArray) (hm2 : (if 100 < (v2.size : Int) then 100 else (v2.size : Int)) = (n2 : Int)) (h2 : n2 ≤ v2.size) (hss : v2.extract 0 n2 = s) (hz2 : v2.size ≤ 140737488351232)
    (I : Int) (hI : Go.bits .and .i64 fi 65535 = I) (hI0 : 0 ≤ I) (hJ : I % 7 = 4) (rr : Bool) (hR : event_Right.f 10 a1 a2 x3 x4 x5 x6 n a8 a9 = some rr)
    (hfin : (rr == (decide (n = 0) || (hasN hs 88 hs.size && decide (0 < n) && decide (n ≤ 999)))) = true) :
    Calls Tryd.prog 8 #[.agg (ten 10 a1 a2 a3 a4 a5 a6 a7 a8 a9), .int .i64 fi, .string v2, .int .i64 n] w fun e w' => e = .returned (.bool true) ∧ Below w.heap.size w w' := by
  have HG := Aside0.mk hG
  have HC0 := Aside0.mk hc0
  have HX := Aside0.mk hX
  clear hG hc0 hX
  have HR := Aside0.mk hR
  have HFIN := Aside0.mk hfin
  have HHAS := Aside0.mk hhas
  clear hR hfin hhas
  go_enter Tryd.func8, Tryd.ntmps8
  go_upto_region 1 with (fail)
  obtain ⟨g, hg⟩ : ∃ g, g = w.heap.size := ⟨_, rfl⟩
  obtain ⟨W1, hW1⟩ : ∃ W, W = w.alloc (.cells (ten 10 a1 a2 a3 a4 a5 a6 a7 a8 a9) 24) := ⟨_, rfl⟩
  rw [← hW1, ← hg]
  have A := Aside0.mk (show Box w W1 g (ten 10 a1 a2 a3 a4 a5 a6 a7 a8 a9) by rw [hW1, hg]; exact Box.new (Nat.le_refl _) _)
  have D := Aside0.mk (show Below w.heap.size w W1 by rw [hW1]; exact below_alloc (Below.refl _ _) _)
  clear hW1 hg
  go_upto_if 22 with (first | ((with_reducible refine gate_dst (N := 17) rfl ?_); (with_reducible refine gate_callee (f := 11) rfl ?_); refine goesL_ (some 17) rfl rfl Tryd.func11 (by kernel_rfl) rfl #[] rfl (by (try simp only [List.map_toArray, List.map_cons, List.map_nil]); first | done | rfl) ?_; refine (transeptlaw05_shown.calls true _ (HG.out.below D.out) rfl).mono ?_; rintro e wz_ ⟨rfl, hb⟩; refine ⟨_, rfl, ?_⟩; have n0_ := Aside0.mk (below_step D.out hb); have n1_ := Aside0.mk (A.out.then_ hb); clear D; clear A; have D := n0_; have A := n1_; clear n0_ n1_; clear hb) | ((with_reducible refine gate_dst (N := 18) rfl ?_); refine wpList_load_row ?hgd_18 24 (.tmp 4) ?ho_18 g ?hx_18 ?t_18 ?cs_18 ?fr_18 ?d_18 ?hg_18 ?hu_18 ?hd_18 ?hi_18 ?_; (case hgd_18 => rfl); (case ho_18 => rfl); (case hx_18 => rfl); (case hg_18 => exact A.out.blk); (case hu_18 => exact Tryd.underlying24); (case hd_18 => rfl); (case hi_18 => exact size24)) | ((with_reducible refine gate_dst (N := 20) rfl ?_); refine wpList_load_row ?hgd_20 24 (.tmp 4) ?ho_20 g ?hx_20 ?t_20 ?cs_20 ?fr_20 ?d_20 ?hg_20 ?hu_20 ?hd_20 ?hi_20 ?_; (case hgd_20 => rfl); (case ho_20 => rfl); (case hx_20 => rfl); (case hg_20 => exact A.out.blk); (case hu_20 => exact Tryd.underlying24); (case hd_20 => rfl); (case hi_20 => exact size24)) | ((with_reducible refine gate_dst (N := 19) rfl ?_); (with_reducible refine gate_callee (f := 12) rfl ?_); refine goesL_ (some 19) rfl rfl Tryd.func12 (by kernel_rfl) rfl #[.agg (ten 10 a1 a2 a3 a4 a5 a6 a7 a8 a9)] rfl (by (try simp only [List.map_toArray, List.map_cons, List.map_nil]); first | done | rfl) ?_; refine (HC0.out _).mono ?_; rintro e wz_ ⟨rfl, hb⟩; refine ⟨_, rfl, ?_⟩; have n0_ := Aside0.mk (below_step D.out hb); have n1_ := Aside0.mk (A.out.then_ hb); clear D; clear A; have D := n0_; have A := n1_; clear n0_ n1_; clear hb) | ((with_reducible refine gate_store (p := 4) rfl ?_); refine wpList_store_row ?hgd_s19 24 (.tmp 4) (.tmp 19) ?ho_s19 g (ten 10 a1 a2 x3 x4 x5 x6 a7 a8 a9) ?hx_s19 ?hy_s19 ?t_s19 ?old_s19 ?hg_s19 ?hi_s19 ?hold_s19 ?h1_s19 ?_; (case hgd_s19 => rfl); (case ho_s19 => rfl); (case hx_s19 => rfl); (case hy_s19 => rfl); (case hg_s19 => exact A.out.blk); (case hi_s19 => exact size24); (case hold_s19 => rfl); (case h1_s19 => exact ten_one _ _ _ _ _ _ _ _ _ _); have n0_ := Aside0.mk (setRow_below D.out A.out.base (ten 10 a1 a2 x3 x4 x5 x6 a7 a8 a9)); have n1_ := Aside0.mk (Box.row A.out (ten 10 a1 a2 x3 x4 x5 x6 a7 a8 a9)); clear D; clear A; have D := n0_; have A := n1_; clear n0_ n1_) | ((with_reducible refine gate_dst (N := 21) rfl ?_); (with_reducible refine gate_callee (f := 15) rfl ?_); refine goesL_ (some 21) rfl rfl Tryd.func15 (by kernel_rfl) rfl #[.agg (ten 10 a1 a2 x3 x4 x5 x6 a7 a8 a9)] rfl (by (try simp only [List.map_toArray, List.map_cons, List.map_nil]); first | done | rfl) ?_; refine (event_Right.calls 10 a1 a2 x3 x4 x5 x6 a7 a8 a9 true _ (HG.out.below D.out) HX.out).mono ?_; rintro e wz_ ⟨rfl, hb⟩; refine ⟨_, rfl, ?_⟩; have n0_ := Aside0.mk (below_step D.out hb); have n1_ := Aside0.mk (A.out.then_ hb); clear D; clear A; have D := n0_; have A := n1_; clear n0_ n1_; clear hb))
  go_upto_region 6 with (fail)
  clear hm2 h2 hss
  have e0 : ∀ o, (wz_.alloc o).cell? ⟨g, 0, none⟩ = some (.int .i64 10) := fun o => (A.out.alloc o).read.1
  have e1 : (wz_.alloc (.cells (hasL.map Value.string).toArray 9)).cell? ⟨wz_.heap.size, 10, none⟩ = some (.string hs) := by
    rw [cell_of_row _ _ _ _ _ _ (heap_alloc_new wz_ _)]
    simp only [List.getElem?_toArray, List.getElem?_map, HHAS.out, Option.map_some]
  simp only [hasL, List.map_cons, List.map_nil] at e1
  go_upto_region 7 with (fail)
  obtain ⟨W2, hW2⟩ : ∃ W, W = wz_.alloc (.cells (hasL.map Value.string).toArray 9) := ⟨_, rfl⟩
  have A' := Aside0.mk (show Box w W2 g (ten 10 a1 a2 x3 x4 x5 x6 a7 a8 a9) by rw [hW2]; exact A.out.alloc _)
  have D' := Aside0.mk (show Below w.heap.size w W2 by rw [hW2]; exact below_alloc D.out _)
  simp only [hasL, List.map_cons, List.map_nil] at hW2
  rw [← hW2]
  clear A D hW2 e0 e1
  have A := A'
  have D := D'
  clear A' D'
  obtain ⟨c0, c1, c2, c3, c4, c5, c6, c7, c8, c9⟩ := A.out.read
  go_upto_region 13 with (fail)
  clear c0 c1 c2 c3 c4 c5 c6 c7 c8 c9
  obtain ⟨h, hh⟩ : ∃ h, h = W2.heap.size := ⟨_, rfl⟩
  obtain ⟨W3, hW3⟩ : ∃ W, W = W2.alloc (.cells (ten 10 a1 a2 x3 x4 x5 x6 a7 a8 a9) 24) := ⟨_, rfl⟩
  rw [← hW3, ← hh]
  have B := Aside0.mk (show Box w W3 h (ten 10 a1 a2 x3 x4 x5 x6 a7 a8 a9) by rw [hW3, hh]; exact Box.fresh D.out _)
  have D' := Aside0.mk (show Below w.heap.size w W3 by rw [hW3]; exact below_alloc D.out _)
  clear A D hW3 hh
  have D := D'
  clear D'
  obtain ⟨o0, o1, o2, o3, o4, o5, o6, o7, o8, o9⟩ := B.out.free
  obtain ⟨c0, c1, c2, c3, c4, c5, c6, c7, c8, c9⟩ := B.out.read
  go_upto_region 30 with (fail)
  clear o0 o1 o2 o3 o4 o5 o6 o7 o8 o9 c0 c1 c2 c3 c4 c5 c6 c7 c8 c9
  obtain ⟨W4, hW4⟩ : ∃ W, W = W3.setCell ⟨h, 7, none⟩ (.int .i64 n) := ⟨_, rfl⟩
  rw [← hW4]
  have B' := Aside0.mk (show Box w W4 h (ten 10 a1 a2 x3 x4 x5 x6 n a8 a9) by rw [hW4]; exact ⟨B.out.base, blk_put B.out.blk 7 _ rfl⟩)
  have D' := Aside0.mk (show Below w.heap.size w W4 by rw [hW4]; exact D.out.setCell B.out.base _)
  clear B D hW4
  have B := B'
  have D := D'
  have HJ := Aside0.mk hJ
  clear B' D' hI hI0
  go_wp2_with (fail)
  go_loopg [15, 16] hs.size (fun m v15 v16 wc => ∃ i : Nat, v16 = .int .i64 i ∧ i + m = hs.size ∧ v15 = .bool (hasN hs 88 i) ∧ ∃ d, wc = W4.drewN d)
  case atStart => exact ⟨0, rfl, by simp, rfl, 0, rfl⟩
  case round =>
    obtain ⟨i, rfl, hm, rfl, d, rfl⟩ := hrel
    obtain ⟨b, hb⟩ : ∃ b, hasN hs 88 i = b := ⟨_, rfl⟩
    rw [hb]
    by_cases hi : i < hs.size
    · have hn := Aside0.mk (hasN_succ hs 88 i hi)
      have HB := Aside0.mk hb
      clear hb
      have hfi : I % 7 = 4 := HJ.out
      cases b
      · go_upto_region 34 with (fail)
        go_quiet (fail)
        go_wp2
        go_roundg (gk - 1)
        case measure => omega
        case rel => exact ⟨i + 1, by go_num, by omega, by rw [hn.out, HB.out, Bool.false_or]; exact byte_beq _ _, d + nq, rfl⟩
      · go_upto_region 34 with (fail)
        go_quiet (fail)
        go_wp2
        go_roundg (gk - 1)
        case measure => omega
        case rel => exact ⟨i + 1, by go_num, by omega, by rw [hn.out, HB.out, Bool.true_or], d + nq, rfl⟩
    · obtain rfl : i = hs.size := by omega
      have HF := HFIN.out
      rw [hb] at HF
      have B1 := Aside0.mk (B.out.drewN d)
      have D1 := Aside0.mk (pw_below_drewN D.out d)
      obtain ⟨c0, c1, c2, c3, c4, c5, c6, c7, c8, c9⟩ := B1.out.read
      clear hb B D
      go_wp2_with (fail)
      refine (event_Right.calls 10 a1 a2 x3 x4 x5 x6 n a8 a9 rr _ (HG.out.below D1.out) HR.out).mono ?_
      rintro e wz2 ⟨rfl, hb⟩
      have D2 := Aside0.mk (below_step D1.out hb)
      clear hb c0 c1 c2 c3 c4 c5 c6 c7 c8 c9 B1 D1
      by_cases n0 : n = 0
      · subst n0
        obtain rfl : rr = true := by revert HF; cases rr <;> simp
        clear HF
        go_wp2
        go_ret
        exact ⟨rfl, D2.out⟩
      · have n1 : (n == 0) = false := by rw [beq_eq_false_iff_ne]; exact n0
        rw [decide_eq_false n0] at HF
        cases b
        · obtain rfl : rr = false := by revert HF; cases rr <;> simp
          clear HF
          go_wp2
          go_ret
          exact ⟨rfl, D2.out⟩
        · by_cases np : 0 < n
          · by_cases nm : n ≤ 999
            · rw [decide_eq_true np, decide_eq_true nm] at HF
              obtain rfl : rr = true := by revert HF; cases rr <;> simp
              clear HF
              go_wp2
              go_ret
              exact ⟨rfl, D2.out⟩
            · rw [decide_eq_true np, decide_eq_false nm] at HF
              obtain rfl : rr = false := by revert HF; cases rr <;> simp
              have nm' : 999 < n := by omega
              have nd : decide (n ≤ 999) = false := decide_eq_false nm
              clear HF
              go_wp2
              go_ret
              exact ⟨rfl, D2.out⟩
          · rw [decide_eq_false np] at HF
            obtain rfl : rr = false := by revert HF; cases rr <;> simp
            have nd : decide (0 < n) = false := decide_eq_false np
            clear HF
            go_wp2
            go_ret
            exact ⟨rfl, D2.out⟩
set_option maxHeartbeats 4000000 in
set_option maxRecDepth 100000 in
theorem fields_yes4_o (K : Nat) (a1 a2 : Int) (a3 a4 a5 a6 : ByteArray) (a7 a8 a9 : Int) (x3 x4 x5 x6 : ByteArray) (fi : Int) (v2 : ByteArray) (n : Int)
    (hc0 : ∀ w, Calls Tryd.prog 12 #[.agg (ten (K : Int) a1 a2 a3 a4 a5 a6 a7 a8 a9)] w fun e w' => e = .returned (.agg (ten (K : Int) a1 a2 x3 x4 x5 x6 a7 a8 a9)) ∧ Below w.heap.size w w')
    (hX : event_Right.f (K : Int) a1 a2 x3 x4 x5 x6 a7 a8 a9 = some true) (w : World) (hG : Glob w)
    (hK1 : 1 ≤ K) (hK2 : K ≤ 14) (hK7 : ((K : Int) == 7) = false) (hK10 : ((K : Int) == 10) = false) (hs : ByteArray) (hhas : hasL[K]? = some hs) (hsz : hs.size ≤ 7)
    (n2 : Nat) (s : ByteArray) (hm2 : (if 100 < (v2.size : Int) then 100 else (v2.size : Int)) = (n2 : Int)) (h2 : n2 ≤ v2.size) (hss : v2.extract 0 n2 = s) (hz2 : v2.size ≤ 140737488351232)
    (I : Int) (hI : Go.bits .and .i64 fi 65535 = I) (hI0 : 0 ≤ I) (hJ : I % 7 = 4) (rr : Bool) (hR : event_Right.f (K : Int) a1 a2 x3 x4 x5 x6 n a8 a9 = some rr)
    (hfin : (rr == (decide (n = 0) || (hasN hs 88 hs.size && decide (0 < n) && decide (n ≤ 3)))) = true) :
    Calls Tryd.prog 8 #[.agg (ten (K : Int) a1 a2 a3 a4 a5 a6 a7 a8 a9), .int .i64 fi, .string v2, .int .i64 n] w fun e w' => e = .returned (.bool true) ∧ Below w.heap.size w w' := by
  have HG := Aside0.mk hG
  have HC0 := Aside0.mk hc0
  have HX := Aside0.mk hX
  clear hG hc0 hX
  have HR := Aside0.mk hR
  have HFIN := Aside0.mk hfin
  have HHAS := Aside0.mk hhas
  clear hR hfin hhas
  go_enter Tryd.func8, Tryd.ntmps8
  go_upto_region 1 with (fail)
  obtain ⟨g, hg⟩ : ∃ g, g = w.heap.size := ⟨_, rfl⟩
  obtain ⟨W1, hW1⟩ : ∃ W, W = w.alloc (.cells (ten (K : Int) a1 a2 a3 a4 a5 a6 a7 a8 a9) 24) := ⟨_, rfl⟩
  rw [← hW1, ← hg]
  have A := Aside0.mk (show Box w W1 g (ten (K : Int) a1 a2 a3 a4 a5 a6 a7 a8 a9) by rw [hW1, hg]; exact Box.new (Nat.le_refl _) _)
  have D := Aside0.mk (show Below w.heap.size w W1 by rw [hW1]; exact below_alloc (Below.refl _ _) _)
  clear hW1 hg
  go_upto_if 22 with (first | ((with_reducible refine gate_dst (N := 17) rfl ?_); (with_reducible refine gate_callee (f := 11) rfl ?_); refine goesL_ (some 17) rfl rfl Tryd.func11 (by kernel_rfl) rfl #[] rfl (by (try simp only [List.map_toArray, List.map_cons, List.map_nil]); first | done | rfl) ?_; refine (transeptlaw05_shown.calls true _ (HG.out.below D.out) rfl).mono ?_; rintro e wz_ ⟨rfl, hb⟩; refine ⟨_, rfl, ?_⟩; have n0_ := Aside0.mk (below_step D.out hb); have n1_ := Aside0.mk (A.out.then_ hb); clear D; clear A; have D := n0_; have A := n1_; clear n0_ n1_; clear hb) | ((with_reducible refine gate_dst (N := 18) rfl ?_); refine wpList_load_row ?hgd_18 24 (.tmp 4) ?ho_18 g ?hx_18 ?t_18 ?cs_18 ?fr_18 ?d_18 ?hg_18 ?hu_18 ?hd_18 ?hi_18 ?_; (case hgd_18 => rfl); (case ho_18 => rfl); (case hx_18 => rfl); (case hg_18 => exact A.out.blk); (case hu_18 => exact Tryd.underlying24); (case hd_18 => rfl); (case hi_18 => exact size24)) | ((with_reducible refine gate_dst (N := 20) rfl ?_); refine wpList_load_row ?hgd_20 24 (.tmp 4) ?ho_20 g ?hx_20 ?t_20 ?cs_20 ?fr_20 ?d_20 ?hg_20 ?hu_20 ?hd_20 ?hi_20 ?_; (case hgd_20 => rfl); (case ho_20 => rfl); (case hx_20 => rfl); (case hg_20 => exact A.out.blk); (case hu_20 => exact Tryd.underlying24); (case hd_20 => rfl); (case hi_20 => exact size24)) | ((with_reducible refine gate_dst (N := 19) rfl ?_); (with_reducible refine gate_callee (f := 12) rfl ?_); refine goesL_ (some 19) rfl rfl Tryd.func12 (by kernel_rfl) rfl #[.agg (ten (K : Int) a1 a2 a3 a4 a5 a6 a7 a8 a9)] rfl (by (try simp only [List.map_toArray, List.map_cons, List.map_nil]); first | done | rfl) ?_; refine (HC0.out _).mono ?_; rintro e wz_ ⟨rfl, hb⟩; refine ⟨_, rfl, ?_⟩; have n0_ := Aside0.mk (below_step D.out hb); have n1_ := Aside0.mk (A.out.then_ hb); clear D; clear A; have D := n0_; have A := n1_; clear n0_ n1_; clear hb) | ((with_reducible refine gate_store (p := 4) rfl ?_); refine wpList_store_row ?hgd_s19 24 (.tmp 4) (.tmp 19) ?ho_s19 g (ten (K : Int) a1 a2 x3 x4 x5 x6 a7 a8 a9) ?hx_s19 ?hy_s19 ?t_s19 ?old_s19 ?hg_s19 ?hi_s19 ?hold_s19 ?h1_s19 ?_; (case hgd_s19 => rfl); (case ho_s19 => rfl); (case hx_s19 => rfl); (case hy_s19 => rfl); (case hg_s19 => exact A.out.blk); (case hi_s19 => exact size24); (case hold_s19 => rfl); (case h1_s19 => exact ten_one _ _ _ _ _ _ _ _ _ _); have n0_ := Aside0.mk (setRow_below D.out A.out.base (ten (K : Int) a1 a2 x3 x4 x5 x6 a7 a8 a9)); have n1_ := Aside0.mk (Box.row A.out (ten (K : Int) a1 a2 x3 x4 x5 x6 a7 a8 a9)); clear D; clear A; have D := n0_; have A := n1_; clear n0_ n1_) | ((with_reducible refine gate_dst (N := 21) rfl ?_); (with_reducible refine gate_callee (f := 15) rfl ?_); refine goesL_ (some 21) rfl rfl Tryd.func15 (by kernel_rfl) rfl #[.agg (ten (K : Int) a1 a2 x3 x4 x5 x6 a7 a8 a9)] rfl (by (try simp only [List.map_toArray, List.map_cons, List.map_nil]); first | done | rfl) ?_; refine (event_Right.calls (K : Int) a1 a2 x3 x4 x5 x6 a7 a8 a9 true _ (HG.out.below D.out) HX.out).mono ?_; rintro e wz_ ⟨rfl, hb⟩; refine ⟨_, rfl, ?_⟩; have n0_ := Aside0.mk (below_step D.out hb); have n1_ := Aside0.mk (A.out.then_ hb); clear D; clear A; have D := n0_; have A := n1_; clear n0_ n1_; clear hb))
  go_upto_region 6 with (fail)
  clear hm2 h2 hss
  have e0 : ∀ o, (wz_.alloc o).cell? ⟨g, 0, none⟩ = some (.int .i64 (K : Int)) := fun o => (A.out.alloc o).read.1
  have e1 : (wz_.alloc (.cells (hasL.map Value.string).toArray 9)).cell? ⟨wz_.heap.size, K, none⟩ = some (.string hs) := by
    rw [cell_of_row _ _ _ _ _ _ (heap_alloc_new wz_ _)]
    simp only [List.getElem?_toArray, List.getElem?_map, HHAS.out, Option.map_some]
  simp only [hasL, List.map_cons, List.map_nil] at e1
  go_upto_region 7 with (fail)
  obtain ⟨W2, hW2⟩ : ∃ W, W = wz_.alloc (.cells (hasL.map Value.string).toArray 9) := ⟨_, rfl⟩
  have A' := Aside0.mk (show Box w W2 g (ten (K : Int) a1 a2 x3 x4 x5 x6 a7 a8 a9) by rw [hW2]; exact A.out.alloc _)
  have D' := Aside0.mk (show Below w.heap.size w W2 by rw [hW2]; exact below_alloc D.out _)
  simp only [hasL, List.map_cons, List.map_nil] at hW2
  rw [← hW2]
  clear A D hW2 e0 e1
  have A := A'
  have D := D'
  clear A' D'
  obtain ⟨c0, c1, c2, c3, c4, c5, c6, c7, c8, c9⟩ := A.out.read
  go_upto_region 13 with (fail)
  clear c0 c1 c2 c3 c4 c5 c6 c7 c8 c9
  obtain ⟨h, hh⟩ : ∃ h, h = W2.heap.size := ⟨_, rfl⟩
  obtain ⟨W3, hW3⟩ : ∃ W, W = W2.alloc (.cells (ten (K : Int) a1 a2 x3 x4 x5 x6 a7 a8 a9) 24) := ⟨_, rfl⟩
  rw [← hW3, ← hh]
  have B := Aside0.mk (show Box w W3 h (ten (K : Int) a1 a2 x3 x4 x5 x6 a7 a8 a9) by rw [hW3, hh]; exact Box.fresh D.out _)
  have D' := Aside0.mk (show Below w.heap.size w W3 by rw [hW3]; exact below_alloc D.out _)
  clear A D hW3 hh
  have D := D'
  clear D'
  obtain ⟨o0, o1, o2, o3, o4, o5, o6, o7, o8, o9⟩ := B.out.free
  obtain ⟨c0, c1, c2, c3, c4, c5, c6, c7, c8, c9⟩ := B.out.read
  go_upto_region 30 with (fail)
  clear o0 o1 o2 o3 o4 o5 o6 o7 o8 o9 c0 c1 c2 c3 c4 c5 c6 c7 c8 c9
  obtain ⟨W4, hW4⟩ : ∃ W, W = W3.setCell ⟨h, 7, none⟩ (.int .i64 n) := ⟨_, rfl⟩
  rw [← hW4]
  have B' := Aside0.mk (show Box w W4 h (ten (K : Int) a1 a2 x3 x4 x5 x6 n a8 a9) by rw [hW4]; exact ⟨B.out.base, blk_put B.out.blk 7 _ rfl⟩)
  have D' := Aside0.mk (show Below w.heap.size w W4 by rw [hW4]; exact D.out.setCell B.out.base _)
  clear B D hW4
  have B := B'
  have D := D'
  have HJ := Aside0.mk hJ
  clear B' D' hI hI0
  go_wp2_with (fail)
  go_loopg [15, 16] hs.size (fun m v15 v16 wc => ∃ i : Nat, v16 = .int .i64 i ∧ i + m = hs.size ∧ v15 = .bool (hasN hs 88 i) ∧ ∃ d, wc = W4.drewN d)
  case atStart => exact ⟨0, rfl, by simp, rfl, 0, rfl⟩
  case round =>
    obtain ⟨i, rfl, hm, rfl, d, rfl⟩ := hrel
    obtain ⟨b, hb⟩ : ∃ b, hasN hs 88 i = b := ⟨_, rfl⟩
    rw [hb]
    by_cases hi : i < hs.size
    · have hn := Aside0.mk (hasN_succ hs 88 i hi)
      have HB := Aside0.mk hb
      clear hb
      have hfi : I % 7 = 4 := HJ.out
      cases b
      · go_upto_region 34 with (fail)
        go_quiet (fail)
        go_wp2
        go_roundg (gk - 1)
        case measure => omega
        case rel => exact ⟨i + 1, by go_num, by omega, by rw [hn.out, HB.out, Bool.false_or]; exact byte_beq _ _, d + nq, rfl⟩
      · go_upto_region 34 with (fail)
        go_quiet (fail)
        go_wp2
        go_roundg (gk - 1)
        case measure => omega
        case rel => exact ⟨i + 1, by go_num, by omega, by rw [hn.out, HB.out, Bool.true_or], d + nq, rfl⟩
    · obtain rfl : i = hs.size := by omega
      have HF := HFIN.out
      rw [hb] at HF
      have B1 := Aside0.mk (B.out.drewN d)
      have D1 := Aside0.mk (pw_below_drewN D.out d)
      obtain ⟨c0, c1, c2, c3, c4, c5, c6, c7, c8, c9⟩ := B1.out.read
      clear hb B D
      go_wp2_with (fail)
      refine (event_Right.calls (K : Int) a1 a2 x3 x4 x5 x6 n a8 a9 rr _ (HG.out.below D1.out) HR.out).mono ?_
      rintro e wz2 ⟨rfl, hb⟩
      have D2 := Aside0.mk (below_step D1.out hb)
      clear hb c0 c1 c2 c3 c4 c5 c6 c7 c8 c9 B1 D1
      by_cases n0 : n = 0
      · subst n0
        obtain rfl : rr = true := by revert HF; cases rr <;> simp
        clear HF
        go_wp2
        go_ret
        exact ⟨rfl, D2.out⟩
      · have n1 : (n == 0) = false := by rw [beq_eq_false_iff_ne]; exact n0
        rw [decide_eq_false n0] at HF
        cases b
        · obtain rfl : rr = false := by revert HF; cases rr <;> simp
          clear HF
          go_wp2
          go_ret
          exact ⟨rfl, D2.out⟩
        · by_cases np : 0 < n
          · by_cases nm : n ≤ 3
            · rw [decide_eq_true np, decide_eq_true nm] at HF
              obtain rfl : rr = true := by revert HF; cases rr <;> simp
              clear HF
              go_wp2
              go_ret
              exact ⟨rfl, D2.out⟩
            · rw [decide_eq_true np, decide_eq_false nm] at HF
              obtain rfl : rr = false := by revert HF; cases rr <;> simp
              have nm' : 3 < n := by omega
              have nd : decide (n ≤ 3) = false := decide_eq_false nm
              clear HF
              go_wp2
              go_ret
              exact ⟨rfl, D2.out⟩
          · rw [decide_eq_false np] at HF
            obtain rfl : rr = false := by revert HF; cases rr <;> simp
            have nd : decide (0 < n) = false := decide_eq_false np
            clear HF
            go_wp2
            go_ret
            exact ⟨rfl, D2.out⟩
set_option maxHeartbeats 4000000 in
set_option maxRecDepth 100000 in
theorem fields_yes5_7 (a1 a2 : Int) (a3 a4 a5 a6 : ByteArray) (a7 a8 a9 : Int) (x3 x4 x5 x6 : ByteArray) (fi : Int) (v2 : ByteArray) (n : Int)
    (hc0 : ∀ w, Calls Tryd.prog 12 #[.agg (ten 7 a1 a2 a3 a4 a5 a6 a7 a8 a9)] w fun e w' => e = .returned (.agg (ten 7 a1 a2 x3 x4 x5 x6 a7 a8 a9)) ∧ Below w.heap.size w w')
    (hX : event_Right.f 7 a1 a2 x3 x4 x5 x6 a7 a8 a9 = some true) (w : World) (hG : Glob w)
    (hs : ByteArray) (hhas : hasL[7]? = some hs) (hsz : hs.size ≤ 7)
    (n2 : Nat) (s : ByteArray) (hm2 : (if 100 < (v2.size : Int) then 100 else (v2.size : Int)) = (n2 : Int)) (h2 : n2 ≤ v2.size) (hss : v2.extract 0 n2 = s) (hz2 : v2.size ≤ 140737488351232)
    (I : Int) (hI : Go.bits .and .i64 fi 65535 = I) (hI0 : 0 ≤ I) (hJ : I % 7 = 5) (rr : Bool) (hR : event_Right.f 7 a1 a2 x3 x4 x5 x6 a7 n a9 = some rr)
    (hfin : (rr == (decide (n = 0) || (hasN hs 89 hs.size && decide (0 < n) && decide (n ≤ 2)))) = true) :
    Calls Tryd.prog 8 #[.agg (ten 7 a1 a2 a3 a4 a5 a6 a7 a8 a9), .int .i64 fi, .string v2, .int .i64 n] w fun e w' => e = .returned (.bool true) ∧ Below w.heap.size w w' := by
  have HG := Aside0.mk hG
  have HC0 := Aside0.mk hc0
  have HX := Aside0.mk hX
  clear hG hc0 hX
  have HR := Aside0.mk hR
  have HFIN := Aside0.mk hfin
  have HHAS := Aside0.mk hhas
  clear hR hfin hhas
  go_enter Tryd.func8, Tryd.ntmps8
  go_upto_region 1 with (fail)
  obtain ⟨g, hg⟩ : ∃ g, g = w.heap.size := ⟨_, rfl⟩
  obtain ⟨W1, hW1⟩ : ∃ W, W = w.alloc (.cells (ten 7 a1 a2 a3 a4 a5 a6 a7 a8 a9) 24) := ⟨_, rfl⟩
  rw [← hW1, ← hg]
  have A := Aside0.mk (show Box w W1 g (ten 7 a1 a2 a3 a4 a5 a6 a7 a8 a9) by rw [hW1, hg]; exact Box.new (Nat.le_refl _) _)
  have D := Aside0.mk (show Below w.heap.size w W1 by rw [hW1]; exact below_alloc (Below.refl _ _) _)
  clear hW1 hg
  go_upto_if 22 with (first | ((with_reducible refine gate_dst (N := 17) rfl ?_); (with_reducible refine gate_callee (f := 11) rfl ?_); refine goesL_ (some 17) rfl rfl Tryd.func11 (by kernel_rfl) rfl #[] rfl (by (try simp only [List.map_toArray, List.map_cons, List.map_nil]); first | done | rfl) ?_; refine (transeptlaw05_shown.calls true _ (HG.out.below D.out) rfl).mono ?_; rintro e wz_ ⟨rfl, hb⟩; refine ⟨_, rfl, ?_⟩; have n0_ := Aside0.mk (below_step D.out hb); have n1_ := Aside0.mk (A.out.then_ hb); clear D; clear A; have D := n0_; have A := n1_; clear n0_ n1_; clear hb) | ((with_reducible refine gate_dst (N := 18) rfl ?_); refine wpList_load_row ?hgd_18 24 (.tmp 4) ?ho_18 g ?hx_18 ?t_18 ?cs_18 ?fr_18 ?d_18 ?hg_18 ?hu_18 ?hd_18 ?hi_18 ?_; (case hgd_18 => rfl); (case ho_18 => rfl); (case hx_18 => rfl); (case hg_18 => exact A.out.blk); (case hu_18 => exact Tryd.underlying24); (case hd_18 => rfl); (case hi_18 => exact size24)) | ((with_reducible refine gate_dst (N := 20) rfl ?_); refine wpList_load_row ?hgd_20 24 (.tmp 4) ?ho_20 g ?hx_20 ?t_20 ?cs_20 ?fr_20 ?d_20 ?hg_20 ?hu_20 ?hd_20 ?hi_20 ?_; (case hgd_20 => rfl); (case ho_20 => rfl); (case hx_20 => rfl); (case hg_20 => exact A.out.blk); (case hu_20 => exact Tryd.underlying24); (case hd_20 => rfl); (case hi_20 => exact size24)) | ((with_reducible refine gate_dst (N := 19) rfl ?_); (with_reducible refine gate_callee (f := 12) rfl ?_); refine goesL_ (some 19) rfl rfl Tryd.func12 (by kernel_rfl) rfl #[.agg (ten 7 a1 a2 a3 a4 a5 a6 a7 a8 a9)] rfl (by (try simp only [List.map_toArray, List.map_cons, List.map_nil]); first | done | rfl) ?_; refine (HC0.out _).mono ?_; rintro e wz_ ⟨rfl, hb⟩; refine ⟨_, rfl, ?_⟩; have n0_ := Aside0.mk (below_step D.out hb); have n1_ := Aside0.mk (A.out.then_ hb); clear D; clear A; have D := n0_; have A := n1_; clear n0_ n1_; clear hb) | ((with_reducible refine gate_store (p := 4) rfl ?_); refine wpList_store_row ?hgd_s19 24 (.tmp 4) (.tmp 19) ?ho_s19 g (ten 7 a1 a2 x3 x4 x5 x6 a7 a8 a9) ?hx_s19 ?hy_s19 ?t_s19 ?old_s19 ?hg_s19 ?hi_s19 ?hold_s19 ?h1_s19 ?_; (case hgd_s19 => rfl); (case ho_s19 => rfl); (case hx_s19 => rfl); (case hy_s19 => rfl); (case hg_s19 => exact A.out.blk); (case hi_s19 => exact size24); (case hold_s19 => rfl); (case h1_s19 => exact ten_one _ _ _ _ _ _ _ _ _ _); have n0_ := Aside0.mk (setRow_below D.out A.out.base (ten 7 a1 a2 x3 x4 x5 x6 a7 a8 a9)); have n1_ := Aside0.mk (Box.row A.out (ten 7 a1 a2 x3 x4 x5 x6 a7 a8 a9)); clear D; clear A; have D := n0_; have A := n1_; clear n0_ n1_) | ((with_reducible refine gate_dst (N := 21) rfl ?_); (with_reducible refine gate_callee (f := 15) rfl ?_); refine goesL_ (some 21) rfl rfl Tryd.func15 (by kernel_rfl) rfl #[.agg (ten 7 a1 a2 x3 x4 x5 x6 a7 a8 a9)] rfl (by (try simp only [List.map_toArray, List.map_cons, List.map_nil]); first | done | rfl) ?_; refine (event_Right.calls 7 a1 a2 x3 x4 x5 x6 a7 a8 a9 true _ (HG.out.below D.out) HX.out).mono ?_; rintro e wz_ ⟨rfl, hb⟩; refine ⟨_, rfl, ?_⟩; have n0_ := Aside0.mk (below_step D.out hb); have n1_ := Aside0.mk (A.out.then_ hb); clear D; clear A; have D := n0_; have A := n1_; clear n0_ n1_; clear hb))
  go_upto_region 6 with (fail)
  clear hm2 h2 hss
  have e0 : ∀ o, (wz_.alloc o).cell? ⟨g, 0, none⟩ = some (.int .i64 7) := fun o => (A.out.alloc o).read.1
  have e1 : (wz_.alloc (.cells (hasL.map Value.string).toArray 9)).cell? ⟨wz_.heap.size, 7, none⟩ = some (.string hs) := by
    rw [cell_of_row _ _ _ _ _ _ (heap_alloc_new wz_ _)]
    simp only [List.getElem?_toArray, List.getElem?_map, HHAS.out, Option.map_some]
  simp only [hasL, List.map_cons, List.map_nil] at e1
  go_upto_region 7 with (fail)
  obtain ⟨W2, hW2⟩ : ∃ W, W = wz_.alloc (.cells (hasL.map Value.string).toArray 9) := ⟨_, rfl⟩
  have A' := Aside0.mk (show Box w W2 g (ten 7 a1 a2 x3 x4 x5 x6 a7 a8 a9) by rw [hW2]; exact A.out.alloc _)
  have D' := Aside0.mk (show Below w.heap.size w W2 by rw [hW2]; exact below_alloc D.out _)
  simp only [hasL, List.map_cons, List.map_nil] at hW2
  rw [← hW2]
  clear A D hW2 e0 e1
  have A := A'
  have D := D'
  clear A' D'
  obtain ⟨c0, c1, c2, c3, c4, c5, c6, c7, c8, c9⟩ := A.out.read
  go_upto_region 13 with (fail)
  clear c0 c1 c2 c3 c4 c5 c6 c7 c8 c9
  obtain ⟨h, hh⟩ : ∃ h, h = W2.heap.size := ⟨_, rfl⟩
  obtain ⟨W3, hW3⟩ : ∃ W, W = W2.alloc (.cells (ten 7 a1 a2 x3 x4 x5 x6 a7 a8 a9) 24) := ⟨_, rfl⟩
  rw [← hW3, ← hh]
  have B := Aside0.mk (show Box w W3 h (ten 7 a1 a2 x3 x4 x5 x6 a7 a8 a9) by rw [hW3, hh]; exact Box.fresh D.out _)
  have D' := Aside0.mk (show Below w.heap.size w W3 by rw [hW3]; exact below_alloc D.out _)
  clear A D hW3 hh
  have D := D'
  clear D'
  obtain ⟨o0, o1, o2, o3, o4, o5, o6, o7, o8, o9⟩ := B.out.free
  obtain ⟨c0, c1, c2, c3, c4, c5, c6, c7, c8, c9⟩ := B.out.read
  go_upto_region 30 with (fail)
  clear o0 o1 o2 o3 o4 o5 o6 o7 o8 o9 c0 c1 c2 c3 c4 c5 c6 c7 c8 c9
  obtain ⟨W4, hW4⟩ : ∃ W, W = W3.setCell ⟨h, 8, none⟩ (.int .i64 n) := ⟨_, rfl⟩
  rw [← hW4]
  have B' := Aside0.mk (show Box w W4 h (ten 7 a1 a2 x3 x4 x5 x6 a7 n a9) by rw [hW4]; exact ⟨B.out.base, blk_put B.out.blk 8 _ rfl⟩)
  have D' := Aside0.mk (show Below w.heap.size w W4 by rw [hW4]; exact D.out.setCell B.out.base _)
  clear B D hW4
  have B := B'
  have D := D'
  have HJ := Aside0.mk hJ
  clear B' D' hI hI0
  go_wp2_with (fail)
  go_loopg [15, 16] hs.size (fun m v15 v16 wc => ∃ i : Nat, v16 = .int .i64 i ∧ i + m = hs.size ∧ v15 = .bool (hasN hs 89 i) ∧ ∃ d, wc = W4.drewN d)
  case atStart => exact ⟨0, rfl, by simp, rfl, 0, rfl⟩
  case round =>
    obtain ⟨i, rfl, hm, rfl, d, rfl⟩ := hrel
    obtain ⟨b, hb⟩ : ∃ b, hasN hs 89 i = b := ⟨_, rfl⟩
    rw [hb]
    by_cases hi : i < hs.size
    · have hn := Aside0.mk (hasN_succ hs 89 i hi)
      have HB := Aside0.mk hb
      clear hb
      have hfi : I % 7 = 5 := HJ.out
      cases b
      · go_upto_region 34 with (fail)
        go_quiet (fail)
        go_wp2
        go_roundg (gk - 1)
        case measure => omega
        case rel => exact ⟨i + 1, by go_num, by omega, by rw [hn.out, HB.out, Bool.false_or]; exact byte_beq _ _, d + nq, rfl⟩
      · go_upto_region 34 with (fail)
        go_quiet (fail)
        go_wp2
        go_roundg (gk - 1)
        case measure => omega
        case rel => exact ⟨i + 1, by go_num, by omega, by rw [hn.out, HB.out, Bool.true_or], d + nq, rfl⟩
    · obtain rfl : i = hs.size := by omega
      have HF := HFIN.out
      rw [hb] at HF
      have B1 := Aside0.mk (B.out.drewN d)
      have D1 := Aside0.mk (pw_below_drewN D.out d)
      obtain ⟨c0, c1, c2, c3, c4, c5, c6, c7, c8, c9⟩ := B1.out.read
      clear hb B D
      go_wp2_with (fail)
      refine (event_Right.calls 7 a1 a2 x3 x4 x5 x6 a7 n a9 rr _ (HG.out.below D1.out) HR.out).mono ?_
      rintro e wz2 ⟨rfl, hb⟩
      have D2 := Aside0.mk (below_step D1.out hb)
      clear hb c0 c1 c2 c3 c4 c5 c6 c7 c8 c9 B1 D1
      by_cases n0 : n = 0
      · subst n0
        obtain rfl : rr = true := by revert HF; cases rr <;> simp
        clear HF
        go_wp2
        go_ret
        exact ⟨rfl, D2.out⟩
      · have n1 : (n == 0) = false := by rw [beq_eq_false_iff_ne]; exact n0
        rw [decide_eq_false n0] at HF
        cases b
        · obtain rfl : rr = false := by revert HF; cases rr <;> simp
          clear HF
          go_wp2
          go_ret
          exact ⟨rfl, D2.out⟩
        · by_cases np : 0 < n
          · by_cases nm : n ≤ 2
            · rw [decide_eq_true np, decide_eq_true nm] at HF
              obtain rfl : rr = true := by revert HF; cases rr <;> simp
              clear HF
              go_wp2
              go_ret
              exact ⟨rfl, D2.out⟩
            · rw [decide_eq_true np, decide_eq_false nm] at HF
              obtain rfl : rr = false := by revert HF; cases rr <;> simp
              have nm' : 2 < n := by omega
              have nd : decide (n ≤ 2) = false := decide_eq_false nm
              clear HF
              go_wp2
              go_ret
              exact ⟨rfl, D2.out⟩
          · rw [decide_eq_false np] at HF
            obtain rfl : rr = false := by revert HF; cases rr <;> simp
            have nd : decide (0 < n) = false := decide_eq_false np
            clear HF
            go_wp2
            go_ret
            exact ⟨rfl, D2.out⟩
set_option maxHeartbeats 4000000 in
set_option maxRecDepth 100000 in
theorem fields_yes5_10 (a1 a2 : Int) (a3 a4 a5 a6 : ByteArray) (a7 a8 a9 : Int) (x3 x4 x5 x6 : ByteArray) (fi : Int) (v2 : ByteArray) (n : Int)
    (hc0 : ∀ w, Calls Tryd.prog 12 #[.agg (ten 10 a1 a2 a3 a4 a5 a6 a7 a8 a9)] w fun e w' => e = .returned (.agg (ten 10 a1 a2 x3 x4 x5 x6 a7 a8 a9)) ∧ Below w.heap.size w w')
    (hX : event_Right.f 10 a1 a2 x3 x4 x5 x6 a7 a8 a9 = some true) (w : World) (hG : Glob w)
    (hs : ByteArray) (hhas : hasL[10]? = some hs) (hsz : hs.size ≤ 7)
    (n2 : Nat) (s : ByteArray) (hm2 : (if 100 < (v2.size : Int) then 100 else (v2.size : Int)) = (n2 : Int)) (h2 : n2 ≤ v2.size) (hss : v2.extract 0 n2 = s) (hz2 : v2.size ≤ 140737488351232)
    (I : Int) (hI : Go.bits .and .i64 fi 65535 = I) (hI0 : 0 ≤ I) (hJ : I % 7 = 5) (rr : Bool) (hR : event_Right.f 10 a1 a2 x3 x4 x5 x6 a7 n a9 = some rr)
    (hfin : (rr == (decide (n = 0) || (hasN hs 89 hs.size && decide (0 < n) && decide (n ≤ 2)))) = true) :
    Calls Tryd.prog 8 #[.agg (ten 10 a1 a2 a3 a4 a5 a6 a7 a8 a9), .int .i64 fi, .string v2, .int .i64 n] w fun e w' => e = .returned (.bool true) ∧ Below w.heap.size w w' := by
  have HG := Aside0.mk hG
  have HC0 := Aside0.mk hc0
  have HX := Aside0.mk hX
  clear hG hc0 hX
  have HR := Aside0.mk hR
  have HFIN := Aside0.mk hfin
  have HHAS := Aside0.mk hhas
  clear hR hfin hhas
  go_enter Tryd.func8, Tryd.ntmps8
  go_upto_region 1 with (fail)
  obtain ⟨g, hg⟩ : ∃ g, g = w.heap.size := ⟨_, rfl⟩
  obtain ⟨W1, hW1⟩ : ∃ W, W = w.alloc (.cells (ten 10 a1 a2 a3 a4 a5 a6 a7 a8 a9) 24) := ⟨_, rfl⟩
  rw [← hW1, ← hg]
  have A := Aside0.mk (show Box w W1 g (ten 10 a1 a2 a3 a4 a5 a6 a7 a8 a9) by rw [hW1, hg]; exact Box.new (Nat.le_refl _) _)
  have D := Aside0.mk (show Below w.heap.size w W1 by rw [hW1]; exact below_alloc (Below.refl _ _) _)
  clear hW1 hg
  go_upto_if 22 with (first | ((with_reducible refine gate_dst (N := 17) rfl ?_); (with_reducible refine gate_callee (f := 11) rfl ?_); refine goesL_ (some 17) rfl rfl Tryd.func11 (by kernel_rfl) rfl #[] rfl (by (try simp only [List.map_toArray, List.map_cons, List.map_nil]); first | done | rfl) ?_; refine (transeptlaw05_shown.calls true _ (HG.out.below D.out) rfl).mono ?_; rintro e wz_ ⟨rfl, hb⟩; refine ⟨_, rfl, ?_⟩; have n0_ := Aside0.mk (below_step D.out hb); have n1_ := Aside0.mk (A.out.then_ hb); clear D; clear A; have D := n0_; have A := n1_; clear n0_ n1_; clear hb) | ((with_reducible refine gate_dst (N := 18) rfl ?_); refine wpList_load_row ?hgd_18 24 (.tmp 4) ?ho_18 g ?hx_18 ?t_18 ?cs_18 ?fr_18 ?d_18 ?hg_18 ?hu_18 ?hd_18 ?hi_18 ?_; (case hgd_18 => rfl); (case ho_18 => rfl); (case hx_18 => rfl); (case hg_18 => exact A.out.blk); (case hu_18 => exact Tryd.underlying24); (case hd_18 => rfl); (case hi_18 => exact size24)) | ((with_reducible refine gate_dst (N := 20) rfl ?_); refine wpList_load_row ?hgd_20 24 (.tmp 4) ?ho_20 g ?hx_20 ?t_20 ?cs_20 ?fr_20 ?d_20 ?hg_20 ?hu_20 ?hd_20 ?hi_20 ?_; (case hgd_20 => rfl); (case ho_20 => rfl); (case hx_20 => rfl); (case hg_20 => exact A.out.blk); (case hu_20 => exact Tryd.underlying24); (case hd_20 => rfl); (case hi_20 => exact size24)) | ((with_reducible refine gate_dst (N := 19) rfl ?_); (with_reducible refine gate_callee (f := 12) rfl ?_); refine goesL_ (some 19) rfl rfl Tryd.func12 (by kernel_rfl) rfl #[.agg (ten 10 a1 a2 a3 a4 a5 a6 a7 a8 a9)] rfl (by (try simp only [List.map_toArray, List.map_cons, List.map_nil]); first | done | rfl) ?_; refine (HC0.out _).mono ?_; rintro e wz_ ⟨rfl, hb⟩; refine ⟨_, rfl, ?_⟩; have n0_ := Aside0.mk (below_step D.out hb); have n1_ := Aside0.mk (A.out.then_ hb); clear D; clear A; have D := n0_; have A := n1_; clear n0_ n1_; clear hb) | ((with_reducible refine gate_store (p := 4) rfl ?_); refine wpList_store_row ?hgd_s19 24 (.tmp 4) (.tmp 19) ?ho_s19 g (ten 10 a1 a2 x3 x4 x5 x6 a7 a8 a9) ?hx_s19 ?hy_s19 ?t_s19 ?old_s19 ?hg_s19 ?hi_s19 ?hold_s19 ?h1_s19 ?_; (case hgd_s19 => rfl); (case ho_s19 => rfl); (case hx_s19 => rfl); (case hy_s19 => rfl); (case hg_s19 => exact A.out.blk); (case hi_s19 => exact size24); (case hold_s19 => rfl); (case h1_s19 => exact ten_one _ _ _ _ _ _ _ _ _ _); have n0_ := Aside0.mk (setRow_below D.out A.out.base (ten 10 a1 a2 x3 x4 x5 x6 a7 a8 a9)); have n1_ := Aside0.mk (Box.row A.out (ten 10 a1 a2 x3 x4 x5 x6 a7 a8 a9)); clear D; clear A; have D := n0_; have A := n1_; clear n0_ n1_) | ((with_reducible refine gate_dst (N := 21) rfl ?_); (with_reducible refine gate_callee (f := 15) rfl ?_); refine goesL_ (some 21) rfl rfl Tryd.func15 (by kernel_rfl) rfl #[.agg (ten 10 a1 a2 x3 x4 x5 x6 a7 a8 a9)] rfl (by (try simp only [List.map_toArray, List.map_cons, List.map_nil]); first | done | rfl) ?_; refine (event_Right.calls 10 a1 a2 x3 x4 x5 x6 a7 a8 a9 true _ (HG.out.below D.out) HX.out).mono ?_; rintro e wz_ ⟨rfl, hb⟩; refine ⟨_, rfl, ?_⟩; have n0_ := Aside0.mk (below_step D.out hb); have n1_ := Aside0.mk (A.out.then_ hb); clear D; clear A; have D := n0_; have A := n1_; clear n0_ n1_; clear hb))
  go_upto_region 6 with (fail)
  clear hm2 h2 hss
  have e0 : ∀ o, (wz_.alloc o).cell? ⟨g, 0, none⟩ = some (.int .i64 10) := fun o => (A.out.alloc o).read.1
  have e1 : (wz_.alloc (.cells (hasL.map Value.string).toArray 9)).cell? ⟨wz_.heap.size, 10, none⟩ = some (.string hs) := by
    rw [cell_of_row _ _ _ _ _ _ (heap_alloc_new wz_ _)]
    simp only [List.getElem?_toArray, List.getElem?_map, HHAS.out, Option.map_some]
  simp only [hasL, List.map_cons, List.map_nil] at e1
  go_upto_region 7 with (fail)
  obtain ⟨W2, hW2⟩ : ∃ W, W = wz_.alloc (.cells (hasL.map Value.string).toArray 9) := ⟨_, rfl⟩
  have A' := Aside0.mk (show Box w W2 g (ten 10 a1 a2 x3 x4 x5 x6 a7 a8 a9) by rw [hW2]; exact A.out.alloc _)
  have D' := Aside0.mk (show Below w.heap.size w W2 by rw [hW2]; exact below_alloc D.out _)
  simp only [hasL, List.map_cons, List.map_nil] at hW2
  rw [← hW2]
  clear A D hW2 e0 e1
  have A := A'
  have D := D'
  clear A' D'
  obtain ⟨c0, c1, c2, c3, c4, c5, c6, c7, c8, c9⟩ := A.out.read
  go_upto_region 13 with (fail)
  clear c0 c1 c2 c3 c4 c5 c6 c7 c8 c9
  obtain ⟨h, hh⟩ : ∃ h, h = W2.heap.size := ⟨_, rfl⟩
  obtain ⟨W3, hW3⟩ : ∃ W, W = W2.alloc (.cells (ten 10 a1 a2 x3 x4 x5 x6 a7 a8 a9) 24) := ⟨_, rfl⟩
  rw [← hW3, ← hh]
  have B := Aside0.mk (show Box w W3 h (ten 10 a1 a2 x3 x4 x5 x6 a7 a8 a9) by rw [hW3, hh]; exact Box.fresh D.out _)
  have D' := Aside0.mk (show Below w.heap.size w W3 by rw [hW3]; exact below_alloc D.out _)
  clear A D hW3 hh
  have D := D'
  clear D'
  obtain ⟨o0, o1, o2, o3, o4, o5, o6, o7, o8, o9⟩ := B.out.free
  obtain ⟨c0, c1, c2, c3, c4, c5, c6, c7, c8, c9⟩ := B.out.read
  go_upto_region 30 with (fail)
  clear o0 o1 o2 o3 o4 o5 o6 o7 o8 o9 c0 c1 c2 c3 c4 c5 c6 c7 c8 c9
  obtain ⟨W4, hW4⟩ : ∃ W, W = W3.setCell ⟨h, 8, none⟩ (.int .i64 n) := ⟨_, rfl⟩
  rw [← hW4]
  have B' := Aside0.mk (show Box w W4 h (ten 10 a1 a2 x3 x4 x5 x6 a7 n a9) by rw [hW4]; exact ⟨B.out.base, blk_put B.out.blk 8 _ rfl⟩)
  have D' := Aside0.mk (show Below w.heap.size w W4 by rw [hW4]; exact D.out.setCell B.out.base _)
  clear B D hW4
  have B := B'
  have D := D'
  have HJ := Aside0.mk hJ
  clear B' D' hI hI0
  go_wp2_with (fail)
  go_loopg [15, 16] hs.size (fun m v15 v16 wc => ∃ i : Nat, v16 = .int .i64 i ∧ i + m = hs.size ∧ v15 = .bool (hasN hs 89 i) ∧ ∃ d, wc = W4.drewN d)
  case atStart => exact ⟨0, rfl, by simp, rfl, 0, rfl⟩
  case round =>
    obtain ⟨i, rfl, hm, rfl, d, rfl⟩ := hrel
    obtain ⟨b, hb⟩ : ∃ b, hasN hs 89 i = b := ⟨_, rfl⟩
    rw [hb]
    by_cases hi : i < hs.size
    · have hn := Aside0.mk (hasN_succ hs 89 i hi)
      have HB := Aside0.mk hb
      clear hb
      have hfi : I % 7 = 5 := HJ.out
      cases b
      · go_upto_region 34 with (fail)
        go_quiet (fail)
        go_wp2
        go_roundg (gk - 1)
        case measure => omega
        case rel => exact ⟨i + 1, by go_num, by omega, by rw [hn.out, HB.out, Bool.false_or]; exact byte_beq _ _, d + nq, rfl⟩
      · go_upto_region 34 with (fail)
        go_quiet (fail)
        go_wp2
        go_roundg (gk - 1)
        case measure => omega
        case rel => exact ⟨i + 1, by go_num, by omega, by rw [hn.out, HB.out, Bool.true_or], d + nq, rfl⟩
    · obtain rfl : i = hs.size := by omega
      have HF := HFIN.out
      rw [hb] at HF
      have B1 := Aside0.mk (B.out.drewN d)
      have D1 := Aside0.mk (pw_below_drewN D.out d)
      obtain ⟨c0, c1, c2, c3, c4, c5, c6, c7, c8, c9⟩ := B1.out.read
      clear hb B D
      go_wp2_with (fail)
      refine (event_Right.calls 10 a1 a2 x3 x4 x5 x6 a7 n a9 rr _ (HG.out.below D1.out) HR.out).mono ?_
      rintro e wz2 ⟨rfl, hb⟩
      have D2 := Aside0.mk (below_step D1.out hb)
      clear hb c0 c1 c2 c3 c4 c5 c6 c7 c8 c9 B1 D1
      by_cases n0 : n = 0
      · subst n0
        obtain rfl : rr = true := by revert HF; cases rr <;> simp
        clear HF
        go_wp2
        go_ret
        exact ⟨rfl, D2.out⟩
      · have n1 : (n == 0) = false := by rw [beq_eq_false_iff_ne]; exact n0
        rw [decide_eq_false n0] at HF
        cases b
        · obtain rfl : rr = false := by revert HF; cases rr <;> simp
          clear HF
          go_wp2
          go_ret
          exact ⟨rfl, D2.out⟩
        · by_cases np : 0 < n
          · by_cases nm : n ≤ 2
            · rw [decide_eq_true np, decide_eq_true nm] at HF
              obtain rfl : rr = true := by revert HF; cases rr <;> simp
              clear HF
              go_wp2
              go_ret
              exact ⟨rfl, D2.out⟩
            · rw [decide_eq_true np, decide_eq_false nm] at HF
              obtain rfl : rr = false := by revert HF; cases rr <;> simp
              have nm' : 2 < n := by omega
              have nd : decide (n ≤ 2) = false := decide_eq_false nm
              clear HF
              go_wp2
              go_ret
              exact ⟨rfl, D2.out⟩
          · rw [decide_eq_false np] at HF
            obtain rfl : rr = false := by revert HF; cases rr <;> simp
            have nd : decide (0 < n) = false := decide_eq_false np
            clear HF
            go_wp2
            go_ret
            exact ⟨rfl, D2.out⟩
set_option maxHeartbeats 4000000 in
set_option maxRecDepth 100000 in
theorem fields_yes5_o (K : Nat) (a1 a2 : Int) (a3 a4 a5 a6 : ByteArray) (a7 a8 a9 : Int) (x3 x4 x5 x6 : ByteArray) (fi : Int) (v2 : ByteArray) (n : Int)
    (hc0 : ∀ w, Calls Tryd.prog 12 #[.agg (ten (K : Int) a1 a2 a3 a4 a5 a6 a7 a8 a9)] w fun e w' => e = .returned (.agg (ten (K : Int) a1 a2 x3 x4 x5 x6 a7 a8 a9)) ∧ Below w.heap.size w w')
    (hX : event_Right.f (K : Int) a1 a2 x3 x4 x5 x6 a7 a8 a9 = some true) (w : World) (hG : Glob w)
    (hK1 : 1 ≤ K) (hK2 : K ≤ 14) (hK7 : ((K : Int) == 7) = false) (hK10 : ((K : Int) == 10) = false) (hs : ByteArray) (hhas : hasL[K]? = some hs) (hsz : hs.size ≤ 7)
    (n2 : Nat) (s : ByteArray) (hm2 : (if 100 < (v2.size : Int) then 100 else (v2.size : Int)) = (n2 : Int)) (h2 : n2 ≤ v2.size) (hss : v2.extract 0 n2 = s) (hz2 : v2.size ≤ 140737488351232)
    (I : Int) (hI : Go.bits .and .i64 fi 65535 = I) (hI0 : 0 ≤ I) (hJ : I % 7 = 5) (rr : Bool) (hR : event_Right.f (K : Int) a1 a2 x3 x4 x5 x6 a7 n a9 = some rr)
    (hfin : (rr == (decide (n = 0) || (hasN hs 89 hs.size && decide (0 < n) && decide (n ≤ 2)))) = true) :
    Calls Tryd.prog 8 #[.agg (ten (K : Int) a1 a2 a3 a4 a5 a6 a7 a8 a9), .int .i64 fi, .string v2, .int .i64 n] w fun e w' => e = .returned (.bool true) ∧ Below w.heap.size w w' := by
  have HG := Aside0.mk hG
  have HC0 := Aside0.mk hc0
  have HX := Aside0.mk hX
  clear hG hc0 hX
  have HR := Aside0.mk hR
  have HFIN := Aside0.mk hfin
  have HHAS := Aside0.mk hhas
  clear hR hfin hhas
  go_enter Tryd.func8, Tryd.ntmps8
  go_upto_region 1 with (fail)
  obtain ⟨g, hg⟩ : ∃ g, g = w.heap.size := ⟨_, rfl⟩
  obtain ⟨W1, hW1⟩ : ∃ W, W = w.alloc (.cells (ten (K : Int) a1 a2 a3 a4 a5 a6 a7 a8 a9) 24) := ⟨_, rfl⟩
  rw [← hW1, ← hg]
  have A := Aside0.mk (show Box w W1 g (ten (K : Int) a1 a2 a3 a4 a5 a6 a7 a8 a9) by rw [hW1, hg]; exact Box.new (Nat.le_refl _) _)
  have D := Aside0.mk (show Below w.heap.size w W1 by rw [hW1]; exact below_alloc (Below.refl _ _) _)
  clear hW1 hg
  go_upto_if 22 with (first | ((with_reducible refine gate_dst (N := 17) rfl ?_); (with_reducible refine gate_callee (f := 11) rfl ?_); refine goesL_ (some 17) rfl rfl Tryd.func11 (by kernel_rfl) rfl #[] rfl (by (try simp only [List.map_toArray, List.map_cons, List.map_nil]); first | done | rfl) ?_; refine (transeptlaw05_shown.calls true _ (HG.out.below D.out) rfl).mono ?_; rintro e wz_ ⟨rfl, hb⟩; refine ⟨_, rfl, ?_⟩; have n0_ := Aside0.mk (below_step D.out hb); have n1_ := Aside0.mk (A.out.then_ hb); clear D; clear A; have D := n0_; have A := n1_; clear n0_ n1_; clear hb) | ((with_reducible refine gate_dst (N := 18) rfl ?_); refine wpList_load_row ?hgd_18 24 (.tmp 4) ?ho_18 g ?hx_18 ?t_18 ?cs_18 ?fr_18 ?d_18 ?hg_18 ?hu_18 ?hd_18 ?hi_18 ?_; (case hgd_18 => rfl); (case ho_18 => rfl); (case hx_18 => rfl); (case hg_18 => exact A.out.blk); (case hu_18 => exact Tryd.underlying24); (case hd_18 => rfl); (case hi_18 => exact size24)) | ((with_reducible refine gate_dst (N := 20) rfl ?_); refine wpList_load_row ?hgd_20 24 (.tmp 4) ?ho_20 g ?hx_20 ?t_20 ?cs_20 ?fr_20 ?d_20 ?hg_20 ?hu_20 ?hd_20 ?hi_20 ?_; (case hgd_20 => rfl); (case ho_20 => rfl); (case hx_20 => rfl); (case hg_20 => exact A.out.blk); (case hu_20 => exact Tryd.underlying24); (case hd_20 => rfl); (case hi_20 => exact size24)) | ((with_reducible refine gate_dst (N := 19) rfl ?_); (with_reducible refine gate_callee (f := 12) rfl ?_); refine goesL_ (some 19) rfl rfl Tryd.func12 (by kernel_rfl) rfl #[.agg (ten (K : Int) a1 a2 a3 a4 a5 a6 a7 a8 a9)] rfl (by (try simp only [List.map_toArray, List.map_cons, List.map_nil]); first | done | rfl) ?_; refine (HC0.out _).mono ?_; rintro e wz_ ⟨rfl, hb⟩; refine ⟨_, rfl, ?_⟩; have n0_ := Aside0.mk (below_step D.out hb); have n1_ := Aside0.mk (A.out.then_ hb); clear D; clear A; have D := n0_; have A := n1_; clear n0_ n1_; clear hb) | ((with_reducible refine gate_store (p := 4) rfl ?_); refine wpList_store_row ?hgd_s19 24 (.tmp 4) (.tmp 19) ?ho_s19 g (ten (K : Int) a1 a2 x3 x4 x5 x6 a7 a8 a9) ?hx_s19 ?hy_s19 ?t_s19 ?old_s19 ?hg_s19 ?hi_s19 ?hold_s19 ?h1_s19 ?_; (case hgd_s19 => rfl); (case ho_s19 => rfl); (case hx_s19 => rfl); (case hy_s19 => rfl); (case hg_s19 => exact A.out.blk); (case hi_s19 => exact size24); (case hold_s19 => rfl); (case h1_s19 => exact ten_one _ _ _ _ _ _ _ _ _ _); have n0_ := Aside0.mk (setRow_below D.out A.out.base (ten (K : Int) a1 a2 x3 x4 x5 x6 a7 a8 a9)); have n1_ := Aside0.mk (Box.row A.out (ten (K : Int) a1 a2 x3 x4 x5 x6 a7 a8 a9)); clear D; clear A; have D := n0_; have A := n1_; clear n0_ n1_) | ((with_reducible refine gate_dst (N := 21) rfl ?_); (with_reducible refine gate_callee (f := 15) rfl ?_); refine goesL_ (some 21) rfl rfl Tryd.func15 (by kernel_rfl) rfl #[.agg (ten (K : Int) a1 a2 x3 x4 x5 x6 a7 a8 a9)] rfl (by (try simp only [List.map_toArray, List.map_cons, List.map_nil]); first | done | rfl) ?_; refine (event_Right.calls (K : Int) a1 a2 x3 x4 x5 x6 a7 a8 a9 true _ (HG.out.below D.out) HX.out).mono ?_; rintro e wz_ ⟨rfl, hb⟩; refine ⟨_, rfl, ?_⟩; have n0_ := Aside0.mk (below_step D.out hb); have n1_ := Aside0.mk (A.out.then_ hb); clear D; clear A; have D := n0_; have A := n1_; clear n0_ n1_; clear hb))
  go_upto_region 6 with (fail)
  clear hm2 h2 hss
  have e0 : ∀ o, (wz_.alloc o).cell? ⟨g, 0, none⟩ = some (.int .i64 (K : Int)) := fun o => (A.out.alloc o).read.1
  have e1 : (wz_.alloc (.cells (hasL.map Value.string).toArray 9)).cell? ⟨wz_.heap.size, K, none⟩ = some (.string hs) := by
    rw [cell_of_row _ _ _ _ _ _ (heap_alloc_new wz_ _)]
    simp only [List.getElem?_toArray, List.getElem?_map, HHAS.out, Option.map_some]
  simp only [hasL, List.map_cons, List.map_nil] at e1
  go_upto_region 7 with (fail)
  obtain ⟨W2, hW2⟩ : ∃ W, W = wz_.alloc (.cells (hasL.map Value.string).toArray 9) := ⟨_, rfl⟩
  have A' := Aside0.mk (show Box w W2 g (ten (K : Int) a1 a2 x3 x4 x5 x6 a7 a8 a9) by rw [hW2]; exact A.out.alloc _)
  have D' := Aside0.mk (show Below w.heap.size w W2 by rw [hW2]; exact below_alloc D.out _)
  simp only [hasL, List.map_cons, List.map_nil] at hW2
  rw [← hW2]
  clear A D hW2 e0 e1
  have A := A'
  have D := D'
  clear A' D'
  obtain ⟨c0, c1, c2, c3, c4, c5, c6, c7, c8, c9⟩ := A.out.read
  go_upto_region 13 with (fail)
  clear c0 c1 c2 c3 c4 c5 c6 c7 c8 c9
  obtain ⟨h, hh⟩ : ∃ h, h = W2.heap.size := ⟨_, rfl⟩
  obtain ⟨W3, hW3⟩ : ∃ W, W = W2.alloc (.cells (ten (K : Int) a1 a2 x3 x4 x5 x6 a7 a8 a9) 24) := ⟨_, rfl⟩
  rw [← hW3, ← hh]
  have B := Aside0.mk (show Box w W3 h (ten (K : Int) a1 a2 x3 x4 x5 x6 a7 a8 a9) by rw [hW3, hh]; exact Box.fresh D.out _)
  have D' := Aside0.mk (show Below w.heap.size w W3 by rw [hW3]; exact below_alloc D.out _)
  clear A D hW3 hh
  have D := D'
  clear D'
  obtain ⟨o0, o1, o2, o3, o4, o5, o6, o7, o8, o9⟩ := B.out.free
  obtain ⟨c0, c1, c2, c3, c4, c5, c6, c7, c8, c9⟩ := B.out.read
  go_upto_region 30 with (fail)
  clear o0 o1 o2 o3 o4 o5 o6 o7 o8 o9 c0 c1 c2 c3 c4 c5 c6 c7 c8 c9
  obtain ⟨W4, hW4⟩ : ∃ W, W = W3.setCell ⟨h, 8, none⟩ (.int .i64 n) := ⟨_, rfl⟩
  rw [← hW4]
  have B' := Aside0.mk (show Box w W4 h (ten (K : Int) a1 a2 x3 x4 x5 x6 a7 n a9) by rw [hW4]; exact ⟨B.out.base, blk_put B.out.blk 8 _ rfl⟩)
  have D' := Aside0.mk (show Below w.heap.size w W4 by rw [hW4]; exact D.out.setCell B.out.base _)
  clear B D hW4
  have B := B'
  have D := D'
  have HJ := Aside0.mk hJ
  clear B' D' hI hI0
  go_wp2_with (fail)
  go_loopg [15, 16] hs.size (fun m v15 v16 wc => ∃ i : Nat, v16 = .int .i64 i ∧ i + m = hs.size ∧ v15 = .bool (hasN hs 89 i) ∧ ∃ d, wc = W4.drewN d)
  case atStart => exact ⟨0, rfl, by simp, rfl, 0, rfl⟩
  case round =>
    obtain ⟨i, rfl, hm, rfl, d, rfl⟩ := hrel
    obtain ⟨b, hb⟩ : ∃ b, hasN hs 89 i = b := ⟨_, rfl⟩
    rw [hb]
    by_cases hi : i < hs.size
    · have hn := Aside0.mk (hasN_succ hs 89 i hi)
      have HB := Aside0.mk hb
      clear hb
      have hfi : I % 7 = 5 := HJ.out
      cases b
      · go_upto_region 34 with (fail)
        go_quiet (fail)
        go_wp2
        go_roundg (gk - 1)
        case measure => omega
        case rel => exact ⟨i + 1, by go_num, by omega, by rw [hn.out, HB.out, Bool.false_or]; exact byte_beq _ _, d + nq, rfl⟩
      · go_upto_region 34 with (fail)
        go_quiet (fail)
        go_wp2
        go_roundg (gk - 1)
        case measure => omega
        case rel => exact ⟨i + 1, by go_num, by omega, by rw [hn.out, HB.out, Bool.true_or], d + nq, rfl⟩
    · obtain rfl : i = hs.size := by omega
      have HF := HFIN.out
      rw [hb] at HF
      have B1 := Aside0.mk (B.out.drewN d)
      have D1 := Aside0.mk (pw_below_drewN D.out d)
      obtain ⟨c0, c1, c2, c3, c4, c5, c6, c7, c8, c9⟩ := B1.out.read
      clear hb B D
      go_wp2_with (fail)
      refine (event_Right.calls (K : Int) a1 a2 x3 x4 x5 x6 a7 n a9 rr _ (HG.out.below D1.out) HR.out).mono ?_
      rintro e wz2 ⟨rfl, hb⟩
      have D2 := Aside0.mk (below_step D1.out hb)
      clear hb c0 c1 c2 c3 c4 c5 c6 c7 c8 c9 B1 D1
      by_cases n0 : n = 0
      · subst n0
        obtain rfl : rr = true := by revert HF; cases rr <;> simp
        clear HF
        go_wp2
        go_ret
        exact ⟨rfl, D2.out⟩
      · have n1 : (n == 0) = false := by rw [beq_eq_false_iff_ne]; exact n0
        rw [decide_eq_false n0] at HF
        cases b
        · obtain rfl : rr = false := by revert HF; cases rr <;> simp
          clear HF
          go_wp2
          go_ret
          exact ⟨rfl, D2.out⟩
        · by_cases np : 0 < n
          · by_cases nm : n ≤ 2
            · rw [decide_eq_true np, decide_eq_true nm] at HF
              obtain rfl : rr = true := by revert HF; cases rr <;> simp
              clear HF
              go_wp2
              go_ret
              exact ⟨rfl, D2.out⟩
            · rw [decide_eq_true np, decide_eq_false nm] at HF
              obtain rfl : rr = false := by revert HF; cases rr <;> simp
              have nm' : 2 < n := by omega
              have nd : decide (n ≤ 2) = false := decide_eq_false nm
              clear HF
              go_wp2
              go_ret
              exact ⟨rfl, D2.out⟩
          · rw [decide_eq_false np] at HF
            obtain rfl : rr = false := by revert HF; cases rr <;> simp
            have nd : decide (0 < n) = false := decide_eq_false np
            clear HF
            go_wp2
            go_ret
            exact ⟨rfl, D2.out⟩
set_option maxHeartbeats 4000000 in
set_option maxRecDepth 100000 in
theorem fields_yes6_7 (a1 a2 : Int) (a3 a4 a5 a6 : ByteArray) (a7 a8 a9 : Int) (x3 x4 x5 x6 : ByteArray) (fi : Int) (v2 : ByteArray) (n : Int)
    (hc0 : ∀ w, Calls Tryd.prog 12 #[.agg (ten 7 a1 a2 a3 a4 a5 a6 a7 a8 a9)] w fun e w' => e = .returned (.agg (ten 7 a1 a2 x3 x4 x5 x6 a7 a8 a9)) ∧ Below w.heap.size w w')
    (hX : event_Right.f 7 a1 a2 x3 x4 x5 x6 a7 a8 a9 = some true) (w : World) (hG : Glob w)
    (hs : ByteArray) (hhas : hasL[7]? = some hs) (hsz : hs.size ≤ 7)
    (n2 : Nat) (s : ByteArray) (hm2 : (if 100 < (v2.size : Int) then 100 else (v2.size : Int)) = (n2 : Int)) (h2 : n2 ≤ v2.size) (hss : v2.extract 0 n2 = s) (hz2 : v2.size ≤ 140737488351232)
    (I : Int) (hI : Go.bits .and .i64 fi 65535 = I) (hI0 : 0 ≤ I) (hJ : I % 7 = 6) (rr : Bool) (hR : event_Right.f 7 a1 a2 x3 x4 x5 x6 a7 a8 n = some rr)
    (hfin : (rr == (decide (n = 0) || (hasN hs 90 hs.size && decide (0 < n) && decide (n ≤ 2)))) = true) :
    Calls Tryd.prog 8 #[.agg (ten 7 a1 a2 a3 a4 a5 a6 a7 a8 a9), .int .i64 fi, .string v2, .int .i64 n] w fun e w' => e = .returned (.bool true) ∧ Below w.heap.size w w' := by
  have HG := Aside0.mk hG
  have HC0 := Aside0.mk hc0
  have HX := Aside0.mk hX
  clear hG hc0 hX
  have HR := Aside0.mk hR
  have HFIN := Aside0.mk hfin
  have HHAS := Aside0.mk hhas
  clear hR hfin hhas
  go_enter Tryd.func8, Tryd.ntmps8
  go_upto_region 1 with (fail)
  obtain ⟨g, hg⟩ : ∃ g, g = w.heap.size := ⟨_, rfl⟩
  obtain ⟨W1, hW1⟩ : ∃ W, W = w.alloc (.cells (ten 7 a1 a2 a3 a4 a5 a6 a7 a8 a9) 24) := ⟨_, rfl⟩
  rw [← hW1, ← hg]
  have A := Aside0.mk (show Box w W1 g (ten 7 a1 a2 a3 a4 a5 a6 a7 a8 a9) by rw [hW1, hg]; exact Box.new (Nat.le_refl _) _)
  have D := Aside0.mk (show Below w.heap.size w W1 by rw [hW1]; exact below_alloc (Below.refl _ _) _)
  clear hW1 hg
  go_upto_if 22 with (first | ((with_reducible refine gate_dst (N := 17) rfl ?_); (with_reducible refine gate_callee (f := 11) rfl ?_); refine goesL_ (some 17) rfl rfl Tryd.func11 (by kernel_rfl) rfl #[] rfl (by (try simp only [List.map_toArray, List.map_cons, List.map_nil]); first | done | rfl) ?_; refine (transeptlaw05_shown.calls true _ (HG.out.below D.out) rfl).mono ?_; rintro e wz_ ⟨rfl, hb⟩; refine ⟨_, rfl, ?_⟩; have n0_ := Aside0.mk (below_step D.out hb); have n1_ := Aside0.mk (A.out.then_ hb); clear D; clear A; have D := n0_; have A := n1_; clear n0_ n1_; clear hb) | ((with_reducible refine gate_dst (N := 18) rfl ?_); refine wpList_load_row ?hgd_18 24 (.tmp 4) ?ho_18 g ?hx_18 ?t_18 ?cs_18 ?fr_18 ?d_18 ?hg_18 ?hu_18 ?hd_18 ?hi_18 ?_; (case hgd_18 => rfl); (case ho_18 => rfl); (case hx_18 => rfl); (case hg_18 => exact A.out.blk); (case hu_18 => exact Tryd.underlying24); (case hd_18 => rfl); (case hi_18 => exact size24)) | ((with_reducible refine gate_dst (N := 20) rfl ?_); refine wpList_load_row ?hgd_20 24 (.tmp 4) ?ho_20 g ?hx_20 ?t_20 ?cs_20 ?fr_20 ?d_20 ?hg_20 ?hu_20 ?hd_20 ?hi_20 ?_; (case hgd_20 => rfl); (case ho_20 => rfl); (case hx_20 => rfl); (case hg_20 => exact A.out.blk); (case hu_20 => exact Tryd.underlying24); (case hd_20 => rfl); (case hi_20 => exact size24)) | ((with_reducible refine gate_dst (N := 19) rfl ?_); (with_reducible refine gate_callee (f := 12) rfl ?_); refine goesL_ (some 19) rfl rfl Tryd.func12 (by kernel_rfl) rfl #[.agg (ten 7 a1 a2 a3 a4 a5 a6 a7 a8 a9)] rfl (by (try simp only [List.map_toArray, List.map_cons, List.map_nil]); first | done | rfl) ?_; refine (HC0.out _).mono ?_; rintro e wz_ ⟨rfl, hb⟩; refine ⟨_, rfl, ?_⟩; have n0_ := Aside0.mk (below_step D.out hb); have n1_ := Aside0.mk (A.out.then_ hb); clear D; clear A; have D := n0_; have A := n1_; clear n0_ n1_; clear hb) | ((with_reducible refine gate_store (p := 4) rfl ?_); refine wpList_store_row ?hgd_s19 24 (.tmp 4) (.tmp 19) ?ho_s19 g (ten 7 a1 a2 x3 x4 x5 x6 a7 a8 a9) ?hx_s19 ?hy_s19 ?t_s19 ?old_s19 ?hg_s19 ?hi_s19 ?hold_s19 ?h1_s19 ?_; (case hgd_s19 => rfl); (case ho_s19 => rfl); (case hx_s19 => rfl); (case hy_s19 => rfl); (case hg_s19 => exact A.out.blk); (case hi_s19 => exact size24); (case hold_s19 => rfl); (case h1_s19 => exact ten_one _ _ _ _ _ _ _ _ _ _); have n0_ := Aside0.mk (setRow_below D.out A.out.base (ten 7 a1 a2 x3 x4 x5 x6 a7 a8 a9)); have n1_ := Aside0.mk (Box.row A.out (ten 7 a1 a2 x3 x4 x5 x6 a7 a8 a9)); clear D; clear A; have D := n0_; have A := n1_; clear n0_ n1_) | ((with_reducible refine gate_dst (N := 21) rfl ?_); (with_reducible refine gate_callee (f := 15) rfl ?_); refine goesL_ (some 21) rfl rfl Tryd.func15 (by kernel_rfl) rfl #[.agg (ten 7 a1 a2 x3 x4 x5 x6 a7 a8 a9)] rfl (by (try simp only [List.map_toArray, List.map_cons, List.map_nil]); first | done | rfl) ?_; refine (event_Right.calls 7 a1 a2 x3 x4 x5 x6 a7 a8 a9 true _ (HG.out.below D.out) HX.out).mono ?_; rintro e wz_ ⟨rfl, hb⟩; refine ⟨_, rfl, ?_⟩; have n0_ := Aside0.mk (below_step D.out hb); have n1_ := Aside0.mk (A.out.then_ hb); clear D; clear A; have D := n0_; have A := n1_; clear n0_ n1_; clear hb))
  go_upto_region 6 with (fail)
  clear hm2 h2 hss
  have e0 : ∀ o, (wz_.alloc o).cell? ⟨g, 0, none⟩ = some (.int .i64 7) := fun o => (A.out.alloc o).read.1
  have e1 : (wz_.alloc (.cells (hasL.map Value.string).toArray 9)).cell? ⟨wz_.heap.size, 7, none⟩ = some (.string hs) := by
    rw [cell_of_row _ _ _ _ _ _ (heap_alloc_new wz_ _)]
    simp only [List.getElem?_toArray, List.getElem?_map, HHAS.out, Option.map_some]
  simp only [hasL, List.map_cons, List.map_nil] at e1
  go_upto_region 7 with (fail)
  obtain ⟨W2, hW2⟩ : ∃ W, W = wz_.alloc (.cells (hasL.map Value.string).toArray 9) := ⟨_, rfl⟩
  have A' := Aside0.mk (show Box w W2 g (ten 7 a1 a2 x3 x4 x5 x6 a7 a8 a9) by rw [hW2]; exact A.out.alloc _)
  have D' := Aside0.mk (show Below w.heap.size w W2 by rw [hW2]; exact below_alloc D.out _)
  simp only [hasL, List.map_cons, List.map_nil] at hW2
  rw [← hW2]
  clear A D hW2 e0 e1
  have A := A'
  have D := D'
  clear A' D'
  obtain ⟨c0, c1, c2, c3, c4, c5, c6, c7, c8, c9⟩ := A.out.read
  go_upto_region 13 with (fail)
  clear c0 c1 c2 c3 c4 c5 c6 c7 c8 c9
  obtain ⟨h, hh⟩ : ∃ h, h = W2.heap.size := ⟨_, rfl⟩
  obtain ⟨W3, hW3⟩ : ∃ W, W = W2.alloc (.cells (ten 7 a1 a2 x3 x4 x5 x6 a7 a8 a9) 24) := ⟨_, rfl⟩
  rw [← hW3, ← hh]
  have B := Aside0.mk (show Box w W3 h (ten 7 a1 a2 x3 x4 x5 x6 a7 a8 a9) by rw [hW3, hh]; exact Box.fresh D.out _)
  have D' := Aside0.mk (show Below w.heap.size w W3 by rw [hW3]; exact below_alloc D.out _)
  clear A D hW3 hh
  have D := D'
  clear D'
  obtain ⟨o0, o1, o2, o3, o4, o5, o6, o7, o8, o9⟩ := B.out.free
  obtain ⟨c0, c1, c2, c3, c4, c5, c6, c7, c8, c9⟩ := B.out.read
  go_upto_region 30 with (fail)
  clear o0 o1 o2 o3 o4 o5 o6 o7 o8 o9 c0 c1 c2 c3 c4 c5 c6 c7 c8 c9
  obtain ⟨W4, hW4⟩ : ∃ W, W = W3.setCell ⟨h, 9, none⟩ (.int .i64 n) := ⟨_, rfl⟩
  rw [← hW4]
  have B' := Aside0.mk (show Box w W4 h (ten 7 a1 a2 x3 x4 x5 x6 a7 a8 n) by rw [hW4]; exact ⟨B.out.base, blk_put B.out.blk 9 _ rfl⟩)
  have D' := Aside0.mk (show Below w.heap.size w W4 by rw [hW4]; exact D.out.setCell B.out.base _)
  clear B D hW4
  have B := B'
  have D := D'
  have HJ := Aside0.mk hJ
  clear B' D' hI hI0
  go_wp2_with (fail)
  go_loopg [15, 16] hs.size (fun m v15 v16 wc => ∃ i : Nat, v16 = .int .i64 i ∧ i + m = hs.size ∧ v15 = .bool (hasN hs 90 i) ∧ ∃ d, wc = W4.drewN d)
  case atStart => exact ⟨0, rfl, by simp, rfl, 0, rfl⟩
  case round =>
    obtain ⟨i, rfl, hm, rfl, d, rfl⟩ := hrel
    obtain ⟨b, hb⟩ : ∃ b, hasN hs 90 i = b := ⟨_, rfl⟩
    rw [hb]
    by_cases hi : i < hs.size
    · have hn := Aside0.mk (hasN_succ hs 90 i hi)
      have HB := Aside0.mk hb
      clear hb
      have hfi : I % 7 = 6 := HJ.out
      cases b
      · go_upto_region 34 with (fail)
        go_quiet (fail)
        go_wp2
        go_roundg (gk - 1)
        case measure => omega
        case rel => exact ⟨i + 1, by go_num, by omega, by rw [hn.out, HB.out, Bool.false_or]; exact byte_beq _ _, d + nq, rfl⟩
      · go_upto_region 34 with (fail)
        go_quiet (fail)
        go_wp2
        go_roundg (gk - 1)
        case measure => omega
        case rel => exact ⟨i + 1, by go_num, by omega, by rw [hn.out, HB.out, Bool.true_or], d + nq, rfl⟩
    · obtain rfl : i = hs.size := by omega
      have HF := HFIN.out
      rw [hb] at HF
      have B1 := Aside0.mk (B.out.drewN d)
      have D1 := Aside0.mk (pw_below_drewN D.out d)
      obtain ⟨c0, c1, c2, c3, c4, c5, c6, c7, c8, c9⟩ := B1.out.read
      clear hb B D
      go_wp2_with (fail)
      refine (event_Right.calls 7 a1 a2 x3 x4 x5 x6 a7 a8 n rr _ (HG.out.below D1.out) HR.out).mono ?_
      rintro e wz2 ⟨rfl, hb⟩
      have D2 := Aside0.mk (below_step D1.out hb)
      clear hb c0 c1 c2 c3 c4 c5 c6 c7 c8 c9 B1 D1
      by_cases n0 : n = 0
      · subst n0
        obtain rfl : rr = true := by revert HF; cases rr <;> simp
        clear HF
        go_wp2
        go_ret
        exact ⟨rfl, D2.out⟩
      · have n1 : (n == 0) = false := by rw [beq_eq_false_iff_ne]; exact n0
        rw [decide_eq_false n0] at HF
        cases b
        · obtain rfl : rr = false := by revert HF; cases rr <;> simp
          clear HF
          go_wp2
          go_ret
          exact ⟨rfl, D2.out⟩
        · by_cases np : 0 < n
          · by_cases nm : n ≤ 2
            · rw [decide_eq_true np, decide_eq_true nm] at HF
              obtain rfl : rr = true := by revert HF; cases rr <;> simp
              clear HF
              go_wp2
              go_ret
              exact ⟨rfl, D2.out⟩
            · rw [decide_eq_true np, decide_eq_false nm] at HF
              obtain rfl : rr = false := by revert HF; cases rr <;> simp
              have nm' : 2 < n := by omega
              have nd : decide (n ≤ 2) = false := decide_eq_false nm
              clear HF
              go_wp2
              go_ret
              exact ⟨rfl, D2.out⟩
          · rw [decide_eq_false np] at HF
            obtain rfl : rr = false := by revert HF; cases rr <;> simp
            have nd : decide (0 < n) = false := decide_eq_false np
            clear HF
            go_wp2
            go_ret
            exact ⟨rfl, D2.out⟩
set_option maxHeartbeats 4000000 in
set_option maxRecDepth 100000 in
theorem fields_yes6_10 (a1 a2 : Int) (a3 a4 a5 a6 : ByteArray) (a7 a8 a9 : Int) (x3 x4 x5 x6 : ByteArray) (fi : Int) (v2 : ByteArray) (n : Int)
    (hc0 : ∀ w, Calls Tryd.prog 12 #[.agg (ten 10 a1 a2 a3 a4 a5 a6 a7 a8 a9)] w fun e w' => e = .returned (.agg (ten 10 a1 a2 x3 x4 x5 x6 a7 a8 a9)) ∧ Below w.heap.size w w')
    (hX : event_Right.f 10 a1 a2 x3 x4 x5 x6 a7 a8 a9 = some true) (w : World) (hG : Glob w)
    (hs : ByteArray) (hhas : hasL[10]? = some hs) (hsz : hs.size ≤ 7)
    (n2 : Nat) (s : ByteArray) (hm2 : (if 100 < (v2.size : Int) then 100 else (v2.size : Int)) = (n2 : Int)) (h2 : n2 ≤ v2.size) (hss : v2.extract 0 n2 = s) (hz2 : v2.size ≤ 140737488351232)
    (I : Int) (hI : Go.bits .and .i64 fi 65535 = I) (hI0 : 0 ≤ I) (hJ : I % 7 = 6) (rr : Bool) (hR : event_Right.f 10 a1 a2 x3 x4 x5 x6 a7 a8 n = some rr)
    (hfin : (rr == (decide (n = 0) || (hasN hs 90 hs.size && decide (0 < n) && decide (n ≤ 2)))) = true) :
    Calls Tryd.prog 8 #[.agg (ten 10 a1 a2 a3 a4 a5 a6 a7 a8 a9), .int .i64 fi, .string v2, .int .i64 n] w fun e w' => e = .returned (.bool true) ∧ Below w.heap.size w w' := by
  have HG := Aside0.mk hG
  have HC0 := Aside0.mk hc0
  have HX := Aside0.mk hX
  clear hG hc0 hX
  have HR := Aside0.mk hR
  have HFIN := Aside0.mk hfin
  have HHAS := Aside0.mk hhas
  clear hR hfin hhas
  go_enter Tryd.func8, Tryd.ntmps8
  go_upto_region 1 with (fail)
  obtain ⟨g, hg⟩ : ∃ g, g = w.heap.size := ⟨_, rfl⟩
  obtain ⟨W1, hW1⟩ : ∃ W, W = w.alloc (.cells (ten 10 a1 a2 a3 a4 a5 a6 a7 a8 a9) 24) := ⟨_, rfl⟩
  rw [← hW1, ← hg]
  have A := Aside0.mk (show Box w W1 g (ten 10 a1 a2 a3 a4 a5 a6 a7 a8 a9) by rw [hW1, hg]; exact Box.new (Nat.le_refl _) _)
  have D := Aside0.mk (show Below w.heap.size w W1 by rw [hW1]; exact below_alloc (Below.refl _ _) _)
  clear hW1 hg
  go_upto_if 22 with (first | ((with_reducible refine gate_dst (N := 17) rfl ?_); (with_reducible refine gate_callee (f := 11) rfl ?_); refine goesL_ (some 17) rfl rfl Tryd.func11 (by kernel_rfl) rfl #[] rfl (by (try simp only [List.map_toArray, List.map_cons, List.map_nil]); first | done | rfl) ?_; refine (transeptlaw05_shown.calls true _ (HG.out.below D.out) rfl).mono ?_; rintro e wz_ ⟨rfl, hb⟩; refine ⟨_, rfl, ?_⟩; have n0_ := Aside0.mk (below_step D.out hb); have n1_ := Aside0.mk (A.out.then_ hb); clear D; clear A; have D := n0_; have A := n1_; clear n0_ n1_; clear hb) | ((with_reducible refine gate_dst (N := 18) rfl ?_); refine wpList_load_row ?hgd_18 24 (.tmp 4) ?ho_18 g ?hx_18 ?t_18 ?cs_18 ?fr_18 ?d_18 ?hg_18 ?hu_18 ?hd_18 ?hi_18 ?_; (case hgd_18 => rfl); (case ho_18 => rfl); (case hx_18 => rfl); (case hg_18 => exact A.out.blk); (case hu_18 => exact Tryd.underlying24); (case hd_18 => rfl); (case hi_18 => exact size24)) | ((with_reducible refine gate_dst (N := 20) rfl ?_); refine wpList_load_row ?hgd_20 24 (.tmp 4) ?ho_20 g ?hx_20 ?t_20 ?cs_20 ?fr_20 ?d_20 ?hg_20 ?hu_20 ?hd_20 ?hi_20 ?_; (case hgd_20 => rfl); (case ho_20 => rfl); (case hx_20 => rfl); (case hg_20 => exact A.out.blk); (case hu_20 => exact Tryd.underlying24); (case hd_20 => rfl); (case hi_20 => exact size24)) | ((with_reducible refine gate_dst (N := 19) rfl ?_); (with_reducible refine gate_callee (f := 12) rfl ?_); refine goesL_ (some 19) rfl rfl Tryd.func12 (by kernel_rfl) rfl #[.agg (ten 10 a1 a2 a3 a4 a5 a6 a7 a8 a9)] rfl (by (try simp only [List.map_toArray, List.map_cons, List.map_nil]); first | done | rfl) ?_; refine (HC0.out _).mono ?_; rintro e wz_ ⟨rfl, hb⟩; refine ⟨_, rfl, ?_⟩; have n0_ := Aside0.mk (below_step D.out hb); have n1_ := Aside0.mk (A.out.then_ hb); clear D; clear A; have D := n0_; have A := n1_; clear n0_ n1_; clear hb) | ((with_reducible refine gate_store (p := 4) rfl ?_); refine wpList_store_row ?hgd_s19 24 (.tmp 4) (.tmp 19) ?ho_s19 g (ten 10 a1 a2 x3 x4 x5 x6 a7 a8 a9) ?hx_s19 ?hy_s19 ?t_s19 ?old_s19 ?hg_s19 ?hi_s19 ?hold_s19 ?h1_s19 ?_; (case hgd_s19 => rfl); (case ho_s19 => rfl); (case hx_s19 => rfl); (case hy_s19 => rfl); (case hg_s19 => exact A.out.blk); (case hi_s19 => exact size24); (case hold_s19 => rfl); (case h1_s19 => exact ten_one _ _ _ _ _ _ _ _ _ _); have n0_ := Aside0.mk (setRow_below D.out A.out.base (ten 10 a1 a2 x3 x4 x5 x6 a7 a8 a9)); have n1_ := Aside0.mk (Box.row A.out (ten 10 a1 a2 x3 x4 x5 x6 a7 a8 a9)); clear D; clear A; have D := n0_; have A := n1_; clear n0_ n1_) | ((with_reducible refine gate_dst (N := 21) rfl ?_); (with_reducible refine gate_callee (f := 15) rfl ?_); refine goesL_ (some 21) rfl rfl Tryd.func15 (by kernel_rfl) rfl #[.agg (ten 10 a1 a2 x3 x4 x5 x6 a7 a8 a9)] rfl (by (try simp only [List.map_toArray, List.map_cons, List.map_nil]); first | done | rfl) ?_; refine (event_Right.calls 10 a1 a2 x3 x4 x5 x6 a7 a8 a9 true _ (HG.out.below D.out) HX.out).mono ?_; rintro e wz_ ⟨rfl, hb⟩; refine ⟨_, rfl, ?_⟩; have n0_ := Aside0.mk (below_step D.out hb); have n1_ := Aside0.mk (A.out.then_ hb); clear D; clear A; have D := n0_; have A := n1_; clear n0_ n1_; clear hb))
  go_upto_region 6 with (fail)
  clear hm2 h2 hss
  have e0 : ∀ o, (wz_.alloc o).cell? ⟨g, 0, none⟩ = some (.int .i64 10) := fun o => (A.out.alloc o).read.1
  have e1 : (wz_.alloc (.cells (hasL.map Value.string).toArray 9)).cell? ⟨wz_.heap.size, 10, none⟩ = some (.string hs) := by
    rw [cell_of_row _ _ _ _ _ _ (heap_alloc_new wz_ _)]
    simp only [List.getElem?_toArray, List.getElem?_map, HHAS.out, Option.map_some]
  simp only [hasL, List.map_cons, List.map_nil] at e1
  go_upto_region 7 with (fail)
  obtain ⟨W2, hW2⟩ : ∃ W, W = wz_.alloc (.cells (hasL.map Value.string).toArray 9) := ⟨_, rfl⟩
  have A' := Aside0.mk (show Box w W2 g (ten 10 a1 a2 x3 x4 x5 x6 a7 a8 a9) by rw [hW2]; exact A.out.alloc _)
  have D' := Aside0.mk (show Below w.heap.size w W2 by rw [hW2]; exact below_alloc D.out _)
  simp only [hasL, List.map_cons, List.map_nil] at hW2
  rw [← hW2]
  clear A D hW2 e0 e1
  have A := A'
  have D := D'
  clear A' D'
  obtain ⟨c0, c1, c2, c3, c4, c5, c6, c7, c8, c9⟩ := A.out.read
  go_upto_region 13 with (fail)
  clear c0 c1 c2 c3 c4 c5 c6 c7 c8 c9
  obtain ⟨h, hh⟩ : ∃ h, h = W2.heap.size := ⟨_, rfl⟩
  obtain ⟨W3, hW3⟩ : ∃ W, W = W2.alloc (.cells (ten 10 a1 a2 x3 x4 x5 x6 a7 a8 a9) 24) := ⟨_, rfl⟩
  rw [← hW3, ← hh]
  have B := Aside0.mk (show Box w W3 h (ten 10 a1 a2 x3 x4 x5 x6 a7 a8 a9) by rw [hW3, hh]; exact Box.fresh D.out _)
  have D' := Aside0.mk (show Below w.heap.size w W3 by rw [hW3]; exact below_alloc D.out _)
  clear A D hW3 hh
  have D := D'
  clear D'
  obtain ⟨o0, o1, o2, o3, o4, o5, o6, o7, o8, o9⟩ := B.out.free
  obtain ⟨c0, c1, c2, c3, c4, c5, c6, c7, c8, c9⟩ := B.out.read
  go_upto_region 30 with (fail)
  clear o0 o1 o2 o3 o4 o5 o6 o7 o8 o9 c0 c1 c2 c3 c4 c5 c6 c7 c8 c9
  obtain ⟨W4, hW4⟩ : ∃ W, W = W3.setCell ⟨h, 9, none⟩ (.int .i64 n) := ⟨_, rfl⟩
  rw [← hW4]
  have B' := Aside0.mk (show Box w W4 h (ten 10 a1 a2 x3 x4 x5 x6 a7 a8 n) by rw [hW4]; exact ⟨B.out.base, blk_put B.out.blk 9 _ rfl⟩)
  have D' := Aside0.mk (show Below w.heap.size w W4 by rw [hW4]; exact D.out.setCell B.out.base _)
  clear B D hW4
  have B := B'
  have D := D'
  have HJ := Aside0.mk hJ
  clear B' D' hI hI0
  go_wp2_with (fail)
  go_loopg [15, 16] hs.size (fun m v15 v16 wc => ∃ i : Nat, v16 = .int .i64 i ∧ i + m = hs.size ∧ v15 = .bool (hasN hs 90 i) ∧ ∃ d, wc = W4.drewN d)
  case atStart => exact ⟨0, rfl, by simp, rfl, 0, rfl⟩
  case round =>
    obtain ⟨i, rfl, hm, rfl, d, rfl⟩ := hrel
    obtain ⟨b, hb⟩ : ∃ b, hasN hs 90 i = b := ⟨_, rfl⟩
    rw [hb]
    by_cases hi : i < hs.size
    · have hn := Aside0.mk (hasN_succ hs 90 i hi)
      have HB := Aside0.mk hb
      clear hb
      have hfi : I % 7 = 6 := HJ.out
      cases b
      · go_upto_region 34 with (fail)
        go_quiet (fail)
        go_wp2
        go_roundg (gk - 1)
        case measure => omega
        case rel => exact ⟨i + 1, by go_num, by omega, by rw [hn.out, HB.out, Bool.false_or]; exact byte_beq _ _, d + nq, rfl⟩
      · go_upto_region 34 with (fail)
        go_quiet (fail)
        go_wp2
        go_roundg (gk - 1)
        case measure => omega
        case rel => exact ⟨i + 1, by go_num, by omega, by rw [hn.out, HB.out, Bool.true_or], d + nq, rfl⟩
    · obtain rfl : i = hs.size := by omega
      have HF := HFIN.out
      rw [hb] at HF
      have B1 := Aside0.mk (B.out.drewN d)
      have D1 := Aside0.mk (pw_below_drewN D.out d)
      obtain ⟨c0, c1, c2, c3, c4, c5, c6, c7, c8, c9⟩ := B1.out.read
      clear hb B D
      go_wp2_with (fail)
      refine (event_Right.calls 10 a1 a2 x3 x4 x5 x6 a7 a8 n rr _ (HG.out.below D1.out) HR.out).mono ?_
      rintro e wz2 ⟨rfl, hb⟩
      have D2 := Aside0.mk (below_step D1.out hb)
      clear hb c0 c1 c2 c3 c4 c5 c6 c7 c8 c9 B1 D1
      by_cases n0 : n = 0
      · subst n0
        obtain rfl : rr = true := by revert HF; cases rr <;> simp
        clear HF
        go_wp2
        go_ret
        exact ⟨rfl, D2.out⟩
      · have n1 : (n == 0) = false := by rw [beq_eq_false_iff_ne]; exact n0
        rw [decide_eq_false n0] at HF
        cases b
        · obtain rfl : rr = false := by revert HF; cases rr <;> simp
          clear HF
          go_wp2
          go_ret
          exact ⟨rfl, D2.out⟩
        · by_cases np : 0 < n
          · by_cases nm : n ≤ 2
            · rw [decide_eq_true np, decide_eq_true nm] at HF
              obtain rfl : rr = true := by revert HF; cases rr <;> simp
              clear HF
              go_wp2
              go_ret
              exact ⟨rfl, D2.out⟩
            · rw [decide_eq_true np, decide_eq_false nm] at HF
              obtain rfl : rr = false := by revert HF; cases rr <;> simp
              have nm' : 2 < n := by omega
              have nd : decide (n ≤ 2) = false := decide_eq_false nm
              clear HF
              go_wp2
              go_ret
              exact ⟨rfl, D2.out⟩
          · rw [decide_eq_false np] at HF
            obtain rfl : rr = false := by revert HF; cases rr <;> simp
            have nd : decide (0 < n) = false := decide_eq_false np
            clear HF
            go_wp2
            go_ret
            exact ⟨rfl, D2.out⟩
set_option maxHeartbeats 4000000 in
set_option maxRecDepth 100000 in
theorem fields_yes6_o (K : Nat) (a1 a2 : Int) (a3 a4 a5 a6 : ByteArray) (a7 a8 a9 : Int) (x3 x4 x5 x6 : ByteArray) (fi : Int) (v2 : ByteArray) (n : Int)
    (hc0 : ∀ w, Calls Tryd.prog 12 #[.agg (ten (K : Int) a1 a2 a3 a4 a5 a6 a7 a8 a9)] w fun e w' => e = .returned (.agg (ten (K : Int) a1 a2 x3 x4 x5 x6 a7 a8 a9)) ∧ Below w.heap.size w w')
    (hX : event_Right.f (K : Int) a1 a2 x3 x4 x5 x6 a7 a8 a9 = some true) (w : World) (hG : Glob w)
    (hK1 : 1 ≤ K) (hK2 : K ≤ 14) (hK7 : ((K : Int) == 7) = false) (hK10 : ((K : Int) == 10) = false) (hs : ByteArray) (hhas : hasL[K]? = some hs) (hsz : hs.size ≤ 7)
    (n2 : Nat) (s : ByteArray) (hm2 : (if 100 < (v2.size : Int) then 100 else (v2.size : Int)) = (n2 : Int)) (h2 : n2 ≤ v2.size) (hss : v2.extract 0 n2 = s) (hz2 : v2.size ≤ 140737488351232)
    (I : Int) (hI : Go.bits .and .i64 fi 65535 = I) (hI0 : 0 ≤ I) (hJ : I % 7 = 6) (rr : Bool) (hR : event_Right.f (K : Int) a1 a2 x3 x4 x5 x6 a7 a8 n = some rr)
    (hfin : (rr == (decide (n = 0) || (hasN hs 90 hs.size && decide (0 < n) && decide (n ≤ 2)))) = true) :
    Calls Tryd.prog 8 #[.agg (ten (K : Int) a1 a2 a3 a4 a5 a6 a7 a8 a9), .int .i64 fi, .string v2, .int .i64 n] w fun e w' => e = .returned (.bool true) ∧ Below w.heap.size w w' := by
  have HG := Aside0.mk hG
  have HC0 := Aside0.mk hc0
  have HX := Aside0.mk hX
  clear hG hc0 hX
  have HR := Aside0.mk hR
  have HFIN := Aside0.mk hfin
  have HHAS := Aside0.mk hhas
  clear hR hfin hhas
  go_enter Tryd.func8, Tryd.ntmps8
  go_upto_region 1 with (fail)
  obtain ⟨g, hg⟩ : ∃ g, g = w.heap.size := ⟨_, rfl⟩
  obtain ⟨W1, hW1⟩ : ∃ W, W = w.alloc (.cells (ten (K : Int) a1 a2 a3 a4 a5 a6 a7 a8 a9) 24) := ⟨_, rfl⟩
  rw [← hW1, ← hg]
  have A := Aside0.mk (show Box w W1 g (ten (K : Int) a1 a2 a3 a4 a5 a6 a7 a8 a9) by rw [hW1, hg]; exact Box.new (Nat.le_refl _) _)
  have D := Aside0.mk (show Below w.heap.size w W1 by rw [hW1]; exact below_alloc (Below.refl _ _) _)
  clear hW1 hg
  go_upto_if 22 with (first | ((with_reducible refine gate_dst (N := 17) rfl ?_); (with_reducible refine gate_callee (f := 11) rfl ?_); refine goesL_ (some 17) rfl rfl Tryd.func11 (by kernel_rfl) rfl #[] rfl (by (try simp only [List.map_toArray, List.map_cons, List.map_nil]); first | done | rfl) ?_; refine (transeptlaw05_shown.calls true _ (HG.out.below D.out) rfl).mono ?_; rintro e wz_ ⟨rfl, hb⟩; refine ⟨_, rfl, ?_⟩; have n0_ := Aside0.mk (below_step D.out hb); have n1_ := Aside0.mk (A.out.then_ hb); clear D; clear A; have D := n0_; have A := n1_; clear n0_ n1_; clear hb) | ((with_reducible refine gate_dst (N := 18) rfl ?_); refine wpList_load_row ?hgd_18 24 (.tmp 4) ?ho_18 g ?hx_18 ?t_18 ?cs_18 ?fr_18 ?d_18 ?hg_18 ?hu_18 ?hd_18 ?hi_18 ?_; (case hgd_18 => rfl); (case ho_18 => rfl); (case hx_18 => rfl); (case hg_18 => exact A.out.blk); (case hu_18 => exact Tryd.underlying24); (case hd_18 => rfl); (case hi_18 => exact size24)) | ((with_reducible refine gate_dst (N := 20) rfl ?_); refine wpList_load_row ?hgd_20 24 (.tmp 4) ?ho_20 g ?hx_20 ?t_20 ?cs_20 ?fr_20 ?d_20 ?hg_20 ?hu_20 ?hd_20 ?hi_20 ?_; (case hgd_20 => rfl); (case ho_20 => rfl); (case hx_20 => rfl); (case hg_20 => exact A.out.blk); (case hu_20 => exact Tryd.underlying24); (case hd_20 => rfl); (case hi_20 => exact size24)) | ((with_reducible refine gate_dst (N := 19) rfl ?_); (with_reducible refine gate_callee (f := 12) rfl ?_); refine goesL_ (some 19) rfl rfl Tryd.func12 (by kernel_rfl) rfl #[.agg (ten (K : Int) a1 a2 a3 a4 a5 a6 a7 a8 a9)] rfl (by (try simp only [List.map_toArray, List.map_cons, List.map_nil]); first | done | rfl) ?_; refine (HC0.out _).mono ?_; rintro e wz_ ⟨rfl, hb⟩; refine ⟨_, rfl, ?_⟩; have n0_ := Aside0.mk (below_step D.out hb); have n1_ := Aside0.mk (A.out.then_ hb); clear D; clear A; have D := n0_; have A := n1_; clear n0_ n1_; clear hb) | ((with_reducible refine gate_store (p := 4) rfl ?_); refine wpList_store_row ?hgd_s19 24 (.tmp 4) (.tmp 19) ?ho_s19 g (ten (K : Int) a1 a2 x3 x4 x5 x6 a7 a8 a9) ?hx_s19 ?hy_s19 ?t_s19 ?old_s19 ?hg_s19 ?hi_s19 ?hold_s19 ?h1_s19 ?_; (case hgd_s19 => rfl); (case ho_s19 => rfl); (case hx_s19 => rfl); (case hy_s19 => rfl); (case hg_s19 => exact A.out.blk); (case hi_s19 => exact size24); (case hold_s19 => rfl); (case h1_s19 => exact ten_one _ _ _ _ _ _ _ _ _ _); have n0_ := Aside0.mk (setRow_below D.out A.out.base (ten (K : Int) a1 a2 x3 x4 x5 x6 a7 a8 a9)); have n1_ := Aside0.mk (Box.row A.out (ten (K : Int) a1 a2 x3 x4 x5 x6 a7 a8 a9)); clear D; clear A; have D := n0_; have A := n1_; clear n0_ n1_) | ((with_reducible refine gate_dst (N := 21) rfl ?_); (with_reducible refine gate_callee (f := 15) rfl ?_); refine goesL_ (some 21) rfl rfl Tryd.func15 (by kernel_rfl) rfl #[.agg (ten (K : Int) a1 a2 x3 x4 x5 x6 a7 a8 a9)] rfl (by (try simp only [List.map_toArray, List.map_cons, List.map_nil]); first | done | rfl) ?_; refine (event_Right.calls (K : Int) a1 a2 x3 x4 x5 x6 a7 a8 a9 true _ (HG.out.below D.out) HX.out).mono ?_; rintro e wz_ ⟨rfl, hb⟩; refine ⟨_, rfl, ?_⟩; have n0_ := Aside0.mk (below_step D.out hb); have n1_ := Aside0.mk (A.out.then_ hb); clear D; clear A; have D := n0_; have A := n1_; clear n0_ n1_; clear hb))
  go_upto_region 6 with (fail)
  clear hm2 h2 hss
  have e0 : ∀ o, (wz_.alloc o).cell? ⟨g, 0, none⟩ = some (.int .i64 (K : Int)) := fun o => (A.out.alloc o).read.1
  have e1 : (wz_.alloc (.cells (hasL.map Value.string).toArray 9)).cell? ⟨wz_.heap.size, K, none⟩ = some (.string hs) := by
    rw [cell_of_row _ _ _ _ _ _ (heap_alloc_new wz_ _)]
    simp only [List.getElem?_toArray, List.getElem?_map, HHAS.out, Option.map_some]
  simp only [hasL, List.map_cons, List.map_nil] at e1
  go_upto_region 7 with (fail)
  obtain ⟨W2, hW2⟩ : ∃ W, W = wz_.alloc (.cells (hasL.map Value.string).toArray 9) := ⟨_, rfl⟩
  have A' := Aside0.mk (show Box w W2 g (ten (K : Int) a1 a2 x3 x4 x5 x6 a7 a8 a9) by rw [hW2]; exact A.out.alloc _)
  have D' := Aside0.mk (show Below w.heap.size w W2 by rw [hW2]; exact below_alloc D.out _)
  simp only [hasL, List.map_cons, List.map_nil] at hW2
  rw [← hW2]
  clear A D hW2 e0 e1
  have A := A'
  have D := D'
  clear A' D'
  obtain ⟨c0, c1, c2, c3, c4, c5, c6, c7, c8, c9⟩ := A.out.read
  go_upto_region 13 with (fail)
  clear c0 c1 c2 c3 c4 c5 c6 c7 c8 c9
  obtain ⟨h, hh⟩ : ∃ h, h = W2.heap.size := ⟨_, rfl⟩
  obtain ⟨W3, hW3⟩ : ∃ W, W = W2.alloc (.cells (ten (K : Int) a1 a2 x3 x4 x5 x6 a7 a8 a9) 24) := ⟨_, rfl⟩
  rw [← hW3, ← hh]
  have B := Aside0.mk (show Box w W3 h (ten (K : Int) a1 a2 x3 x4 x5 x6 a7 a8 a9) by rw [hW3, hh]; exact Box.fresh D.out _)
  have D' := Aside0.mk (show Below w.heap.size w W3 by rw [hW3]; exact below_alloc D.out _)
  clear A D hW3 hh
  have D := D'
  clear D'
  obtain ⟨o0, o1, o2, o3, o4, o5, o6, o7, o8, o9⟩ := B.out.free
  obtain ⟨c0, c1, c2, c3, c4, c5, c6, c7, c8, c9⟩ := B.out.read
  go_upto_region 30 with (fail)
  clear o0 o1 o2 o3 o4 o5 o6 o7 o8 o9 c0 c1 c2 c3 c4 c5 c6 c7 c8 c9
  obtain ⟨W4, hW4⟩ : ∃ W, W = W3.setCell ⟨h, 9, none⟩ (.int .i64 n) := ⟨_, rfl⟩
  rw [← hW4]
  have B' := Aside0.mk (show Box w W4 h (ten (K : Int) a1 a2 x3 x4 x5 x6 a7 a8 n) by rw [hW4]; exact ⟨B.out.base, blk_put B.out.blk 9 _ rfl⟩)
  have D' := Aside0.mk (show Below w.heap.size w W4 by rw [hW4]; exact D.out.setCell B.out.base _)
  clear B D hW4
  have B := B'
  have D := D'
  have HJ := Aside0.mk hJ
  clear B' D' hI hI0
  go_wp2_with (fail)
  go_loopg [15, 16] hs.size (fun m v15 v16 wc => ∃ i : Nat, v16 = .int .i64 i ∧ i + m = hs.size ∧ v15 = .bool (hasN hs 90 i) ∧ ∃ d, wc = W4.drewN d)
  case atStart => exact ⟨0, rfl, by simp, rfl, 0, rfl⟩
  case round =>
    obtain ⟨i, rfl, hm, rfl, d, rfl⟩ := hrel
    obtain ⟨b, hb⟩ : ∃ b, hasN hs 90 i = b := ⟨_, rfl⟩
    rw [hb]
    by_cases hi : i < hs.size
    · have hn := Aside0.mk (hasN_succ hs 90 i hi)
      have HB := Aside0.mk hb
      clear hb
      have hfi : I % 7 = 6 := HJ.out
      cases b
      · go_upto_region 34 with (fail)
        go_quiet (fail)
        go_wp2
        go_roundg (gk - 1)
        case measure => omega
        case rel => exact ⟨i + 1, by go_num, by omega, by rw [hn.out, HB.out, Bool.false_or]; exact byte_beq _ _, d + nq, rfl⟩
      · go_upto_region 34 with (fail)
        go_quiet (fail)
        go_wp2
        go_roundg (gk - 1)
        case measure => omega
        case rel => exact ⟨i + 1, by go_num, by omega, by rw [hn.out, HB.out, Bool.true_or], d + nq, rfl⟩
    · obtain rfl : i = hs.size := by omega
      have HF := HFIN.out
      rw [hb] at HF
      have B1 := Aside0.mk (B.out.drewN d)
      have D1 := Aside0.mk (pw_below_drewN D.out d)
      obtain ⟨c0, c1, c2, c3, c4, c5, c6, c7, c8, c9⟩ := B1.out.read
      clear hb B D
      go_wp2_with (fail)
      refine (event_Right.calls (K : Int) a1 a2 x3 x4 x5 x6 a7 a8 n rr _ (HG.out.below D1.out) HR.out).mono ?_
      rintro e wz2 ⟨rfl, hb⟩
      have D2 := Aside0.mk (below_step D1.out hb)
      clear hb c0 c1 c2 c3 c4 c5 c6 c7 c8 c9 B1 D1
      by_cases n0 : n = 0
      · subst n0
        obtain rfl : rr = true := by revert HF; cases rr <;> simp
        clear HF
        go_wp2
        go_ret
        exact ⟨rfl, D2.out⟩
      · have n1 : (n == 0) = false := by rw [beq_eq_false_iff_ne]; exact n0
        rw [decide_eq_false n0] at HF
        cases b
        · obtain rfl : rr = false := by revert HF; cases rr <;> simp
          clear HF
          go_wp2
          go_ret
          exact ⟨rfl, D2.out⟩
        · by_cases np : 0 < n
          · by_cases nm : n ≤ 2
            · rw [decide_eq_true np, decide_eq_true nm] at HF
              obtain rfl : rr = true := by revert HF; cases rr <;> simp
              clear HF
              go_wp2
              go_ret
              exact ⟨rfl, D2.out⟩
            · rw [decide_eq_true np, decide_eq_false nm] at HF
              obtain rfl : rr = false := by revert HF; cases rr <;> simp
              have nm' : 2 < n := by omega
              have nd : decide (n ≤ 2) = false := decide_eq_false nm
              clear HF
              go_wp2
              go_ret
              exact ⟨rfl, D2.out⟩
          · rw [decide_eq_false np] at HF
            obtain rfl : rr = false := by revert HF; cases rr <;> simp
            have nd : decide (0 < n) = false := decide_eq_false np
            clear HF
            go_wp2
            go_ret
            exact ⟨rfl, D2.out⟩
end Go.Proofs.YtmlhlcdamppbfaaDoor.Xa
