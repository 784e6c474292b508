-- Written by a program of this session (wip/tools/xprint.py), in the manner of the print of the kit.
import Derived.Test.YtanafhccflmdkaaDoorXax0
import Derived.Test.YtanafhccflmdkaaDoorXax7
namespace Go.Proofs.YtanafhccflmdkaaDoor.Xa
open Go.RowKit Go.Proofs.YtanafhccflmdkaaDoorW.PrintWords Go.Proofs.YtanafhccflmdkaaDoorW.PrintLast Go.Proofs.YtanafhccflmdkaaDoorW.PrintMore
attribute [local go_sem] max2_int min2_int max_two min_two max_three min_three max_four min_four   -- for this text's walks alone
set_option linter.unusedVariables false
set_option linter.unusedSimpArgs false

/-! ### transeptref03_below: function 30 -/
mutual
def transeptref03_below.j0 : Nat → Int → Int → List Int → Option (Bool)
  | 0, _, _, _ => none
  | k + 1, x1, x9, x129000 => transeptref03_below.l0 k x1 x9 0 false 0 x129000
def transeptref03_below.l0 : Nat → Int → Int → Int → Bool → Int → List Int → Option (Bool)
  | 0, _, _, _, _, _, _ => none
  | k + 1, x1, x9, x10, x11, x12, x129000 => if x12 < (x129000.length : Int) then (if x12 < x9 then (if x11 = true then (transeptref03_below.l0 k x1 x9 x10 true (wrap64 (x12 + 1)) x129000) else (if 0 ≤ x12 then (transeptref03_below.l0 k x1 x9 x10 (decide ((rd x129000 x12) > 0)) (wrap64 (x12 + 1)) x129000) else (none))) else (if x12 = x9 then (if 0 ≤ x12 then (transeptref03_below.l0 k x1 x9 (rd x129000 x12) x11 (wrap64 (x12 + 1)) x129000) else (none)) else (if 0 ≤ x12 then (if (rd x129000 x12) > 0 then (some false) else (transeptref03_below.l0 k x1 x9 x10 x11 (wrap64 (x12 + 1)) x129000)) else (none)))) else (if x10 < x1 then (some true) else (if x10 = x1 then (some (!x11)) else (some false)))
end
def transeptref03_below.f (k : Nat) (a0 : Int) (a1 : Int) (a2 : Bool) : Option (Bool) := (some (([Int.tmod a0 4294967296, IntKind.u64.wrap (Int.tdiv a0 4294967296)] : List Int) : List Int)).bind fun y121 => ((transeptref03_times.f k y121 y121).bind fun t125 => (if a2 = true then ((transeptref03_times.f k t125 y121).bind fun t129 => (transeptref03_below.j0 k a1 3 t129)) else (transeptref03_below.j0 k a1 2 t125)))
theorem transeptref03_below.mono_l : ∀ k, (∀ y0 y1 y2, LeO (transeptref03_below.j0 k y0 y1 y2) (transeptref03_below.j0 (k + 1) y0 y1 y2)) ∧ (∀ y0 y1 y2 y3 y4 y5, LeO (transeptref03_below.l0 k y0 y1 y2 y3 y4 y5) (transeptref03_below.l0 (k + 1) y0 y1 y2 y3 y4 y5))
  | 0 => ⟨fun _ _ _ r h => by simp [transeptref03_below.j0] at h, fun _ _ _ _ _ _ r h => by simp [transeptref03_below.l0] at h⟩
  | k + 1 => by
    obtain ⟨ih0, ih1⟩ := transeptref03_below.mono_l k
    refine ⟨?_, ?_⟩
    · intro y0 y1 y2
      unfold transeptref03_below.j0
      repeat' first
      | (with_reducible exact ih0 _ _ _)
      | (with_reducible exact ih1 _ _ _ _ _ _)
      | (with_reducible exact transeptref03_times.mono _ _ _)
      | (with_reducible exact LeO.refl _)
      | (with_reducible exact LeO.none _)
      | (with_reducible refine LeO.ite ?_ ?_)
      | (with_reducible refine LeO.bind ?_ (fun _ => ?_))
      | exact ih0 _ _ _
      | exact ih1 _ _ _ _ _ _
      | exact transeptref03_times.mono _ _ _
      | exact LeO.none _
      | refine LeO.ite ?_ ?_
      | refine LeO.bind ?_ (fun _ => ?_)
    · intro y0 y1 y2 y3 y4 y5
      unfold transeptref03_below.l0
      repeat' first
      | (with_reducible exact ih0 _ _ _)
      | (with_reducible exact ih1 _ _ _ _ _ _)
      | (with_reducible exact transeptref03_times.mono _ _ _)
      | (with_reducible exact LeO.refl _)
      | (with_reducible exact LeO.none _)
      | (with_reducible refine LeO.ite ?_ ?_)
      | (with_reducible refine LeO.bind ?_ (fun _ => ?_))
      | exact ih0 _ _ _
      | exact ih1 _ _ _ _ _ _
      | exact transeptref03_times.mono _ _ _
      | exact LeO.none _
      | refine LeO.ite ?_ ?_
      | refine LeO.bind ?_ (fun _ => ?_)
theorem transeptref03_below.mono : ∀ a0 a1 a2 k, LeO (transeptref03_below.f k a0 a1 a2) (transeptref03_below.f (k + 1) a0 a1 a2) := by
  intro a0 a1 a2 k
  obtain ⟨ih0, ih1⟩ := transeptref03_below.mono_l k
  unfold transeptref03_below.f
  repeat' first
      | (with_reducible exact ih0 _ _ _)
      | (with_reducible exact ih1 _ _ _ _ _ _)
      | (with_reducible exact transeptref03_times.mono _ _ _)
      | (with_reducible exact LeO.refl _)
      | (with_reducible exact LeO.none _)
      | (with_reducible refine LeO.ite ?_ ?_)
      | (with_reducible refine LeO.bind ?_ (fun _ => ?_))
      | exact ih0 _ _ _
      | exact ih1 _ _ _ _ _ _
      | exact transeptref03_times.mono _ _ _
      | exact LeO.none _
      | refine LeO.ite ?_ ?_
      | refine LeO.bind ?_ (fun _ => ?_)
set_option maxHeartbeats 8000000 in
set_option maxRecDepth 100000 in
theorem transeptref03_below.calls (k : Nat) (a0 : Int) (a1 : Int) (a2 : Bool) (r : Bool) (w : World) (h : transeptref03_below.f k a0 a1 a2 = some r) :
    Calls Tryd.prog 30 #[.int .u64 a0, .int .u64 a1, .bool a2] w fun e w' => e = .returned (.bool r) ∧ Below w.heap.size w w' := by
  have hu71 := Tryd.underlying71
  have HB := Aside0.mk (Below.refl w.heap.size w)
  have H : ((some (([Int.tmod a0 4294967296, IntKind.u64.wrap (Int.tdiv a0 4294967296)] : List Int) : List Int)).bind fun y121 => ((transeptref03_times.f k y121 y121).bind fun t125 => (if a2 = true then ((transeptref03_times.f k t125 y121).bind fun t129 => (transeptref03_below.j0 k a1 3 t129)) else (transeptref03_below.j0 k a1 2 t125)))) = some r := h
  clear h
  obtain ⟨y121, hy121⟩ : ∃ y_ : List Int, y_ = (([Int.tmod a0 4294967296, IntKind.u64.wrap (Int.tdiv a0 4294967296)] : List Int)) := ⟨_, rfl⟩
  replace H : ((transeptref03_times.f k y121 y121).bind fun t125 => (if a2 = true then ((transeptref03_times.f k t125 y121).bind fun t129 => (transeptref03_below.j0 k a1 3 t129)) else (transeptref03_below.j0 k a1 2 t125))) = some r := by first | (rw [hy121]; with_reducible exact H) | (have H2_ := (Option.bind_some _ _).symm.trans H; rw [hy121]; with_reducible exact H2_) | (have H2_ := (Option.bind_some _ _).symm.trans H; with_reducible exact H2_) | with_reducible exact H | (rw [hy121]; exact H) | exact H
  have Ny121 := Aside0.mk hy121
  clear hy121
  replace H := Option.bind_eq_some_iff.mp H
  obtain ⟨t125, A40, H⟩ := H
  replace H : (if a2 = true then ((transeptref03_times.f k t125 y121).bind fun t129 => (transeptref03_below.j0 k a1 3 t129)) else (transeptref03_below.j0 k a1 2 t125)) = some r := H
  have A4 := Aside0.mk A40
  clear A40
  have HC5 := Aside0.mk H
  clear H
  go_enter Tryd.func30, Tryd.ntmps30
  go_upto_if 22 with (first | ((with_reducible refine gate_dst (N := 17) rfl ?_); refine Kd.R_lit (Kd.int .u64) _ 38 ?hg (N := 17) ?hd (xs := ([Int.tmod a0 4294967296, IntKind.u64.wrap (Int.tdiv a0 4294967296)] : List Int)) (inner := [.int .u64 (Int.tmod a0 4294967296), .int .u64 (IntKind.u64.wrap (Int.tdiv a0 4294967296))]) (ok := fun _ => True) (okp := fun _ => True) ?hr ?hp (fun _ hk => hk) trivial (Below.refl _ _) (Nat.le_refl _) (by simp) ?_; (case hd => rfl); (case hg => rfl); (case hr => first | (go_simp; done) | (go_simp; rfl)); (case hp => exact (Reps.one (show Kd.M (Kd.int .u64) _ _ _ (Int.tmod a0 4294967296) [.int .u64 (Int.tmod a0 4294967296)] from rfl) (Reps.one (show Kd.M (Kd.int .u64) _ _ _ (IntKind.u64.wrap (Int.tdiv a0 4294967296)) [.int .u64 (IntKind.u64.wrap (Int.tdiv a0 4294967296))] from rfl) (Reps.none _ _)))); intro v122 w6 ho7 hb hg_ hnew_; clear hg_ hnew_; (first | rw [← Ny121.out] at ho7 | (simp only [Int.reduceToNat] at ho7; rw [← Ny121.out] at ho7)); have n0_ := Aside0.mk (Kd.R_lower ho7 (below_size (by repeat (first | (with_reducible first | exact HB.out | apply below_alloc | apply pw_below_drewN | apply below_drew1) | exact HB.out)))); have n1_ := Aside0.mk (below_step (by repeat (first | (with_reducible first | exact HB.out | apply below_alloc | apply pw_below_drewN | apply below_drew1) | exact HB.out)) hb); clear HB; have HO123 := n0_; have HB := n1_; clear n0_ n1_; clear hb ho7; obtain ⟨Ao8, co8, eo8⟩ := Kd.R_slice HO123.out; subst eo8) | ((with_reducible refine gate_dst (N := 7) rfl ?_); refine box_event ?hg (N := 7) ?hd (cs := #[.slice none 0 0]) (t := 71) ?hr ?_; (case hd => rfl); (case hg => rfl); (case hr => first | (go_simp; done) | (go_simp; rfl)); intro gb124 hg w9 hbox hb; have n0_ := Aside0.mk (Kd.R_below (by (with_reducible repeat (first | apply Kd.R_alloc | apply Kd.R_drewN | apply Kd.R_drew)); exact HO123.out) hb); have n1_ := Aside0.mk (below_step (by repeat (first | (with_reducible first | exact HB.out | apply below_alloc | apply pw_below_drewN | apply below_drew1) | exact HB.out)) hb); have n2_ := Aside0.mk (hbox); have n3_ := Aside0.mk ((by rw [hg]; exact (below_size (by repeat (first | (with_reducible first | exact HB.out | apply below_alloc | apply pw_below_drewN | apply below_drew1) | exact HB.out))) : w.heap.size ≤ gb124)); have n4_ := Aside0.mk ((by rw [hg]; exact (below_size (by repeat (first | (with_reducible first | exact HB.out | apply below_alloc | apply pw_below_drewN | apply below_drew1) | exact HB.out))) : w.heap.size ≤ gb124)); clear HO123; clear HB; have HO123 := n0_; have HB := n1_; have BK124 := n2_; have GW124 := n3_; have GE124 := n4_; clear n0_ n1_ n2_ n3_ n4_; clear hb hbox hg; have hcz10_0 : w9.cell? ⟨gb124, 0, none⟩ = some (.slice none 0 0) := (blk_cell BK124.out 0).trans rfl; have hfz10_0 := blk_frozen BK124.out 0) | ((with_reducible refine gate_callee (f := 32) rfl ?_); refine goesL_ (some 21) rfl rfl Tryd.func32 (by kernel_rfl) rfl #[.agg #[.slice Ao8 y121.length co8], .agg #[.slice Ao8 y121.length co8]] rfl (by (try simp only [List.map_toArray, List.map_cons, List.map_nil]); first | done | rfl | (simp only [List.length_drop, List.length_take]; rfl)) ?_; (with_reducible refine (transeptref03_times.calls k _ _ y121 _ _ y121 t125 _ ?side1 ?side2 ?side3 ?side4 A4.out).mono ?_); (case side1 => refine (Kd.R_reads' (e := 38) (base := w.heap.size) (ok := fun k_ => True) (n := y121.length) (c := co8) ?_).2.2; exact (by (with_reducible repeat (first | apply Kd.R_alloc | apply Kd.R_drewN | apply Kd.R_drew)); exact (Kd.R_mono (Kd.R_far (p := ⟨gb124, 0, none⟩) (Kd.R_types HO123.out BK124.out (by decide)) (fun _ hk => hk.2) (.slice Ao8 y121.length co8)) (fun _ h_ => h_.1)))); (case side2 => exact (Kd.R_reads' HO123.out).2.1); (case side3 => refine (Kd.R_reads' (e := 38) (base := w.heap.size) (ok := fun k_ => True) (n := y121.length) (c := co8) ?_).2.2; exact (by (with_reducible repeat (first | apply Kd.R_alloc | apply Kd.R_drewN | apply Kd.R_drew)); exact (Kd.R_mono (Kd.R_far (p := ⟨gb124, 0, none⟩) (Kd.R_types HO123.out BK124.out (by decide)) (fun _ hk => hk.2) (.slice Ao8 y121.length co8)) (fun _ h_ => h_.1)))); (case side4 => exact (Kd.R_reads' HO123.out).2.1); rintro e w11 ⟨v126, rfl, ho0, hb⟩; refine ⟨_, rfl, ?_⟩; have n0_ := Aside0.mk (Kd.R_elder' (by (with_reducible repeat (first | apply Kd.R_alloc | apply Kd.R_drewN | apply Kd.R_drew)); exact (Kd.R_mono (Kd.R_far (p := ⟨gb124, 0, none⟩) (Kd.R_types HO123.out BK124.out (by decide)) (fun _ hk => hk.2) (.slice Ao8 y121.length co8)) (fun _ h_ => h_.1))) (Kd.R_base ho0) hb); have n1_ := Aside0.mk (Kd.R_lower (Kd.R_new' ho0 (Kd.R_lt (by (with_reducible repeat (first | apply Kd.R_alloc | apply Kd.R_drewN | apply Kd.R_drew)); exact (Kd.R_mono (Kd.R_far (p := ⟨gb124, 0, none⟩) (Kd.R_types HO123.out BK124.out (by decide)) (fun _ hk => hk.2) (.slice Ao8 y121.length co8)) (fun _ h_ => h_.1))))) (below_size (by repeat (first | (with_reducible first | exact HB.out | apply below_alloc | apply pw_below_drewN | apply below_drew1 | refine below_set ?_ GE124.out) | exact HB.out)))); have n2_ := Aside0.mk (blk_below (g := gb124) (o := .cells #[.slice Ao8 y121.length co8] 71 (0, 0)) (by (with_reducible repeat (first | refine blk_drewN ?_ _ | refine blk_drew ?_ | refine blk_alloc ?_ _)); refine blk_put (cs := #[.slice none 0 0]) ?_ 0 _ rfl; (with_reducible repeat (first | refine blk_drewN ?_ _ | refine blk_drew ?_ | refine blk_alloc ?_ _)); exact BK124.out) hb); have n3_ := Aside0.mk (below_step (by repeat (first | (with_reducible first | exact HB.out | apply below_alloc | apply pw_below_drewN | apply below_drew1 | refine below_set ?_ GE124.out) | exact HB.out)) hb); clear HO123; clear BK124; clear HB; have HO123 := n0_; have HO127 := n1_; have BK124 := n2_; have HB := n3_; clear n0_ n1_ n2_ n3_; (try clear hb); (try clear hb2); (try clear hk); (try clear hi); (try clear ho0)) | ((with_reducible refine gate_dst (N := 8) rfl ?_); refine box_event ?hg (N := 8) ?hd (cs := #[.slice none 0 0]) (t := 71) ?hr ?_; (case hd => rfl); (case hg => rfl); (case hr => first | (go_simp; done) | (go_simp; rfl)); intro gb128 hg w12 hbox hb; have n0_ := Aside0.mk (Kd.R_below (by (with_reducible repeat (first | apply Kd.R_alloc | apply Kd.R_drewN | apply Kd.R_drew)); exact HO123.out) hb); have n1_ := Aside0.mk (Kd.R_below (by (with_reducible repeat (first | apply Kd.R_alloc | apply Kd.R_drewN | apply Kd.R_drew)); exact HO127.out) hb); have n2_ := Aside0.mk (blk_below (g := gb124) (o := .cells #[.slice Ao8 y121.length co8] 71 (0, 0)) (by (with_reducible repeat (first | refine blk_drewN ?_ _ | refine blk_drew ?_ | refine blk_alloc ?_ _)); exact BK124.out) hb); have n3_ := Aside0.mk (below_step (by repeat (first | (with_reducible first | exact HB.out | apply below_alloc | apply pw_below_drewN | apply below_drew1 | refine below_set ?_ GE124.out) | exact HB.out)) hb); have n4_ := Aside0.mk (hbox); have n5_ := Aside0.mk ((by rw [hg]; exact (below_size (by repeat (first | (with_reducible first | exact HB.out | apply below_alloc | apply pw_below_drewN | apply below_drew1 | refine below_set ?_ GE124.out) | exact HB.out))) : w.heap.size ≤ gb128)); have n6_ := Aside0.mk ((by rw [hg]; exact (below_size (by repeat (first | (with_reducible first | exact HB.out | apply below_alloc | apply pw_below_drewN | apply below_drew1 | refine below_set ?_ GE124.out) | exact HB.out))) : w.heap.size ≤ gb128)); have n7_ := Aside0.mk ((by rw [hg]; exact Nat.ne_of_lt (blk_lt (g := gb124) (o := .cells #[.slice Ao8 y121.length co8] 71 (0, 0)) (by (with_reducible repeat (first | refine blk_drewN ?_ _ | refine blk_drew ?_ | refine blk_alloc ?_ _)); exact BK124.out)) : gb124 ≠ gb128)); have n8_ := Aside0.mk ((by rw [hg]; exact Nat.ne_of_gt (blk_lt (g := gb124) (o := .cells #[.slice Ao8 y121.length co8] 71 (0, 0)) (by (with_reducible repeat (first | refine blk_drewN ?_ _ | refine blk_drew ?_ | refine blk_alloc ?_ _)); exact BK124.out)) : gb128 ≠ gb124)); clear HO123; clear HO127; clear BK124; clear HB; have HO123 := n0_; have HO127 := n1_; have BK124 := n2_; have HB := n3_; have BK128 := n4_; have GW128 := n5_; have GE128 := n6_; have NB124_128 := n7_; have NB128_124 := n8_; clear n0_ n1_ n2_ n3_ n4_ n5_ n6_ n7_ n8_; clear hb hbox hg; obtain ⟨Ao13, co13, eo13⟩ := Kd.R_slice HO127.out; subst eo13; have hnb14 := NB128_124.out; have hnc14 := NB124_128.out; have hcz15_0 : w12.cell? ⟨gb128, 0, none⟩ = some (.slice none 0 0) := (blk_cell BK128.out 0).trans rfl; have hfz15_0 := blk_frozen BK128.out 0))
  (try simp only [Act.put, List.setIfInBounds_toArray, List.set_cons_zero, List.set_cons_succ])
  go_cut [9] (fun v9 wc => ∃ (kq : Nat) (x9_4 : Int) (x129000_4 : List Int) (u129000 : Value), v9 = .int .i64 x9_4 ∧ Aside0 (transeptref03_below.j0 kq a1 x9_4 x129000_4 = some r) ∧ Aside0 (kq ≤ k) ∧ Aside0 (Kd.R (Kd.int .u64) 38 wc w.heap.size (fun k_ => some k_ ≠ (u129000 : Value).ownBlock) (.slice Ao8 y121.length co8) y121) ∧ Aside0 (Kd.R (Kd.int .u64) 38 wc w.heap.size (fun k_ => some k_ ≠ ((.slice Ao8 y121.length co8) : Value).ownBlock) u129000 x129000_4) ∧ Aside0 (wc.heap[gb124]? = some (.cells #[(.slice Ao8 y121.length co8)] 71 (0, 0))) ∧ Aside0 (wc.heap[gb128]? = some (.cells #[u129000] 71 (0, 0))) ∧ Aside0 (Below w.heap.size w wc))
  case first =>
    have H := HC5.out
    clear HC5
    by_cases c16 : a2 = true
    · subst c16
      have H1 : ((transeptref03_times.f k t125 y121).bind fun t129 => (transeptref03_below.j0 k a1 3 t129)) = some r := by rw [if_pos rfl] at H; exact H
      clear H
      have H := H1
      clear H1
      replace H := Option.bind_eq_some_iff.mp H
      obtain ⟨t129, A170, H⟩ := H
      replace H : (transeptref03_below.j0 k a1 3 t129) = some r := H
      have A17 := Aside0.mk A170
      clear A170
      have H' := Aside0.mk H
      clear H
      have hnb18 := NB128_124.out
      have hnc18 := NB124_128.out
      have hcz19_0 : w12.cell? ⟨gb128, 0, none⟩ = some (.slice none 0 0) := (blk_cell BK128.out 0).trans rfl
      have hfz19_0 := blk_frozen BK128.out 0
      have hcz20_0 : w12.cell? ⟨gb124, 0, none⟩ = some (.slice Ao8 y121.length co8) := (blk_cell BK124.out 0).trans rfl
      have hfz20_0 := blk_frozen BK124.out 0
      go_wp2_with (first | ((with_reducible refine gate_callee (f := 32) rfl ?_); refine goesL_ (some 25) rfl rfl Tryd.func32 (by kernel_rfl) rfl #[.agg #[.slice Ao13 t125.length co13], .agg #[.slice Ao8 y121.length co8]] rfl (by (try simp only [List.map_toArray, List.map_cons, List.map_nil]); first | done | rfl | (simp only [List.length_drop, List.length_take]; rfl)) ?_; (with_reducible refine (transeptref03_times.calls k _ _ t125 _ _ y121 t129 _ ?side1 ?side2 ?side3 ?side4 A17.out).mono ?_); (case side1 => refine (Kd.R_reads' (e := 38) (base := w.heap.size) (ok := fun k_ => (True ∧ some k_ ≠ (.slice Ao8 y121.length co8 : Value).ownBlock)) (n := t125.length) (c := co13) ?_).2.2; exact (by (with_reducible repeat (first | apply Kd.R_alloc | apply Kd.R_drewN | apply Kd.R_drew)); exact (Kd.R_mono (Kd.R_far (p := ⟨gb128, 0, none⟩) (Kd.R_types HO127.out BK128.out (by decide)) (fun _ hk => hk.2) (.slice Ao13 t125.length co13)) (fun _ h_ => h_.1)))); (case side2 => exact (Kd.R_reads' HO127.out).2.1); (case side3 => refine (Kd.R_reads' (e := 38) (base := w.heap.size) (ok := fun k_ => (True ∧ some k_ ≠ (.slice Ao13 t125.length co13 : Value).ownBlock)) (n := y121.length) (c := co8) ?_).2.2; exact (by (with_reducible repeat (first | apply Kd.R_alloc | apply Kd.R_drewN | apply Kd.R_drew)); exact (Kd.R_mono (Kd.R_far (p := ⟨gb128, 0, none⟩) (Kd.R_types HO123.out BK128.out (by decide)) (fun _ hk => hk.2) (.slice Ao13 t125.length co13)) (fun _ h_ => h_.1)))); (case side4 => exact (Kd.R_reads' HO123.out).2.1); rintro e w21 ⟨v130, rfl, ho0, hb⟩; refine ⟨_, rfl, ?_⟩; have n0_ := Aside0.mk (Kd.R_elder' (by (with_reducible repeat (first | apply Kd.R_alloc | apply Kd.R_drewN | apply Kd.R_drew)); exact (Kd.R_mono (Kd.R_far (p := ⟨gb128, 0, none⟩) (Kd.R_types HO123.out BK128.out (by decide)) (fun _ hk => hk.2) (.slice Ao13 t125.length co13)) (fun _ h_ => h_.1))) (Kd.R_base ho0) hb); have n1_ := Aside0.mk (Kd.R_elder' (by (with_reducible repeat (first | apply Kd.R_alloc | apply Kd.R_drewN | apply Kd.R_drew)); exact (Kd.R_mono (Kd.R_far (p := ⟨gb128, 0, none⟩) (Kd.R_types HO127.out BK128.out (by decide)) (fun _ hk => hk.2) (.slice Ao13 t125.length co13)) (fun _ h_ => h_.1))) (Kd.R_base ho0) hb); have n2_ := Aside0.mk (Kd.R_lower (Kd.R_new' (Kd.R_new' ho0 (Kd.R_lt (by (with_reducible repeat (first | apply Kd.R_alloc | apply Kd.R_drewN | apply Kd.R_drew)); exact (Kd.R_mono (Kd.R_far (p := ⟨gb128, 0, none⟩) (Kd.R_types HO123.out BK128.out (by decide)) (fun _ hk => hk.2) (.slice Ao13 t125.length co13)) (fun _ h_ => h_.1))))) (Kd.R_lt (by (with_reducible repeat (first | apply Kd.R_alloc | apply Kd.R_drewN | apply Kd.R_drew)); exact (Kd.R_mono (Kd.R_far (p := ⟨gb128, 0, none⟩) (Kd.R_types HO127.out BK128.out (by decide)) (fun _ hk => hk.2) (.slice Ao13 t125.length co13)) (fun _ h_ => h_.1))))) (below_size (by repeat (first | (with_reducible first | exact HB.out | apply below_alloc | apply pw_below_drewN | apply below_drew1 | refine below_set ?_ GE124.out | refine below_set ?_ GE128.out) | exact HB.out)))); have n3_ := Aside0.mk (blk_below (g := gb124) (o := .cells #[.slice Ao8 y121.length co8] 71 (0, 0)) (by (with_reducible repeat (first | refine blk_drewN ?_ _ | refine blk_drew ?_ | refine blk_alloc ?_ _)); refine blk_far ?_ NB124_128.out _; (with_reducible repeat (first | refine blk_drewN ?_ _ | refine blk_drew ?_ | refine blk_alloc ?_ _)); exact BK124.out) hb); have n4_ := Aside0.mk (blk_below (g := gb128) (o := .cells #[.slice Ao13 t125.length co13] 71 (0, 0)) (by (with_reducible repeat (first | refine blk_drewN ?_ _ | refine blk_drew ?_ | refine blk_alloc ?_ _)); refine blk_put (cs := #[.slice none 0 0]) ?_ 0 _ rfl; (with_reducible repeat (first | refine blk_drewN ?_ _ | refine blk_drew ?_ | refine blk_alloc ?_ _)); exact BK128.out) hb); have n5_ := Aside0.mk (below_step (by repeat (first | (with_reducible first | exact HB.out | apply below_alloc | apply pw_below_drewN | apply below_drew1 | refine below_set ?_ GE124.out | refine below_set ?_ GE128.out) | exact HB.out)) hb); clear HO123; clear HO127; clear BK124; clear BK128; clear HB; have HO123 := n0_; have HO127 := n1_; have HO131 := n2_; have BK124 := n3_; have BK128 := n4_; have HB := n5_; clear n0_ n1_ n2_ n3_ n4_ n5_; (try clear hb); (try clear hb2); (try clear hk); (try clear hi); (try clear ho0); obtain ⟨Ao22, co22, eo22⟩ := Kd.R_slice HO131.out; subst eo22; have hcz23_0 : w21.cell? ⟨gb128, 0, none⟩ = some (.slice Ao13 t125.length co13) := (blk_cell BK128.out 0).trans rfl; have hfz23_0 := blk_frozen BK128.out 0))
      go_meet
      case rel => exact ⟨_, (3), (t129), (.slice Ao22 t129.length co22), (by first | rfl | (simp; done) | (simp [*]; done)), H', ⟨by first | omega | exact Nat.le_refl _⟩, ⟨by (with_reducible repeat (first | apply Kd.R_alloc | apply Kd.R_drewN | apply Kd.R_drew)); exact Kd.R_mono (Kd.R_far (p := ⟨gb128, 0, none⟩) (Kd.R_types HO123.out BK128.out (by decide)) (fun _ hk => hk.2) (.slice Ao22 t129.length co22)) (fun _ hk => hk.1.2)⟩, ⟨by (with_reducible repeat (first | apply Kd.R_alloc | apply Kd.R_drewN | apply Kd.R_drew)); exact Kd.R_mono (Kd.R_far (p := ⟨gb128, 0, none⟩) (Kd.R_types HO131.out BK128.out (by decide)) (fun _ hk => hk.2) (.slice Ao22 t129.length co22)) (fun _ hk => hk.1.1.2)⟩, ⟨by (with_reducible repeat (first | refine blk_drewN ?_ _ | refine blk_drew ?_ | refine blk_alloc ?_ _)); refine blk_far ?_ NB124_128.out _; (with_reducible repeat (first | refine blk_drewN ?_ _ | refine blk_drew ?_ | refine blk_alloc ?_ _)); exact BK124.out⟩, ⟨by (with_reducible repeat (first | refine blk_drewN ?_ _ | refine blk_drew ?_ | refine blk_alloc ?_ _)); refine blk_put (cs := #[.slice Ao13 t125.length co13]) ?_ 0 _ rfl; (with_reducible repeat (first | refine blk_drewN ?_ _ | refine blk_drew ?_ | refine blk_alloc ?_ _)); exact BK128.out⟩, ⟨by repeat (first | (with_reducible first | exact HB.out | apply below_alloc | apply pw_below_drewN | apply below_drew1 | refine below_set ?_ GE124.out | refine below_set ?_ GE128.out) | exact HB.out)⟩⟩
    · replace c16 := Bool.eq_false_iff.mpr c16
      subst c16
      have H1 : (transeptref03_below.j0 k a1 2 t125) = some r := by rw [if_neg (show ¬ (false = true) by decide)] at H; exact H
      clear H
      have H := H1
      clear H1
      have H' := Aside0.mk H
      clear H
      go_wp2
      go_meet
      case rel => exact ⟨_, (2), (t125), (.slice Ao13 t125.length co13), (by first | rfl | (simp; done) | (simp [*]; done)), H', ⟨by first | omega | exact Nat.le_refl _⟩, ⟨by (with_reducible repeat (first | apply Kd.R_alloc | apply Kd.R_drewN | apply Kd.R_drew)); exact Kd.R_mono (Kd.R_far (p := ⟨gb128, 0, none⟩) (Kd.R_types HO123.out BK128.out (by decide)) (fun _ hk => hk.2) (.slice Ao13 t125.length co13)) (fun _ hk => hk.1.2)⟩, ⟨by (with_reducible repeat (first | apply Kd.R_alloc | apply Kd.R_drewN | apply Kd.R_drew)); exact Kd.R_mono (Kd.R_far (p := ⟨gb128, 0, none⟩) (Kd.R_types HO127.out BK128.out (by decide)) (fun _ hk => hk.2) (.slice Ao13 t125.length co13)) (fun _ hk => hk.1.2)⟩, ⟨by (with_reducible repeat (first | refine blk_drewN ?_ _ | refine blk_drew ?_ | refine blk_alloc ?_ _)); refine blk_far ?_ NB124_128.out _; (with_reducible repeat (first | refine blk_drewN ?_ _ | refine blk_drew ?_ | refine blk_alloc ?_ _)); exact BK124.out⟩, ⟨by (with_reducible repeat (first | refine blk_drewN ?_ _ | refine blk_drew ?_ | refine blk_alloc ?_ _)); refine blk_put (cs := #[.slice none 0 0]) ?_ 0 _ rfl; (with_reducible repeat (first | refine blk_drewN ?_ _ | refine blk_drew ?_ | refine blk_alloc ?_ _)); exact BK128.out⟩, ⟨by repeat (first | (with_reducible first | exact HB.out | apply below_alloc | apply pw_below_drewN | apply below_drew1 | refine below_set ?_ GE124.out | refine below_set ?_ GE128.out) | exact HB.out)⟩⟩
  case rest =>
    clear HC5
    try clear c1
    try clear p2
    try clear c3
    try clear c14
    try clear c16
    try clear c18
    try clear hcz10_0
    try clear hcz15_0
    try clear hcz19_0
    try clear hcz20_0
    try clear hcz23_0
    try clear hfz10_0
    try clear hfz15_0
    try clear hfz19_0
    try clear hfz20_0
    try clear hfz23_0
    obtain ⟨kq, x9_4, x129000_4, u129000, rfl, HA, HJ4, HO_125000, HO_129000, BK124, BK128, HB⟩ := hcut
    cases kq with
    | zero => exact absurd HA.out (by simp [transeptref03_below.j0])
    | succ kj4 =>
      have H := HA.out
      clear HA
      simp only [transeptref03_below.j0] at H
      have H' := Aside0.mk H
      clear H
      go_wp2
      go_loopg [10, 11, 12] kj4 (fun kq v10 v11 v12 w' => ∃ (x10_2 : Int) (x11_2 : Bool) (x12_2 : Int), v10 = .int .u64 x10_2 ∧ v11 = .bool x11_2 ∧ v12 = .int .i64 x12_2 ∧ Aside0 (transeptref03_below.l0 kq a1 x9_4 x10_2 x11_2 x12_2 x129000_4 = some r) ∧ Aside0 (kq ≤ kj4) ∧ Aside0 (Kd.R (Kd.int .u64) 38 w' w.heap.size (fun k_ => some k_ ≠ (u129000 : Value).ownBlock) (.slice Ao8 y121.length co8) y121) ∧ Aside0 (Kd.R (Kd.int .u64) 38 w' w.heap.size (fun k_ => some k_ ≠ ((.slice Ao8 y121.length co8) : Value).ownBlock) u129000 x129000_4) ∧ Aside0 (w'.heap[gb124]? = some (.cells #[(.slice Ao8 y121.length co8)] 71 (0, 0))) ∧ Aside0 (w'.heap[gb128]? = some (.cells #[u129000] 71 (0, 0))) ∧ Aside0 (Below w.heap.size w w'))
      case atStart => exact ⟨(0), (false), (0), (by first | rfl | (simp; done) | (simp [*]; done)), (by first | rfl | (simp; done) | (simp [*]; done)), (by first | rfl | (simp; done) | (simp [*]; done)), H', ⟨Nat.le_refl _⟩, ⟨by (with_reducible repeat (first | apply Kd.R_alloc | apply Kd.R_drewN | apply Kd.R_drew)); exact HO_125000.out⟩, ⟨by (with_reducible repeat (first | apply Kd.R_alloc | apply Kd.R_drewN | apply Kd.R_drew)); exact HO_129000.out⟩, ⟨by (with_reducible repeat (first | refine blk_drewN ?_ _ | refine blk_drew ?_ | refine blk_alloc ?_ _)); exact BK124.out⟩, ⟨by (with_reducible repeat (first | refine blk_drewN ?_ _ | refine blk_drew ?_ | refine blk_alloc ?_ _)); exact BK128.out⟩, ⟨by repeat (first | (with_reducible first | exact HB.out | apply below_alloc | apply pw_below_drewN | apply below_drew1 | refine below_set ?_ GE124.out | refine below_set ?_ GE128.out) | exact HB.out)⟩⟩
      case round =>
        clear H'
        try clear c1
        try clear p2
        try clear c3
        try clear c14
        try clear c16
        try clear c18
        try clear hcz10_0
        try clear hcz15_0
        try clear hcz19_0
        try clear hcz20_0
        try clear hcz23_0
        try clear hfz10_0
        try clear hfz15_0
        try clear hfz19_0
        try clear hfz20_0
        try clear hfz23_0
        try clear p2
        obtain ⟨x10_2, x11_2, x12_2, rfl, rfl, rfl, HA, HK2, HO_125000, HO_129000, BK124, BK128, HB⟩ := hrel
        cases gk with
        | zero => exact absurd HA.out (by simp [transeptref03_below.l0])
        | succ k2 =>
          have H := HA.out
          clear HA
          simp only [transeptref03_below.l0] at H
          by_cases c24 : x12_2 < (x129000_4.length : Int)
          · rw [if_pos c24] at H
            have c24b0 : decide (x12_2 < (x129000_4.length : Int)) = true := decide_eq_true c24
            clear c24
            by_cases c25 : x12_2 < x9_4
            · rw [if_pos c25] at H
              have c25b0 : decide (x12_2 < x9_4) = true := decide_eq_true c25
              clear c25
              by_cases c26 : x11_2 = true
              · subst c26
                have H1 : (transeptref03_below.l0 k2 a1 x9_4 x10_2 true (wrap64 (x12_2 + 1)) x129000_4) = some r := by rw [if_pos rfl] at H; exact H
                clear H
                have H := H1
                clear H1
                have H' := Aside0.mk H
                clear H
                have hnb27 := NB128_124.out
                have hnc27 := NB124_128.out
                have hcz28_0 : wr.cell? ⟨gb128, 0, none⟩ = some (u129000) := (blk_cell BK128.out 0).trans rfl
                have hfz28_0 := blk_frozen BK128.out 0
                obtain ⟨Ao29, co29, eo29⟩ := Kd.R_slice HO_129000.out
                subst eo29
                go_wp2
                go_roundg k2
                case measure => have := HJ4.out; have := HK2.out; omega
                case rel => exact ⟨(x10_2), (true), (wrap64 (x12_2 + 1)), (by first | rfl | (simp; done) | (simp [*]; done)), (by first | rfl | (simp; done) | (simp [*]; done)), (by first | rfl | (simp; done) | (simp [*]; done)), H', ⟨by have := HJ4.out; have := HK2.out; omega⟩, ⟨by (with_reducible repeat (first | apply Kd.R_alloc | apply Kd.R_drewN | apply Kd.R_drew)); exact HO_125000.out⟩, ⟨by (with_reducible repeat (first | apply Kd.R_alloc | apply Kd.R_drewN | apply Kd.R_drew)); exact HO_129000.out⟩, ⟨by (with_reducible repeat (first | refine blk_drewN ?_ _ | refine blk_drew ?_ | refine blk_alloc ?_ _)); exact BK124.out⟩, ⟨by (with_reducible repeat (first | refine blk_drewN ?_ _ | refine blk_drew ?_ | refine blk_alloc ?_ _)); exact BK128.out⟩, ⟨by repeat (first | (with_reducible first | exact HB.out | apply below_alloc | apply pw_below_drewN | apply below_drew1 | refine below_set ?_ GE124.out | refine below_set ?_ GE128.out) | exact HB.out)⟩⟩
              · replace c26 := Bool.eq_false_iff.mpr c26
                subst c26
                have H1 : (if 0 ≤ x12_2 then (transeptref03_below.l0 k2 a1 x9_4 x10_2 (decide ((rd x129000_4 x12_2) > 0)) (wrap64 (x12_2 + 1)) x129000_4) else (none)) = some r := by rw [if_neg (show ¬ (false = true) by decide)] at H; exact H
                clear H
                have H := H1
                clear H1
                by_cases c30 : 0 ≤ x12_2
                · rw [if_pos c30] at H
                  have c30b0 : decide (0 ≤ x12_2) = true := decide_eq_true c30
                  clear c30
                  have H' := Aside0.mk H
                  clear H
                  have hnb31 := NB128_124.out
                  have hnc31 := NB124_128.out
                  have hcz32_0 : wr.cell? ⟨gb128, 0, none⟩ = some (u129000) := (blk_cell BK128.out 0).trans rfl
                  have hfz32_0 := blk_frozen BK128.out 0
                  obtain ⟨Ao33, co33, eo33⟩ := Kd.R_slice HO_129000.out
                  subst eo33
                  have p132 : 0 ≤ (x12_2 : Int) := of_decide_eq_true (by first | (with_reducible assumption) | assumption)
                  have q132 : x12_2 < (x129000_4.length : Int) := of_decide_eq_true (by first | (with_reducible assumption) | assumption)
                  obtain ⟨ad132, e132, hx132_0⟩ := Kd.at_int (Kd.R_reads' HO_129000.out).2.2 x12_2 p132 q132
                  cases e132
                  replace p132 := eq_true p132
                  replace q132 := eq_true q132
                  try have q132m := eq_true (by have z_ := of_eq_true q132; simp only [ByteArray.size_extract, Nat.sub_zero] at z_; exact z_)
                  go_wp2
                  go_roundg k2
                  case measure => have := HJ4.out; have := HK2.out; omega
                  case rel => exact ⟨(x10_2), (decide ((rd x129000_4 x12_2) > 0)), (wrap64 (x12_2 + 1)), (by first | rfl | (simp; done) | (simp [*]; done)), (by first | rfl | (simp; done) | (simp [*]; done)), (by first | rfl | (simp; done) | (simp [*]; done)), H', ⟨by have := HJ4.out; have := HK2.out; omega⟩, ⟨by (with_reducible repeat (first | apply Kd.R_alloc | apply Kd.R_drewN | apply Kd.R_drew)); exact HO_125000.out⟩, ⟨by (with_reducible repeat (first | apply Kd.R_alloc | apply Kd.R_drewN | apply Kd.R_drew)); exact HO_129000.out⟩, ⟨by (with_reducible repeat (first | refine blk_drewN ?_ _ | refine blk_drew ?_ | refine blk_alloc ?_ _)); exact BK124.out⟩, ⟨by (with_reducible repeat (first | refine blk_drewN ?_ _ | refine blk_drew ?_ | refine blk_alloc ?_ _)); exact BK128.out⟩, ⟨by repeat (first | (with_reducible first | exact HB.out | apply below_alloc | apply pw_below_drewN | apply below_drew1 | refine below_set ?_ GE124.out | refine below_set ?_ GE128.out) | exact HB.out)⟩⟩
                · rw [if_neg c30] at H
                  exact absurd H (by simp)
            · rw [if_neg c25] at H
              have c25b0 : decide (x12_2 < x9_4) = false := decide_eq_false c25
              clear c25
              by_cases c34 : x12_2 = x9_4
              · rw [if_pos c34] at H
                have c34b0 : (x12_2 == x9_4) = true := beq_iff_eq.mpr c34
                have c34b1 : (x12_2 != x9_4) = false := bne_eq_false_iff_eq.mpr c34
                clear c34
                by_cases c35 : 0 ≤ x12_2
                · rw [if_pos c35] at H
                  have c35b0 : decide (0 ≤ x12_2) = true := decide_eq_true c35
                  clear c35
                  have H' := Aside0.mk H
                  clear H
                  have hnb36 := NB128_124.out
                  have hnc36 := NB124_128.out
                  have hcz37_0 : wr.cell? ⟨gb128, 0, none⟩ = some (u129000) := (blk_cell BK128.out 0).trans rfl
                  have hfz37_0 := blk_frozen BK128.out 0
                  obtain ⟨Ao38, co38, eo38⟩ := Kd.R_slice HO_129000.out
                  subst eo38
                  have p133 : 0 ≤ (x12_2 : Int) := of_decide_eq_true (by first | (with_reducible assumption) | assumption)
                  have q133 : x12_2 < (x129000_4.length : Int) := of_decide_eq_true (by first | (with_reducible assumption) | assumption)
                  obtain ⟨ad133, e133, hx133_0⟩ := Kd.at_int (Kd.R_reads' HO_129000.out).2.2 x12_2 p133 q133
                  cases e133
                  replace p133 := eq_true p133
                  replace q133 := eq_true q133
                  try have q133m := eq_true (by have z_ := of_eq_true q133; simp only [ByteArray.size_extract, Nat.sub_zero] at z_; exact z_)
                  go_wp2
                  go_roundg k2
                  case measure => have := HJ4.out; have := HK2.out; omega
                  case rel => exact ⟨(rd x129000_4 x12_2), (x11_2), (wrap64 (x12_2 + 1)), (by first | rfl | (simp; done) | (simp [*]; done)), (by first | rfl | (simp; done) | (simp [*]; done)), (by first | rfl | (simp; done) | (simp [*]; done)), H', ⟨by have := HJ4.out; have := HK2.out; omega⟩, ⟨by (with_reducible repeat (first | apply Kd.R_alloc | apply Kd.R_drewN | apply Kd.R_drew)); exact HO_125000.out⟩, ⟨by (with_reducible repeat (first | apply Kd.R_alloc | apply Kd.R_drewN | apply Kd.R_drew)); exact HO_129000.out⟩, ⟨by (with_reducible repeat (first | refine blk_drewN ?_ _ | refine blk_drew ?_ | refine blk_alloc ?_ _)); exact BK124.out⟩, ⟨by (with_reducible repeat (first | refine blk_drewN ?_ _ | refine blk_drew ?_ | refine blk_alloc ?_ _)); exact BK128.out⟩, ⟨by repeat (first | (with_reducible first | exact HB.out | apply below_alloc | apply pw_below_drewN | apply below_drew1 | refine below_set ?_ GE124.out | refine below_set ?_ GE128.out) | exact HB.out)⟩⟩
                · rw [if_neg c35] at H
                  exact absurd H (by simp)
              · rw [if_neg c34] at H
                have c34b0 : (x12_2 == x9_4) = false := beq_eq_false_iff_ne.mpr c34
                have c34b1 : (x12_2 != x9_4) = true := bne_iff_ne.mpr c34
                by_cases c39 : 0 ≤ x12_2
                · rw [if_pos c39] at H
                  have c39b0 : decide (0 ≤ x12_2) = true := decide_eq_true c39
                  clear c39
                  by_cases c40 : (rd x129000_4 x12_2) > 0
                  · rw [if_pos c40] at H
                    have c40b0 : decide (0 < (rd x129000_4 x12_2)) = true := decide_eq_true c40
                    clear c40
                    obtain rfl := Option.some.inj H
                    have hnb41 := NB128_124.out
                    have hnc41 := NB124_128.out
                    have hcz42_0 : wr.cell? ⟨gb128, 0, none⟩ = some (u129000) := (blk_cell BK128.out 0).trans rfl
                    have hfz42_0 := blk_frozen BK128.out 0
                    obtain ⟨Ao43, co43, eo43⟩ := Kd.R_slice HO_129000.out
                    subst eo43
                    have p134 : 0 ≤ (x12_2 : Int) := of_decide_eq_true (by first | (with_reducible assumption) | assumption)
                    have q134 : x12_2 < (x129000_4.length : Int) := of_decide_eq_true (by first | (with_reducible assumption) | assumption)
                    obtain ⟨ad134, e134, hx134_0⟩ := Kd.at_int (Kd.R_reads' HO_129000.out).2.2 x12_2 p134 q134
                    cases e134
                    replace p134 := eq_true p134
                    replace q134 := eq_true q134
                    try have q134m := eq_true (by have z_ := of_eq_true q134; simp only [ByteArray.size_extract, Nat.sub_zero] at z_; exact z_)
                    go_wp2
                    go_ret
                    exact ⟨by first | rfl | (simp [errW_none, errW_some] <;> rfl) | (simp [*, errW_none, errW_some] <;> rfl), by repeat (first | (with_reducible first | exact HB.out | apply below_alloc | apply pw_below_drewN | apply below_drew1 | refine below_set ?_ GE124.out | refine below_set ?_ GE128.out) | exact HB.out)⟩
                  · rw [if_neg c40] at H
                    have c40b0 : decide (0 < (rd x129000_4 x12_2)) = false := decide_eq_false c40
                    clear c40
                    have H' := Aside0.mk H
                    clear H
                    have hnb44 := NB128_124.out
                    have hnc44 := NB124_128.out
                    have hcz45_0 : wr.cell? ⟨gb128, 0, none⟩ = some (u129000) := (blk_cell BK128.out 0).trans rfl
                    have hfz45_0 := blk_frozen BK128.out 0
                    obtain ⟨Ao46, co46, eo46⟩ := Kd.R_slice HO_129000.out
                    subst eo46
                    have p134 : 0 ≤ (x12_2 : Int) := of_decide_eq_true (by first | (with_reducible assumption) | assumption)
                    have q134 : x12_2 < (x129000_4.length : Int) := of_decide_eq_true (by first | (with_reducible assumption) | assumption)
                    obtain ⟨ad134, e134, hx134_0⟩ := Kd.at_int (Kd.R_reads' HO_129000.out).2.2 x12_2 p134 q134
                    cases e134
                    replace p134 := eq_true p134
                    replace q134 := eq_true q134
                    try have q134m := eq_true (by have z_ := of_eq_true q134; simp only [ByteArray.size_extract, Nat.sub_zero] at z_; exact z_)
                    go_wp2
                    go_roundg k2
                    case measure => have := HJ4.out; have := HK2.out; omega
                    case rel => exact ⟨(x10_2), (x11_2), (wrap64 (x12_2 + 1)), (by first | rfl | (simp; done) | (simp [*]; done)), (by first | rfl | (simp; done) | (simp [*]; done)), (by first | rfl | (simp; done) | (simp [*]; done)), H', ⟨by have := HJ4.out; have := HK2.out; omega⟩, ⟨by (with_reducible repeat (first | apply Kd.R_alloc | apply Kd.R_drewN | apply Kd.R_drew)); exact HO_125000.out⟩, ⟨by (with_reducible repeat (first | apply Kd.R_alloc | apply Kd.R_drewN | apply Kd.R_drew)); exact HO_129000.out⟩, ⟨by (with_reducible repeat (first | refine blk_drewN ?_ _ | refine blk_drew ?_ | refine blk_alloc ?_ _)); exact BK124.out⟩, ⟨by (with_reducible repeat (first | refine blk_drewN ?_ _ | refine blk_drew ?_ | refine blk_alloc ?_ _)); exact BK128.out⟩, ⟨by repeat (first | (with_reducible first | exact HB.out | apply below_alloc | apply pw_below_drewN | apply below_drew1 | refine below_set ?_ GE124.out | refine below_set ?_ GE128.out) | exact HB.out)⟩⟩
                · rw [if_neg c39] at H
                  exact absurd H (by simp)
          · rw [if_neg c24] at H
            have c24b0 : decide (x12_2 < (x129000_4.length : Int)) = false := decide_eq_false c24
            clear c24
            by_cases c47 : x10_2 < a1
            · rw [if_pos c47] at H
              have c47b0 : decide (x10_2 < a1) = true := decide_eq_true c47
              clear c47
              obtain rfl := Option.some.inj H
              have hnb48 := NB128_124.out
              have hnc48 := NB124_128.out
              have hcz49_0 : wr.cell? ⟨gb128, 0, none⟩ = some (u129000) := (blk_cell BK128.out 0).trans rfl
              have hfz49_0 := blk_frozen BK128.out 0
              obtain ⟨Ao50, co50, eo50⟩ := Kd.R_slice HO_129000.out
              subst eo50
              go_wp2
              go_ret
              exact ⟨by first | rfl | (simp [errW_none, errW_some] <;> rfl) | (simp [*, errW_none, errW_some] <;> rfl), by repeat (first | (with_reducible first | exact HB.out | apply below_alloc | apply pw_below_drewN | apply below_drew1 | refine below_set ?_ GE124.out | refine below_set ?_ GE128.out) | exact HB.out)⟩
            · rw [if_neg c47] at H
              have c47b0 : decide (x10_2 < a1) = false := decide_eq_false c47
              clear c47
              by_cases c51 : x10_2 = a1
              · rw [if_pos c51] at H
                have c51b0 : (x10_2 == a1) = true := beq_iff_eq.mpr c51
                have c51b1 : (x10_2 != a1) = false := bne_eq_false_iff_eq.mpr c51
                clear c51
                obtain rfl := Option.some.inj H
                have hnb52 := NB128_124.out
                have hnc52 := NB124_128.out
                have hcz53_0 : wr.cell? ⟨gb128, 0, none⟩ = some (u129000) := (blk_cell BK128.out 0).trans rfl
                have hfz53_0 := blk_frozen BK128.out 0
                obtain ⟨Ao54, co54, eo54⟩ := Kd.R_slice HO_129000.out
                subst eo54
                go_wp2
                go_ret
                exact ⟨by first | rfl | (simp [errW_none, errW_some] <;> rfl) | (simp [*, errW_none, errW_some] <;> rfl), by repeat (first | (with_reducible first | exact HB.out | apply below_alloc | apply pw_below_drewN | apply below_drew1 | refine below_set ?_ GE124.out | refine below_set ?_ GE128.out) | exact HB.out)⟩
              · rw [if_neg c51] at H
                have c51b0 : (x10_2 == a1) = false := beq_eq_false_iff_ne.mpr c51
                have c51b1 : (x10_2 != a1) = true := bne_iff_ne.mpr c51
                obtain rfl := Option.some.inj H
                have hnb55 := NB128_124.out
                have hnc55 := NB124_128.out
                have hcz56_0 : wr.cell? ⟨gb128, 0, none⟩ = some (u129000) := (blk_cell BK128.out 0).trans rfl
                have hfz56_0 := blk_frozen BK128.out 0
                obtain ⟨Ao57, co57, eo57⟩ := Kd.R_slice HO_129000.out
                subst eo57
                go_wp2
                go_ret
                exact ⟨by first | rfl | (simp [errW_none, errW_some] <;> rfl) | (simp [*, errW_none, errW_some] <;> rfl), by repeat (first | (with_reducible first | exact HB.out | apply below_alloc | apply pw_below_drewN | apply below_drew1 | refine below_set ?_ GE124.out | refine below_set ?_ GE128.out) | exact HB.out)⟩

end Go.Proofs.YtanafhccflmdkaaDoor.Xa
