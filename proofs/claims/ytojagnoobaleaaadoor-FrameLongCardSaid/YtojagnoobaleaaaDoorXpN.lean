-- Written by a program of this session (wip/tools/xprint.py), in the manner of the print of the kit.
import Derived.Test.YtojagnoobaleaaaDoorXpNd
namespace Go.Proofs.YtojagnoobaleaaaDoor.Xp
open Go.RowKit Go.Proofs.YtojagnoobaleaaaDoor.Ext Go.Proofs.YtojagnoobaleaaaDoorW.PrintWords Go.Proofs.YtojagnoobaleaaaDoorW.PrintLast Go.Proofs.YtojagnoobaleaaaDoorW.PrintMore
attribute [local go_sem] max2_int min2_int max_two min_two max_three min_three max_four min_four   -- for this text's walks alone
set_option linter.unusedVariables false
set_option linter.unusedSimpArgs false

set_option maxHeartbeats 8000000 in
set_option maxRecDepth 100000 in
theorem transeptlaw04_FrameLong.calls (k : Nat) (a0 : Int) (a1 : Int) (r : Bool) (w : World) (hG : Glob w) (hT_ : r = true) (h : transeptlaw04_FrameLong.f k a0 a1 = some r) :
    Calls Tryd.prog 9 #[.int .i64 a0, .int .i64 a1] w fun e w' => e = .returned (.bool r) ∧ Below w.heap.size w w' := by
  have HG := Aside0.mk hG
  clear hG
  have HT := Aside0.mk hT_
  clear hT_
  have HB := Aside0.mk (Below.refl w.heap.size w)
  have H : ((transeptlaw04_shown.f).bind fun t118 => (if 20000 ≤ 281474976710656 then (transeptlaw04_FrameLong.l0 k a0 a1 t118 ([] : List (List Int)) (List.replicate 20000 0) 0) else (none))) = some r := h
  clear h
  replace H := Option.bind_eq_some_iff.mp H
  obtain ⟨t118, A30, H⟩ := H
  replace H : (if 20000 ≤ 281474976710656 then (transeptlaw04_FrameLong.l0 k a0 a1 t118 ([] : List (List Int)) (List.replicate 20000 0) 0) else (none)) = some r := H
  have A3 := Aside0.mk A30
  clear A30
  by_cases c4 : 20000 ≤ 281474976710656
  · rw [if_pos c4] at H
    have c4b0 := eq_true c4
    have c4b1 : decide (20000 ≤ 281474976710656) = true := decide_eq_true c4
    clear c4
    obtain ⟨y119, hy119⟩ : ∃ y_ : List Int, y_ = (List.replicate 20000 0) := ⟨_, rfl⟩
    replace H : (transeptlaw04_FrameLong.l0 k a0 a1 t118 ([] : List (List Int)) y119 0) = some r := by first | (rw [hy119]; with_reducible exact H) | (have H2_ := (Option.bind_some _ _).symm.trans H; rw [hy119]; with_reducible exact H2_) | (have H2_ := (Option.bind_some _ _).symm.trans H; with_reducible exact H2_) | with_reducible exact H | (rw [hy119]; exact H) | exact H
    have Ny119 := Aside0.mk hy119
    clear hy119
    have H' := Aside0.mk H
    clear H
    go_enter Tryd.func9, Tryd.ntmps9
    go_wp2_with (first | ((with_reducible refine gate_callee (f := 13) rfl ?_); refine goesL_ (some 21) rfl rfl Tryd.func13 (by kernel_rfl) rfl #[] rfl (by (try simp only [List.map_toArray, List.map_cons, List.map_nil]); first | done | rfl | (simp only [List.length_drop, List.length_take]; rfl)) ?_; (with_reducible refine (transeptlaw04_shown.calls  t118 _ ?side1 A3.out).mono ?_); (case side1 => first | exact HG.out | exact Glob.below HG.out HB.out | exact Glob.drewN (Glob.below HG.out HB.out) _ | exact Glob.drewN HG.out _ | (refine Glob.below HG.out ?_; (repeat (first | (with_reducible first | exact HB.out | apply below_alloc | apply pw_below_drewN | apply below_drew1) | exact HB.out)); done) | (repeat (first | exact HG.out | (with_reducible refine Glob.drewN ?_ _) | (with_reducible refine Glob.drew ?_) | (with_reducible refine Glob.alloc ?_ _)); done)); rintro e w5 ⟨rfl, hb⟩; refine ⟨_, rfl, ?_⟩; have n0_ := Aside0.mk (below_step (by repeat (first | (with_reducible first | exact HB.out | apply below_alloc | apply pw_below_drewN | apply below_drew1) | exact HB.out)) hb); clear HB; have HB := n0_; clear n0_; (try clear hb); (try clear hb2); (try clear hk); (try clear hi)) | ((with_reducible refine gate_dst (N := 22) rfl ?_); (try (refine gate_guard (by rfl) ?_; dsimp only)); refine Kd.R_make (Kd.int .u8) _ 5 rfl (N := 22) rfl 22 _ _ rfl 20000 rfl rfl Tryd.underlying22 (.int .u8 0) 1 info5 rfl (by decide) (by omega) 0 (ok := fun _ => True) (okp := fun _ => True) rfl (fun _ hk => hk) trivial (by omega) (by omega) (Below.refl _ _) (Nat.le_refl _) ?_; intro v120 w6 ho7 hb hg_ hnew_; clear hg_ hnew_; (first | rw [← Ny119.out] at ho7 | (simp only [Int.reduceToNat] at ho7; rw [← Ny119.out] at ho7)); have n0_ := Aside0.mk (Kd.R_lower ho7 (below_size (by repeat (first | (with_reducible first | exact HB.out | apply below_alloc | apply pw_below_drewN | apply below_drew1) | exact HB.out)))); have n1_ := Aside0.mk (below_step (by repeat (first | (with_reducible first | exact HB.out | apply below_alloc | apply pw_below_drewN | apply below_drew1) | exact HB.out)) hb); clear HB; have HO121 := n0_; have HB := n1_; clear n0_ n1_; clear hb ho7))
    go_loopg [6, 8] k (fun kq v6 v8 w' => ∃ (x6_1 : List (List Int)) (x8_1 : Int), v8 = .int .i64 x8_1 ∧ Aside0 (transeptlaw04_FrameLong.l0 kq a0 a1 t118 x6_1 y119 x8_1 = some r) ∧ Aside0 (kq ≤ k) ∧ Aside0 (Kd.N (Kd.slice 5 (Kd.int .u8)) 22 w' w.heap.size (fun _ => True) v6 x6_1) ∧ Aside0 (Kd.R (Kd.int .u8) 5 w' w.heap.size (fun _ => True) v120 y119) ∧ Aside0 (Below w.heap.size w w'))
    case atStart => exact ⟨(([] : List (List Int))), (0), (by first | rfl | (simp; done) | (simp [*]; done)), H', ⟨Nat.le_refl _⟩, ⟨by first | exact Kd.S_nil _ _ _ _ _ | exact Kd.N_nil _ _ _ _ _ | exact Kd.V_nil _ _ _ _ _ | exact Kd.Q_nil _ _ _ _ _ | exact Kd.R_nil _ _ _ _ _⟩, ⟨by (with_reducible repeat (first | apply Kd.R_alloc | apply Kd.R_drewN | apply Kd.R_drew)); exact HO121.out⟩, ⟨by repeat (first | (with_reducible first | exact HB.out | apply below_alloc | apply pw_below_drewN | apply below_drew1) | exact HB.out)⟩⟩
    case round =>
      clear H'
      try clear c1
      try clear p2
      try clear c4
      try clear c4b0
      try clear c4b1
      obtain ⟨x6_1, x8_1, rfl, HA, HK1, HO_6, HO_7, HB⟩ := hrel
      cases gk with
      | zero => exact absurd HA.out (by simp [transeptlaw04_FrameLong.l0])
      | succ k1 =>
        have H := HA.out
        clear HA
        simp only [transeptlaw04_FrameLong.l0] at H
        by_cases c8 : x8_1 < 52
        · rw [if_pos c8] at H
          have c8b0 : decide (x8_1 < 52) = true := decide_eq_true c8
          clear c8
          obtain ⟨y122, hy122⟩ : ∃ y_ : List (List Int), y_ = (([y119] : List (List Int))) := ⟨_, rfl⟩
          replace H : (if x6_1.length + y122.length < 5864062014805 then (transeptlaw04_FrameLong.l0 k1 a0 a1 t118 (x6_1 ++ y122) y119 (wrap64 (x8_1 + 1))) else (none)) = some r := by first | (rw [hy122]; with_reducible exact H) | (have H2_ := (Option.bind_some _ _).symm.trans H; rw [hy122]; with_reducible exact H2_) | (have H2_ := (Option.bind_some _ _).symm.trans H; with_reducible exact H2_) | with_reducible exact H | (rw [hy122]; exact H) | exact H
          have Ny122 := Aside0.mk hy122
          clear hy122
          by_cases c9 : x6_1.length + y122.length < 5864062014805
          · rw [if_pos c9] at H
            have LMc9 := Aside0.mk c9
            clear c9
            obtain ⟨y125, hy125⟩ : ∃ y_ : List (List Int), y_ = (x6_1 ++ y122) := ⟨_, rfl⟩
            replace H : (transeptlaw04_FrameLong.l0 k1 a0 a1 t118 y125 y119 (wrap64 (x8_1 + 1))) = some r := by first | (rw [hy125]; with_reducible exact H) | (have H2_ := (Option.bind_some _ _).symm.trans H; rw [hy125]; with_reducible exact H2_) | (have H2_ := (Option.bind_some _ _).symm.trans H; with_reducible exact H2_) | with_reducible exact H | (rw [hy125]; exact H) | exact H
            have Ny125 := Aside0.mk hy125
            clear hy125
            have H' := Aside0.mk H
            clear H
            obtain ⟨Ao10, co10, eo10⟩ := Kd.R_slice HO_7.out
            subst eo10
            go_wp2_with (first | ((with_reducible refine gate_dst (N := 29) rfl ?_); (try (refine gate_guard (by rfl) ?_; dsimp only)); refine Kd.N_lit (Kd.slice 5 (Kd.int .u8)) _ 22 ?hg (N' := 29) ?hd (xs := ([y119] : List (List Int))) (inner := [.slice Ao10 y119.length co10]) (ok := (fun k_ => some k_ ≠ (u6 : Value).ownBlock)) (okp := (fun k_ => some k_ ≠ (u6 : Value).ownBlock)) ?hr ?hp (fun _ hk => hk) ((show ∀ k_, wr.heap.size ≤ k_ → (fun k_ => some k_ ≠ (u6 : Value).ownBlock) k_ from fun k_ hk => Kd.fresh' (Kd.N_lt (by (with_reducible repeat (first | apply Kd.N_alloc | apply Kd.N_drewN | apply Kd.N_drew)); exact HO_6.out)) k_ hk) _ (Nat.le_refl _)) (Below.refl _ _) (Nat.le_refl _) (by simp) ?_; (case hd => rfl); (case hg => rfl); (case hr => first | (go_simp; done) | (go_simp; rfl)); (case hp => exact (Reps.one (show Kd.FK (Kd.slice 5 (Kd.int .u8)) _ _ y119 [.slice Ao10 y119.length co10] from (Kd.FK_slice_mk (Kd.R_reads' (Kd.R_mono (ok' := (fun k_ => some k_ ≠ (u6 : Value).ownBlock)) (Kd.R_apart' (HO_7.out) (Kd.N_typed HO_6.out) (by decide)) (fun k_ hk => hk.2))).2.1 (Kd.R_F (Kd.R_mono (ok' := (fun k_ => some k_ ≠ (u6 : Value).ownBlock)) (Kd.R_apart' (HO_7.out) (Kd.N_typed HO_6.out) (by decide)) (fun k_ hk => hk.2))))) (Reps.none _ _))); intro v123 w11 ho12 hb hg_ hnew_; clear hg_ hnew_; (first | rw [← Ny122.out] at ho12 | (simp only [Int.reduceToNat] at ho12; rw [← Ny122.out] at ho12)); have n0_ := Aside0.mk (Kd.N_elder' (by (with_reducible repeat (first | apply Kd.N_alloc | apply Kd.N_drewN | apply Kd.N_drew)); exact HO_6.out) (Kd.N_base ho12) hb); have n1_ := Aside0.mk (Kd.N_lower ho12 (below_size (by repeat (first | (with_reducible first | exact HB.out | apply below_alloc | apply pw_below_drewN | apply below_drew1) | exact HB.out)))); have n2_ := Aside0.mk (below_step (by repeat (first | (with_reducible first | exact HB.out | apply below_alloc | apply pw_below_drewN | apply below_drew1) | exact HB.out)) hb); clear HO_6; clear HB; have HO_7n := Aside0.mk (Kd.R_below (by (with_reducible repeat (first | apply Kd.R_alloc | apply Kd.R_drewN | apply Kd.R_drew)); exact HO_7.out) hb); clear HO_7; have HO_7 := HO_7n; clear HO_7n; have HO_6 := n0_; have HO124 := n1_; have HB := n2_; clear n0_ n1_ n2_; clear hb ho12; obtain ⟨Ao14, co14, eo14⟩ := Kd.N_slice HO124.out; subst eo14) | ((with_reducible refine gate_builtin (b := .append) (xs := #[.tmp 27, .tmp 29]) rfl ?_); (try (refine gate_guard (by rfl) ?_; dsimp only)); at_builtin; refine Kd.N_append_rows (Kd.slice 5 (Kd.int .u8)) (w0 := w) w.heap.size rfl (.tmp 27) (.tmp 29) 24 22 (.slice none 0 0) 24 rfl Tryd.underlying24 info22 rfl (by decide) (by omega) u6 x6_1 y122 _ _ _ (fun _ => True) (fun k_ => ((fun _ => True)) k_ ∧ some k_ ≠ (u6 : Value).ownBlock) rfl rfl ?aO ?aR (fun _ hk => hk) ?aF ?aB ?aS ?aL ?_; (case aR => exact (by skip; exact Kd.N_F (Kd.N_mono (ok' := (fun k_ => ((fun _ => True)) k_ ∧ some k_ ≠ (u6 : Value).ownBlock)) (HO124.out) (fun k_ hk => ⟨trivial, hk⟩)))); (case aB => exact (by repeat (first | (with_reducible first | exact HB.out | apply below_alloc | apply pw_below_drewN | apply below_drew1) | exact HB.out))); (case aF => exact (fun _ _ => trivial)); (case aO => exact (by (with_reducible repeat (first | apply Kd.N_alloc | apply Kd.N_drewN | apply Kd.N_drew)); exact Kd.N_mono HO_6.out (fun _ hk => trivial))); (case aS => exact (below_size (by repeat (first | (with_reducible first | exact HB.out | apply below_alloc | apply pw_below_drewN | apply below_drew1) | exact HB.out)))); (case aL => have := LMc9.out; omega); intro v126 w13 ho hb hg hat; rw [← Ny125.out] at ho; have HO_7n := Aside0.mk (Kd.R_over' (v := u6) (by (with_reducible repeat (first | apply Kd.R_alloc | apply Kd.R_drewN | apply Kd.R_drew)); exact HO_7.out) (Kd.N_typed (by (with_reducible repeat (first | apply Kd.N_alloc | apply Kd.N_drewN | apply Kd.N_drew)); exact HO_6.out)) (by decide) hg); clear HO_7; have HO_7 := HO_7n; clear HO_7n; have n0_ := Aside0.mk (Kd.N_afterv (ok := (fun _ => True)) (by (with_reducible repeat (first | apply Kd.N_alloc | apply Kd.N_drewN | apply Kd.N_drew)); exact Kd.N_mono HO124.out (fun _ hk => ⟨trivial, hk⟩)) hg hat); have n1_ := Aside0.mk (hb); have n2_ := Aside0.mk (ho); clear HO124; clear HB; clear HO_6; have HO124 := n0_; have HB := n1_; have HO127 := n2_; clear n0_ n1_ n2_; clear ho hb hg hat))
            go_roundg k1
            case measure => have := HK1.out; omega
            case rel => exact ⟨(y125), (wrap64 (x8_1 + 1)), (by first | rfl | (simp; done) | (simp [*]; done)), H', ⟨by have := HK1.out; omega⟩, ⟨by (with_reducible repeat (first | apply Kd.N_alloc | apply Kd.N_drewN | apply Kd.N_drew)); exact HO127.out⟩, ⟨by (with_reducible repeat (first | apply Kd.R_alloc | apply Kd.R_drewN | apply Kd.R_drew)); exact HO_7.out⟩, ⟨by repeat (first | (with_reducible first | exact HB.out | apply below_alloc | apply pw_below_drewN | apply below_drew1) | exact HB.out)⟩⟩
          · rw [if_neg c9] at H
            exact absurd H (by simp)
        · rw [if_neg c8] at H
          have c8b0 : decide (x8_1 < 52) = false := decide_eq_false c8
          clear c8
          obtain ⟨y128, hy128⟩ : ∃ y_ : List (List Int), y_ = (([] : List (List Int))) := ⟨_, rfl⟩
          replace H : (if y128.length + x6_1.length < 5864062014805 then ((some (y128 ++ x6_1 : List (List Int))).bind fun y131 => (if 0 ≤ (wrap64 ((8202 - 4) + (Go.bits .and .i64 a0 7))) then (if (wrap64 ((8202 - 4) + (Go.bits .and .i64 a0 7)) : Int).toNat ≤ 281474976710656 then ((some (([(List.replicate (wrap64 ((8202 - 4) + (Go.bits .and .i64 a0 7)) : Int).toNat 0)] : List (List Int)) : List (List Int))).bind fun y137 => (if y131.length + y137.length < 5864062014805 then ((frame_Join.f (y131 ++ y137)).bind fun bt143 => ((frame_Join.f x6_1).bind fun bt147 => (if bt147.2 = 0 then ((some (([] : List Int) : List Int)).bind fun y151 => (if y151.length + bt147.1.length < 140737488355328 then ((some (y151 ++ bt147.1 : List Int)).bind fun y154 => ((transeptref04_Frame.f k1 (strOfNums (List.replicate (wrap64 ((8202 - 4) + (Go.bits .and .i64 a0 7)) : Int).toNat 0))).bind fun t160 => (if y154.length + t160.size < 140737488355328 then ((some (y154 ++ bytesOf t160 : List Int)).bind fun y161 => ((frame_Split.f y161).bind fun bt164 => (if ((bt143.2 == 0) != (decide ((wrap64 ((8202 - 4) + (Go.bits .and .i64 a0 7))) ≤ 8202))) = true then (transeptlaw04_FrameLong.j1 k1 (wrap64 ((8202 - 4) + (Go.bits .and .i64 a0 7))) a1 t118 8202 bt143.2 y161 bt164.1 bt164.2.1 bt164.2.2 true) else (transeptlaw04_FrameLong.j1 k1 (wrap64 ((8202 - 4) + (Go.bits .and .i64 a0 7))) a1 t118 8202 bt143.2 y161 bt164.1 bt164.2.1 bt164.2.2 ((y161.length : Int) != (wrap64 ((1048576 - 8202) + (wrap64 ((8202 - 4) + (Go.bits .and .i64 a0 7)))))))))) else (none)))) else (none))) else (some false)))) else (none))) else (none)) else (none))) else (none)) = some r := by first | (rw [hy128]; with_reducible exact H) | (have H2_ := (Option.bind_some _ _).symm.trans H; rw [hy128]; with_reducible exact H2_) | (have H2_ := (Option.bind_some _ _).symm.trans H; with_reducible exact H2_) | with_reducible exact H | (rw [hy128]; exact H) | exact H
          have Ny128 := Aside0.mk hy128
          clear hy128
          by_cases c15 : y128.length + x6_1.length < 5864062014805
          · rw [if_pos c15] at H
            have LMc15 := Aside0.mk c15
            clear c15
            obtain ⟨y131, hy131⟩ : ∃ y_ : List (List Int), y_ = (y128 ++ x6_1) := ⟨_, rfl⟩
            replace H : (if 0 ≤ (wrap64 ((8202 - 4) + (Go.bits .and .i64 a0 7))) then (if (wrap64 ((8202 - 4) + (Go.bits .and .i64 a0 7)) : Int).toNat ≤ 281474976710656 then ((some (([(List.replicate (wrap64 ((8202 - 4) + (Go.bits .and .i64 a0 7)) : Int).toNat 0)] : List (List Int)) : List (List Int))).bind fun y137 => (if y131.length + y137.length < 5864062014805 then ((frame_Join.f (y131 ++ y137)).bind fun bt143 => ((frame_Join.f x6_1).bind fun bt147 => (if bt147.2 = 0 then ((some (([] : List Int) : List Int)).bind fun y151 => (if y151.length + bt147.1.length < 140737488355328 then ((some (y151 ++ bt147.1 : List Int)).bind fun y154 => ((transeptref04_Frame.f k1 (strOfNums (List.replicate (wrap64 ((8202 - 4) + (Go.bits .and .i64 a0 7)) : Int).toNat 0))).bind fun t160 => (if y154.length + t160.size < 140737488355328 then ((some (y154 ++ bytesOf t160 : List Int)).bind fun y161 => ((frame_Split.f y161).bind fun bt164 => (if ((bt143.2 == 0) != (decide ((wrap64 ((8202 - 4) + (Go.bits .and .i64 a0 7))) ≤ 8202))) = true then (transeptlaw04_FrameLong.j1 k1 (wrap64 ((8202 - 4) + (Go.bits .and .i64 a0 7))) a1 t118 8202 bt143.2 y161 bt164.1 bt164.2.1 bt164.2.2 true) else (transeptlaw04_FrameLong.j1 k1 (wrap64 ((8202 - 4) + (Go.bits .and .i64 a0 7))) a1 t118 8202 bt143.2 y161 bt164.1 bt164.2.1 bt164.2.2 ((y161.length : Int) != (wrap64 ((1048576 - 8202) + (wrap64 ((8202 - 4) + (Go.bits .and .i64 a0 7)))))))))) else (none)))) else (none))) else (some false)))) else (none))) else (none)) else (none)) = some r := by first | (rw [hy131]; with_reducible exact H) | (have H2_ := (Option.bind_some _ _).symm.trans H; rw [hy131]; with_reducible exact H2_) | (have H2_ := (Option.bind_some _ _).symm.trans H; with_reducible exact H2_) | with_reducible exact H | (rw [hy131]; exact H) | exact H
            have Ny131 := Aside0.mk hy131
            clear hy131
            obtain ⟨ji16, hji16⟩ : ∃ j_ : Int, (wrap64 ((8202 - 4) + (Go.bits .and .i64 a0 7))) = j_ := ⟨_, rfl⟩
            replace H : (if 0 ≤ (ji16) then (if (ji16 : Int).toNat ≤ 281474976710656 then ((some (([(List.replicate (ji16 : Int).toNat 0)] : List (List Int)) : List (List Int))).bind fun y137 => (if y131.length + y137.length < 5864062014805 then ((frame_Join.f (y131 ++ y137)).bind fun bt143 => ((frame_Join.f x6_1).bind fun bt147 => (if bt147.2 = 0 then ((some (([] : List Int) : List Int)).bind fun y151 => (if y151.length + bt147.1.length < 140737488355328 then ((some (y151 ++ bt147.1 : List Int)).bind fun y154 => ((transeptref04_Frame.f k1 (strOfNums (List.replicate (ji16 : Int).toNat 0))).bind fun t160 => (if y154.length + t160.size < 140737488355328 then ((some (y154 ++ bytesOf t160 : List Int)).bind fun y161 => ((frame_Split.f y161).bind fun bt164 => (if ((bt143.2 == 0) != (decide ((ji16) ≤ 8202))) = true then (transeptlaw04_FrameLong.j1 k1 ji16 a1 t118 8202 bt143.2 y161 bt164.1 bt164.2.1 bt164.2.2 true) else (transeptlaw04_FrameLong.j1 k1 ji16 a1 t118 8202 bt143.2 y161 bt164.1 bt164.2.1 bt164.2.2 ((y161.length : Int) != (wrap64 ((1048576 - 8202) + (ji16)))))))) else (none)))) else (none))) else (some false)))) else (none))) else (none)) else (none)) = some r := by first | (rw [hji16] at H; exact H) | (simp only [hji16] at H ⊢; exact H)
            have hji16s : wrap64 (8198 + (Go.bits .and .i64 a0 7)) = ji16 := by rw [← hji16]; rfl
            have hji16w : (IntKind.i64.wrap ((8202 - 4) + (Go.bits .and .i64 a0 7))) = ji16 := (i64_w _).trans hji16
            by_cases c17 : 0 ≤ (ji16)
            · rw [if_pos c17] at H
              have c17b0 := eq_true c17
              have c17b1 : decide (0 ≤ (ji16)) = true := decide_eq_true c17
              clear c17
              by_cases c18 : (ji16 : Int).toNat ≤ 281474976710656
              · rw [if_pos c18] at H
                have c18b0 := eq_true c18
                have c18b1 : decide ((ji16 : Int).toNat ≤ 281474976710656) = true := decide_eq_true c18
                clear c18
                obtain ⟨y134, hy134⟩ : ∃ y_ : List Int, y_ = (List.replicate (ji16 : Int).toNat 0) := ⟨_, rfl⟩
                replace H : ((some (([y134] : List (List Int)) : List (List Int))).bind fun y137 => (if y131.length + y137.length < 5864062014805 then ((frame_Join.f (y131 ++ y137)).bind fun bt143 => ((frame_Join.f x6_1).bind fun bt147 => (if bt147.2 = 0 then ((some (([] : List Int) : List Int)).bind fun y151 => (if y151.length + bt147.1.length < 140737488355328 then ((some (y151 ++ bt147.1 : List Int)).bind fun y154 => ((transeptref04_Frame.f k1 (strOfNums (List.replicate (ji16 : Int).toNat 0))).bind fun t160 => (if y154.length + t160.size < 140737488355328 then ((some (y154 ++ bytesOf t160 : List Int)).bind fun y161 => ((frame_Split.f y161).bind fun bt164 => (if ((bt143.2 == 0) != (decide ((ji16) ≤ 8202))) = true then (transeptlaw04_FrameLong.j1 k1 ji16 a1 t118 8202 bt143.2 y161 bt164.1 bt164.2.1 bt164.2.2 true) else (transeptlaw04_FrameLong.j1 k1 ji16 a1 t118 8202 bt143.2 y161 bt164.1 bt164.2.1 bt164.2.2 ((y161.length : Int) != (wrap64 ((1048576 - 8202) + (ji16)))))))) else (none)))) else (none))) else (some false)))) else (none))) = some r := by first | (rw [hy134]; with_reducible exact H) | (have H2_ := (Option.bind_some _ _).symm.trans H; rw [hy134]; with_reducible exact H2_) | (have H2_ := (Option.bind_some _ _).symm.trans H; with_reducible exact H2_) | with_reducible exact H | (rw [hy134]; exact H) | exact H
                have Ny134 := Aside0.mk hy134
                clear hy134
                obtain ⟨y137, hy137⟩ : ∃ y_ : List (List Int), y_ = (([y134] : List (List Int))) := ⟨_, rfl⟩
                replace H : (if y131.length + y137.length < 5864062014805 then ((frame_Join.f (y131 ++ y137)).bind fun bt143 => ((frame_Join.f x6_1).bind fun bt147 => (if bt147.2 = 0 then ((some (([] : List Int) : List Int)).bind fun y151 => (if y151.length + bt147.1.length < 140737488355328 then ((some (y151 ++ bt147.1 : List Int)).bind fun y154 => ((transeptref04_Frame.f k1 (strOfNums (List.replicate (ji16 : Int).toNat 0))).bind fun t160 => (if y154.length + t160.size < 140737488355328 then ((some (y154 ++ bytesOf t160 : List Int)).bind fun y161 => ((frame_Split.f y161).bind fun bt164 => (if ((bt143.2 == 0) != (decide ((ji16) ≤ 8202))) = true then (transeptlaw04_FrameLong.j1 k1 ji16 a1 t118 8202 bt143.2 y161 bt164.1 bt164.2.1 bt164.2.2 true) else (transeptlaw04_FrameLong.j1 k1 ji16 a1 t118 8202 bt143.2 y161 bt164.1 bt164.2.1 bt164.2.2 ((y161.length : Int) != (wrap64 ((1048576 - 8202) + (ji16)))))))) else (none)))) else (none))) else (some false)))) else (none)) = some r := by first | (rw [hy137]; with_reducible exact H) | (have H2_ := (Option.bind_some _ _).symm.trans H; rw [hy137]; with_reducible exact H2_) | (have H2_ := (Option.bind_some _ _).symm.trans H; with_reducible exact H2_) | with_reducible exact H | (rw [hy137]; exact H) | exact H
                have Ny137 := Aside0.mk hy137
                clear hy137
                by_cases c19 : y131.length + y137.length < 5864062014805
                · rw [if_pos c19] at H
                  have LMc19 := Aside0.mk c19
                  clear c19
                  obtain ⟨y140, hy140⟩ : ∃ y_ : List (List Int), y_ = (y131 ++ y137) := ⟨_, rfl⟩
                  replace H : ((frame_Join.f y140).bind fun bt143 => ((frame_Join.f x6_1).bind fun bt147 => (if bt147.2 = 0 then ((some (([] : List Int) : List Int)).bind fun y151 => (if y151.length + bt147.1.length < 140737488355328 then ((some (y151 ++ bt147.1 : List Int)).bind fun y154 => ((transeptref04_Frame.f k1 (strOfNums (List.replicate (ji16 : Int).toNat 0))).bind fun t160 => (if y154.length + t160.size < 140737488355328 then ((some (y154 ++ bytesOf t160 : List Int)).bind fun y161 => ((frame_Split.f y161).bind fun bt164 => (if ((bt143.2 == 0) != (decide ((ji16) ≤ 8202))) = true then (transeptlaw04_FrameLong.j1 k1 ji16 a1 t118 8202 bt143.2 y161 bt164.1 bt164.2.1 bt164.2.2 true) else (transeptlaw04_FrameLong.j1 k1 ji16 a1 t118 8202 bt143.2 y161 bt164.1 bt164.2.1 bt164.2.2 ((y161.length : Int) != (wrap64 ((1048576 - 8202) + (ji16)))))))) else (none)))) else (none))) else (some false)))) = some r := by first | (rw [hy140]; with_reducible exact H) | (have H2_ := (Option.bind_some _ _).symm.trans H; rw [hy140]; with_reducible exact H2_) | (have H2_ := (Option.bind_some _ _).symm.trans H; with_reducible exact H2_) | with_reducible exact H | (rw [hy140]; exact H) | exact H
                  have Ny140 := Aside0.mk hy140
                  clear hy140
                  replace H := Option.bind_eq_some_iff.mp H
                  obtain ⟨⟨t143, t144⟩, A200, H⟩ := H
                  replace H : ((frame_Join.f x6_1).bind fun bt147 => (if bt147.2 = 0 then ((some (([] : List Int) : List Int)).bind fun y151 => (if y151.length + bt147.1.length < 140737488355328 then ((some (y151 ++ bt147.1 : List Int)).bind fun y154 => ((transeptref04_Frame.f k1 (strOfNums (List.replicate (ji16 : Int).toNat 0))).bind fun t160 => (if y154.length + t160.size < 140737488355328 then ((some (y154 ++ bytesOf t160 : List Int)).bind fun y161 => ((frame_Split.f y161).bind fun bt164 => (if ((t144 == 0) != (decide ((ji16) ≤ 8202))) = true then (transeptlaw04_FrameLong.j1 k1 ji16 a1 t118 8202 t144 y161 bt164.1 bt164.2.1 bt164.2.2 true) else (transeptlaw04_FrameLong.j1 k1 ji16 a1 t118 8202 t144 y161 bt164.1 bt164.2.1 bt164.2.2 ((y161.length : Int) != (wrap64 ((1048576 - 8202) + (ji16)))))))) else (none)))) else (none))) else (some false))) = some r := H
                  have A20 := Aside0.mk A200
                  clear A200
                  replace H := Option.bind_eq_some_iff.mp H
                  obtain ⟨⟨t147, t148⟩, A210, H⟩ := H
                  replace H : (if t148 = 0 then ((some (([] : List Int) : List Int)).bind fun y151 => (if y151.length + t147.length < 140737488355328 then ((some (y151 ++ t147 : List Int)).bind fun y154 => ((transeptref04_Frame.f k1 (strOfNums (List.replicate (ji16 : Int).toNat 0))).bind fun t160 => (if y154.length + t160.size < 140737488355328 then ((some (y154 ++ bytesOf t160 : List Int)).bind fun y161 => ((frame_Split.f y161).bind fun bt164 => (if ((t144 == 0) != (decide ((ji16) ≤ 8202))) = true then (transeptlaw04_FrameLong.j1 k1 ji16 a1 t118 8202 t144 y161 bt164.1 bt164.2.1 bt164.2.2 true) else (transeptlaw04_FrameLong.j1 k1 ji16 a1 t118 8202 t144 y161 bt164.1 bt164.2.1 bt164.2.2 ((y161.length : Int) != (wrap64 ((1048576 - 8202) + (ji16)))))))) else (none)))) else (none))) else (some false)) = some r := H
                  have A21 := Aside0.mk A210
                  clear A210
                  by_cases c22 : t148 = 0
                  · rw [if_pos c22] at H
                    have c22b0 : (t148 == 0) = true := beq_iff_eq.mpr c22
                    have c22b1 : (t148 != 0) = false := bne_eq_false_iff_eq.mpr c22
                    clear c22
                    obtain ⟨y151, hy151⟩ : ∃ y_ : List Int, y_ = (([] : List Int)) := ⟨_, rfl⟩
                    replace H : (if y151.length + t147.length < 140737488355328 then ((some (y151 ++ t147 : List Int)).bind fun y154 => ((transeptref04_Frame.f k1 (strOfNums (List.replicate (ji16 : Int).toNat 0))).bind fun t160 => (if y154.length + t160.size < 140737488355328 then ((some (y154 ++ bytesOf t160 : List Int)).bind fun y161 => ((frame_Split.f y161).bind fun bt164 => (if ((t144 == 0) != (decide ((ji16) ≤ 8202))) = true then (transeptlaw04_FrameLong.j1 k1 ji16 a1 t118 8202 t144 y161 bt164.1 bt164.2.1 bt164.2.2 true) else (transeptlaw04_FrameLong.j1 k1 ji16 a1 t118 8202 t144 y161 bt164.1 bt164.2.1 bt164.2.2 ((y161.length : Int) != (wrap64 ((1048576 - 8202) + (ji16)))))))) else (none)))) else (none)) = some r := by first | (rw [hy151]; with_reducible exact H) | (have H2_ := (Option.bind_some _ _).symm.trans H; rw [hy151]; with_reducible exact H2_) | (have H2_ := (Option.bind_some _ _).symm.trans H; with_reducible exact H2_) | with_reducible exact H | (rw [hy151]; exact H) | exact H
                    have Ny151 := Aside0.mk hy151
                    clear hy151
                    by_cases c23 : y151.length + t147.length < 140737488355328
                    · rw [if_pos c23] at H
                      have LMc23 := Aside0.mk c23
                      clear c23
                      obtain ⟨y154, hy154⟩ : ∃ y_ : List Int, y_ = (y151 ++ t147) := ⟨_, rfl⟩
                      replace H : ((transeptref04_Frame.f k1 (strOfNums (List.replicate (ji16 : Int).toNat 0))).bind fun t160 => (if y154.length + t160.size < 140737488355328 then ((some (y154 ++ bytesOf t160 : List Int)).bind fun y161 => ((frame_Split.f y161).bind fun bt164 => (if ((t144 == 0) != (decide ((ji16) ≤ 8202))) = true then (transeptlaw04_FrameLong.j1 k1 ji16 a1 t118 8202 t144 y161 bt164.1 bt164.2.1 bt164.2.2 true) else (transeptlaw04_FrameLong.j1 k1 ji16 a1 t118 8202 t144 y161 bt164.1 bt164.2.1 bt164.2.2 ((y161.length : Int) != (wrap64 ((1048576 - 8202) + (ji16)))))))) else (none))) = some r := by first | (rw [hy154]; with_reducible exact H) | (have H2_ := (Option.bind_some _ _).symm.trans H; rw [hy154]; with_reducible exact H2_) | (have H2_ := (Option.bind_some _ _).symm.trans H; with_reducible exact H2_) | with_reducible exact H | (rw [hy154]; exact H) | exact H
                      have Ny154 := Aside0.mk hy154
                      clear hy154
                      obtain ⟨y157, hy157⟩ : ∃ y_ : List Int, y_ = (List.replicate (ji16 : Int).toNat 0) := ⟨_, rfl⟩
                      replace H : ((transeptref04_Frame.f k1 (strOfNums y157)).bind fun t160 => (if y154.length + t160.size < 140737488355328 then ((some (y154 ++ bytesOf t160 : List Int)).bind fun y161 => ((frame_Split.f y161).bind fun bt164 => (if ((t144 == 0) != (decide ((ji16) ≤ 8202))) = true then (transeptlaw04_FrameLong.j1 k1 ji16 a1 t118 8202 t144 y161 bt164.1 bt164.2.1 bt164.2.2 true) else (transeptlaw04_FrameLong.j1 k1 ji16 a1 t118 8202 t144 y161 bt164.1 bt164.2.1 bt164.2.2 ((y161.length : Int) != (wrap64 ((1048576 - 8202) + (ji16)))))))) else (none))) = some r := by first | (rw [hy157]; with_reducible exact H) | (have H2_ := (Option.bind_some _ _).symm.trans H; rw [hy157]; with_reducible exact H2_) | (have H2_ := (Option.bind_some _ _).symm.trans H; with_reducible exact H2_) | with_reducible exact H | (rw [hy157]; exact H) | exact H
                      have Ny157 := Aside0.mk hy157
                      clear hy157
                      replace H := Option.bind_eq_some_iff.mp H
                      obtain ⟨t160, A240, H⟩ := H
                      replace H : (if y154.length + t160.size < 140737488355328 then ((some (y154 ++ bytesOf t160 : List Int)).bind fun y161 => ((frame_Split.f y161).bind fun bt164 => (if ((t144 == 0) != (decide ((ji16) ≤ 8202))) = true then (transeptlaw04_FrameLong.j1 k1 ji16 a1 t118 8202 t144 y161 bt164.1 bt164.2.1 bt164.2.2 true) else (transeptlaw04_FrameLong.j1 k1 ji16 a1 t118 8202 t144 y161 bt164.1 bt164.2.1 bt164.2.2 ((y161.length : Int) != (wrap64 ((1048576 - 8202) + (ji16)))))))) else (none)) = some r := H
                      have A24 := Aside0.mk A240
                      clear A240
                      by_cases c25 : y154.length + t160.size < 140737488355328
                      · rw [if_pos c25] at H
                        have LMc25 := Aside0.mk c25
                        clear c25
                        obtain ⟨y161, hy161⟩ : ∃ y_ : List Int, y_ = (y154 ++ bytesOf t160) := ⟨_, rfl⟩
                        replace H : ((frame_Split.f y161).bind fun bt164 => (if ((t144 == 0) != (decide ((ji16) ≤ 8202))) = true then (transeptlaw04_FrameLong.j1 k1 ji16 a1 t118 8202 t144 y161 bt164.1 bt164.2.1 bt164.2.2 true) else (transeptlaw04_FrameLong.j1 k1 ji16 a1 t118 8202 t144 y161 bt164.1 bt164.2.1 bt164.2.2 ((y161.length : Int) != (wrap64 ((1048576 - 8202) + (ji16))))))) = some r := by first | (rw [hy161]; with_reducible exact H) | (have H2_ := (Option.bind_some _ _).symm.trans H; rw [hy161]; with_reducible exact H2_) | (have H2_ := (Option.bind_some _ _).symm.trans H; with_reducible exact H2_) | with_reducible exact H | (rw [hy161]; exact H) | exact H
                        have Ny161 := Aside0.mk hy161
                        clear hy161
                        replace H := Option.bind_eq_some_iff.mp H
                        obtain ⟨⟨t164, t165, t166⟩, A260, H⟩ := H
                        replace H : (if ((t144 == 0) != (decide ((ji16) ≤ 8202))) = true then (transeptlaw04_FrameLong.j1 k1 ji16 a1 t118 8202 t144 y161 t164 t165 t166 true) else (transeptlaw04_FrameLong.j1 k1 ji16 a1 t118 8202 t144 y161 t164 t165 t166 ((y161.length : Int) != (wrap64 ((1048576 - 8202) + (ji16)))))) = some r := H
                        have A26 := Aside0.mk A260
                        clear A260
                        have HC27 := Aside0.mk H
                        clear H
                        obtain ⟨Ao28, co28, eo28⟩ := Kd.N_slice HO_6.out
                        subst eo28
                        try go_wp2
                        have n0_ := Aside0.mk (Kd.N_drew HO_6.out)
                        have n1_ := Aside0.mk (Kd.R_drew HO_7.out)
                        have n2_ := Aside0.mk (below_drew1 HB.out)
                        clear HO_6
                        clear HO_7
                        clear HB
                        have HO_6 := n0_
                        have HO_7 := n1_
                        have HB := n2_
                        clear n0_ n1_ n2_
                        refine start_ (n := 13) (S := fun w' => True) (ds := []) #[false, false, false, false, false, false, false, false, false, false, false, false, false] (by kernel_rfl) rfl rfl trivial (fun hHeld => ?_); refine with_tabW transeptlaw04_FrameLong.tab10 transeptlaw04_FrameLong.bits10 (fun HT_ HW_ => ?_)
                        generalize wr.drew = w29 at HO_6 HO_7 HB hHeld ⊢
                        refine pure_ (i := 1) (N := some 38) (v := ?_) (a' := ?_) #[false, true, false, false, false, false, false, false, false, false, false, false, false] rfl rfl (any_of HT_.out (by kernel_rfl)) (fun _ _ _ h => h) (Or.inl ⟨by rfl, ?_⟩) ?_ ?_
                        rotate_left
                        · intro w'
                          go_simp
                          with_reducible rfl
                        rotate_left
                        · simp only [Act.put, List.setIfInBounds_toArray, List.set_cons_zero, List.set_cons_succ, i64_w, i32_w]
                          rfl
                        refine pure_ (i := 3) (N := some 40) (v := ?_) (a' := ?_) #[false, true, false, true, false, false, false, false, false, false, false, false, false] rfl rfl (any_of HT_.out (by kernel_rfl)) (fun _ _ _ h => h) (Or.inl ⟨by rfl, ?_⟩) ?_ ?_
                        rotate_left
                        · intro w'
                          go_simp
                          with_reducible rfl
                        rotate_left
                        · simp only [Act.put, List.setIfInBounds_toArray, List.set_cons_zero, List.set_cons_succ, i64_w, i32_w]
                          rfl
                        refine join_ (σ := Value × Value × Value × Value) 7 #[true, true, true, true, true, true, false, false, false, false, false, false, false] (fun s_ => [(37, s_.1), (39, s_.2.1), (41, s_.2.2.1), (42, s_.2.2.2)]) (fun s_ w' => (Kd.N (Kd.slice 5 (Kd.int .u8)) 22 w' w.heap.size (fun k_ => some k_ ≠ (s_.2.2.2 : Value).ownBlock) s_.2.1 y131) ∧ (Kd.N (Kd.slice 5 (Kd.int .u8)) 22 w' w.heap.size (fun k_ => some k_ ≠ (s_.2.1 : Value).ownBlock ∧ some k_ ≠ (.slice Ao28 x6_1.length co28 : Value).ownBlock ∧ some k_ ≠ (v120 : Value).ownBlock) s_.2.2.2 y137) ∧ (Kd.N (Kd.slice 5 (Kd.int .u8)) 22 w' w.heap.size (fun k_ => some k_ ≠ (s_.2.1 : Value).ownBlock ∧ some k_ ≠ (s_.2.2.2 : Value).ownBlock) (.slice Ao28 x6_1.length co28) x6_1) ∧ (Kd.R (Kd.int .u8) 5 w' w.heap.size (fun _ => True) v120 y119) ∧ (Below w.heap.size w w')) ?_ ?_
                        rotate_left
                        · intro hJ0_2_4_5
                          refine join_ (σ := Value × Value × Value) 8 #[true, true, true, true, true, false, false, false, false, false, false, false, false] (fun s_ => [(37, s_.1), (39, s_.2.1), (41, s_.2.2)]) (fun s_ w' => (Kd.N (Kd.slice 5 (Kd.int .u8)) 22 w' w.heap.size (fun k_ => some k_ ≠ (s_.2.2 : Value).ownBlock) s_.2.1 y131) ∧ (Kd.R (Kd.int .u8) 5 w' w.heap.size (fun k_ => some k_ ≠ (v120 : Value).ownBlock) s_.2.2 y134) ∧ (Kd.N (Kd.slice 5 (Kd.int .u8)) 22 w' w.heap.size (fun k_ => some k_ ≠ (s_.2.1 : Value).ownBlock ∧ some k_ ≠ (s_.2.2 : Value).ownBlock) (.slice Ao28 x6_1.length co28) x6_1) ∧ (Kd.R (Kd.int .u8) 5 w' w.heap.size (fun k_ => some k_ ≠ (s_.2.2 : Value).ownBlock) v120 y119) ∧ (Below w.heap.size w w')) ?_ ?_
                          rotate_left
                          · intro hJ0_2_4
                            refine join_ (σ := Value × Value × Value) 8 #[true, true, false, true, true, true, false, false, false, false, false, false, false] (fun s_ => [(37, s_.1), (41, s_.2.1), (42, s_.2.2)]) (fun s_ w' => (Kd.N (Kd.slice 5 (Kd.int .u8)) 22 w' w.heap.size (fun k_ => some k_ ≠ (s_.2.2 : Value).ownBlock ∧ some k_ ≠ (.slice Ao28 x6_1.length co28 : Value).ownBlock ∧ some k_ ≠ (v120 : Value).ownBlock) s_.1 y128) ∧ (Kd.N (Kd.slice 5 (Kd.int .u8)) 22 w' w.heap.size (fun k_ => some k_ ≠ (s_.1 : Value).ownBlock ∧ some k_ ≠ (.slice Ao28 x6_1.length co28 : Value).ownBlock ∧ some k_ ≠ (v120 : Value).ownBlock) s_.2.2 y137) ∧ (Kd.N (Kd.slice 5 (Kd.int .u8)) 22 w' w.heap.size (fun k_ => some k_ ≠ (s_.1 : Value).ownBlock ∧ some k_ ≠ (s_.2.2 : Value).ownBlock) (.slice Ao28 x6_1.length co28) x6_1) ∧ (Kd.R (Kd.int .u8) 5 w' w.heap.size (fun _ => True) v120 y119) ∧ (Below w.heap.size w w')) ?_ ?_
                            rotate_left
                            · intro hJ0_4_5
                              refine join_ (σ := Value × Value) 9 #[true, true, true, true, false, false, false, false, false, false, false, false, false] (fun s_ => [(37, s_.1), (39, s_.2)]) (fun s_ w' => (Kd.N (Kd.slice 5 (Kd.int .u8)) 22 w' w.heap.size (fun _ => True) s_.2 y131) ∧ (Kd.N (Kd.slice 5 (Kd.int .u8)) 22 w' w.heap.size (fun k_ => some k_ ≠ (s_.2 : Value).ownBlock) (.slice Ao28 x6_1.length co28) x6_1) ∧ (Kd.R (Kd.int .u8) 5 w' w.heap.size (fun _ => True) v120 y119) ∧ (Below w.heap.size w w')) ?_ ?_
                              rotate_left
                              · intro hJ0_2
                                refine join_ (σ := Value × Value) 9 #[true, true, false, true, true, false, false, false, false, false, false, false, false] (fun s_ => [(37, s_.1), (41, s_.2)]) (fun s_ w' => (Kd.N (Kd.slice 5 (Kd.int .u8)) 22 w' w.heap.size (fun k_ => some k_ ≠ (s_.2 : Value).ownBlock ∧ some k_ ≠ (.slice Ao28 x6_1.length co28 : Value).ownBlock ∧ some k_ ≠ (v120 : Value).ownBlock) s_.1 y128) ∧ (Kd.R (Kd.int .u8) 5 w' w.heap.size (fun k_ => some k_ ≠ (v120 : Value).ownBlock) s_.2 y134) ∧ (Kd.N (Kd.slice 5 (Kd.int .u8)) 22 w' w.heap.size (fun k_ => some k_ ≠ (s_.1 : Value).ownBlock ∧ some k_ ≠ (s_.2 : Value).ownBlock) (.slice Ao28 x6_1.length co28) x6_1) ∧ (Kd.R (Kd.int .u8) 5 w' w.heap.size (fun k_ => some k_ ≠ (s_.2 : Value).ownBlock) v120 y119) ∧ (Below w.heap.size w w')) ?_ ?_
                                rotate_left
                                · intro hJ0_4
                                  refine join_ (σ := Value × Value) 9 #[false, true, false, true, true, true, false, false, false, false, false, false, false] (fun s_ => [(41, s_.1), (42, s_.2)]) (fun s_ w' => (Kd.N (Kd.slice 5 (Kd.int .u8)) 22 w' w.heap.size (fun k_ => some k_ ≠ (.slice Ao28 x6_1.length co28 : Value).ownBlock ∧ some k_ ≠ (v120 : Value).ownBlock) s_.2 y137) ∧ (Kd.N (Kd.slice 5 (Kd.int .u8)) 22 w' w.heap.size (fun k_ => some k_ ≠ (s_.2 : Value).ownBlock) (.slice Ao28 x6_1.length co28) x6_1) ∧ (Kd.R (Kd.int .u8) 5 w' w.heap.size (fun _ => True) v120 y119) ∧ (Below w.heap.size w w')) ?_ ?_
                                  rotate_left
                                  · intro hJ4_5
                                    refine join_ (σ := Value) 10 #[true, true, false, true, false, false, false, false, false, false, false, false, false] (fun s_ => [(37, s_)]) (fun s_ w' => (Kd.N (Kd.slice 5 (Kd.int .u8)) 22 w' w.heap.size (fun k_ => some k_ ≠ (.slice Ao28 x6_1.length co28 : Value).ownBlock ∧ some k_ ≠ (v120 : Value).ownBlock) s_ y128) ∧ (Kd.N (Kd.slice 5 (Kd.int .u8)) 22 w' w.heap.size (fun k_ => some k_ ≠ (s_ : Value).ownBlock) (.slice Ao28 x6_1.length co28) x6_1) ∧ (Kd.R (Kd.int .u8) 5 w' w.heap.size (fun _ => True) v120 y119) ∧ (Below w.heap.size w w')) ?_ ?_
                                    rotate_left
                                    · intro hJ0
                                      refine join_ (σ := Value) 10 #[false, true, false, true, true, false, false, false, false, false, false, false, false] (fun s_ => [(41, s_)]) (fun s_ w' => (Kd.R (Kd.int .u8) 5 w' w.heap.size (fun k_ => some k_ ≠ (v120 : Value).ownBlock) s_ y134) ∧ (Kd.N (Kd.slice 5 (Kd.int .u8)) 22 w' w.heap.size (fun k_ => some k_ ≠ (s_ : Value).ownBlock) (.slice Ao28 x6_1.length co28) x6_1) ∧ (Kd.R (Kd.int .u8) 5 w' w.heap.size (fun k_ => some k_ ≠ (s_ : Value).ownBlock) v120 y119) ∧ (Below w.heap.size w w')) ?_ ?_
                                      rotate_left
                                      · intro hJ4
                                        refine two_ (i := 0) (j := 4) (Ni := some 37) (Nj := some 41) #[true, true, false, true, false, false, false, false, false, false, false, false, false] #[false, true, false, true, true, false, false, false, false, false, false, false, false] rfl rfl rfl rfl (two_of HT_.out (by kernel_rfl)) (by decide) (by decide) (fun K hK => ?_) (fun K hK => ?_)
                                        · skip
                                          refine Kd.N_lit_step (Kd.slice 5 (Kd.int .u8)) _ 22 ?hg (N' := 37) ?hd (xs := ([] : List (List Int))) (inner := []) (ok := (fun k_ => some k_ ≠ (.slice Ao28 x6_1.length co28 : Value).ownBlock ∧ some k_ ≠ (v120 : Value).ownBlock)) (okp := (fun k_ => some k_ ≠ (.slice Ao28 x6_1.length co28 : Value).ownBlock ∧ some k_ ≠ (v120 : Value).ownBlock)) ?hr ?hp (fun _ hk => hk) ((show ∀ k_, w29.heap.size ≤ k_ → (fun k_ => some k_ ≠ (.slice Ao28 x6_1.length co28 : Value).ownBlock ∧ some k_ ≠ (v120 : Value).ownBlock) k_ from fun k_ hk => ⟨Kd.fresh' (Kd.N_lt (by (with_reducible repeat (first | apply Kd.N_alloc | apply Kd.N_drewN | apply Kd.N_drew)); exact HO_6.out)) k_ hk, Kd.fresh' (Kd.R_lt (by (with_reducible repeat (first | apply Kd.R_alloc | apply Kd.R_drewN | apply Kd.R_drew)); exact HO_7.out)) k_ hk⟩) _ (Nat.le_refl _)) (Below.refl _ _) (Nat.le_refl _) (by simp) ?_; (case hd => rfl); (case hg => rfl); (case hr => first | (go_simp; done) | (go_simp; rfl)); (case hp => exact (Reps.none _ _))
                                          intro v129 w30 ho31 hb hg_ hnew_
                                          clear hg_ hnew_
                                          (first | rw [← Ny128.out] at ho31 | (simp only [Int.reduceToNat] at ho31; rw [← Ny128.out] at ho31))
                                          have n0_ := Aside0.mk (Kd.N_elder' (by (with_reducible repeat (first | apply Kd.N_alloc | apply Kd.N_drewN | apply Kd.N_drew)); exact HO_6.out) (Kd.N_base ho31) hb)
                                          have n1_ := Aside0.mk (Kd.R_below (by (with_reducible repeat (first | apply Kd.R_alloc | apply Kd.R_drewN | apply Kd.R_drew)); exact HO_7.out) hb)
                                          have n2_ := Aside0.mk (Kd.N_lower ho31 (below_size (by repeat (first | (with_reducible first | exact HB.out | apply below_alloc | apply pw_below_drewN | apply below_drew1) | exact HB.out))))
                                          have n3_ := Aside0.mk (below_step (by repeat (first | (with_reducible first | exact HB.out | apply below_alloc | apply pw_below_drewN | apply below_drew1) | exact HB.out)) hb)
                                          clear HO_6
                                          clear HO_7
                                          clear HB
                                          have HO_6 := n0_
                                          have HO_7 := n1_
                                          have HO130 := n2_
                                          have HB := n3_
                                          clear n0_ n1_ n2_ n3_
                                          clear hb ho31
                                          refine hK.out _ _ trivial (fun hHeld => ?_)
                                          clear hK K
                                          refine norm_ (a' := ?_) ?_ ?_
                                          rotate_left
                                          · show Act.put _ (some 37) _ = _
                                            simp only [Act.put, List.setIfInBounds_toArray, List.set_cons_zero, List.set_cons_succ, i64_w, i32_w]
                                            rfl
                                          exact norm_ (by first | (simp only [putAll, Act.put, List.setIfInBounds_toArray, List.set_cons_zero, List.set_cons_succ]; done) | (simp only [putAll, Act.put, List.setIfInBounds_toArray, List.set_cons_zero, List.set_cons_succ]; rfl)) (hJ0 (v129) _ ⟨(by (with_reducible repeat (first | apply Kd.N_alloc | apply Kd.N_drewN | apply Kd.N_drew)); exact HO130.out), (by (with_reducible repeat (first | apply Kd.N_alloc | apply Kd.N_drewN | apply Kd.N_drew)); exact Kd.N_mono HO_6.out (fun _ hk => hk.2)), (by (with_reducible repeat (first | apply Kd.R_alloc | apply Kd.R_drewN | apply Kd.R_drew)); exact HO_7.out), (by repeat (first | (with_reducible first | exact HB.out | apply below_alloc | apply pw_below_drewN | apply below_drew1) | exact HB.out))⟩)
                                        · skip
                                          refine Kd.R_make_step (Kd.int .u8) _ 5 (by rfl) (N := 41) rfl 22 _ _ rfl ji16 rfl rfl Tryd.underlying22 (.int .u8 0) 1 info5 rfl (by decide) (by omega) 0 (ok := fun _ => True) (okp := fun _ => True) rfl (fun _ hk => hk) trivial (of_decide_eq_true (by first | (with_reducible assumption) | assumption)) (Nat.le_trans (Nat.mul_le_mul_right _ (of_decide_eq_true (by first | (with_reducible assumption) | assumption) : ji16.toNat ≤ 281474976710656)) (by omega)) (Below.refl _ _) (Nat.le_refl _) ?_
                                          intro v135 w30 ho31 hb hg_ hnew_
                                          clear hg_ hnew_
                                          (first | rw [← Ny134.out] at ho31 | (simp only [Int.reduceToNat] at ho31; rw [← Ny134.out] at ho31))
                                          have n0_ := Aside0.mk (Kd.N_elder' (by (with_reducible repeat (first | apply Kd.N_alloc | apply Kd.N_drewN | apply Kd.N_drew)); exact HO_6.out) (Kd.R_base ho31) hb)
                                          have n1_ := Aside0.mk (Kd.R_elder' (by (with_reducible repeat (first | apply Kd.R_alloc | apply Kd.R_drewN | apply Kd.R_drew)); exact HO_7.out) (Kd.R_base ho31) hb)
                                          have n2_ := Aside0.mk (Kd.R_lower (Kd.R_new' ho31 (Kd.R_lt (by (with_reducible repeat (first | apply Kd.R_alloc | apply Kd.R_drewN | apply Kd.R_drew)); exact HO_7.out))) (below_size (by repeat (first | (with_reducible first | exact HB.out | apply below_alloc | apply pw_below_drewN | apply below_drew1) | exact HB.out))))
                                          have n3_ := Aside0.mk (below_step (by repeat (first | (with_reducible first | exact HB.out | apply below_alloc | apply pw_below_drewN | apply below_drew1) | exact HB.out)) hb)
                                          clear HO_6
                                          clear HO_7
                                          clear HB
                                          have HO_6 := n0_
                                          have HO_7 := n1_
                                          have HO136 := n2_
                                          have HB := n3_
                                          clear n0_ n1_ n2_ n3_
                                          clear hb ho31
                                          refine hK.out _ _ trivial (fun hHeld => ?_)
                                          clear hK K
                                          refine norm_ (a' := ?_) ?_ ?_
                                          rotate_left
                                          · show Act.put _ (some 41) _ = _
                                            simp only [Act.put, List.setIfInBounds_toArray, List.set_cons_zero, List.set_cons_succ, i64_w, i32_w]
                                            rfl
                                          exact norm_ (by first | (simp only [putAll, Act.put, List.setIfInBounds_toArray, List.set_cons_zero, List.set_cons_succ]; done) | (simp only [putAll, Act.put, List.setIfInBounds_toArray, List.set_cons_zero, List.set_cons_succ]; rfl)) (hJ4 (v135) _ ⟨(by (with_reducible repeat (first | apply Kd.R_alloc | apply Kd.R_drewN | apply Kd.R_drew)); exact Kd.R_mono HO136.out (fun _ hk => hk.2)), (by (with_reducible repeat (first | apply Kd.N_alloc | apply Kd.N_drewN | apply Kd.N_drew)); exact Kd.N_mono HO_6.out (fun _ hk => hk.2)), (by (with_reducible repeat (first | apply Kd.R_alloc | apply Kd.R_drewN | apply Kd.R_drew)); exact Kd.R_mono HO_7.out (fun _ hk => hk.2)), (by repeat (first | (with_reducible first | exact HB.out | apply below_alloc | apply pw_below_drewN | apply below_drew1) | exact HB.out))⟩)
                                      · skip
                                        rintro v135 w32 ⟨h0_, h1_, h2_, h3_⟩
                                        have n0_ : Aside0 (Kd.R (Kd.int .u8) 5 w32 w.heap.size (fun k_ => some k_ ≠ (v120 : Value).ownBlock) v135 y134) := ⟨h0_⟩
                                        have n1_ : Aside0 (Kd.N (Kd.slice 5 (Kd.int .u8)) 22 w32 w.heap.size (fun k_ => some k_ ≠ (v135 : Value).ownBlock) (.slice Ao28 x6_1.length co28) x6_1) := ⟨h1_⟩
                                        have n2_ : Aside0 (Kd.R (Kd.int .u8) 5 w32 w.heap.size (fun k_ => some k_ ≠ (v135 : Value).ownBlock) v120 y119) := ⟨h2_⟩
                                        have n3_ : Aside0 (Below w.heap.size w w32) := ⟨h3_⟩
                                        clear HO_6
                                        clear HO_7
                                        clear HB
                                        clear h0_ h1_ h2_ h3_
                                        have HO136 := n0_
                                        have HO_6 := n1_
                                        have HO_7 := n2_
                                        have HB := n3_
                                        clear n0_ n1_ n2_ n3_
                                        have hHeld := trivial
                                        refine norm_ (a' := ?_) ?_ ?_
                                        rotate_left
                                        · simp only [putAll, Act.put, List.setIfInBounds_toArray, List.set_cons_zero, List.set_cons_succ, *]
                                          rfl
                                        refine two_ (i := 0) (j := 5) (Ni := some 37) (Nj := some 42) #[true, true, false, true, true, false, false, false, false, false, false, false, false] #[false, true, false, true, true, true, false, false, false, false, false, false, false] rfl rfl rfl rfl (two_of HT_.out (by kernel_rfl)) (by decide) (by decide) (fun K hK => ?_) (fun K hK => ?_)
                                        · skip
                                          refine Kd.N_lit_step (Kd.slice 5 (Kd.int .u8)) _ 22 ?hg (N' := 37) ?hd (xs := ([] : List (List Int))) (inner := []) (ok := (fun k_ => some k_ ≠ (.slice Ao28 x6_1.length co28 : Value).ownBlock ∧ some k_ ≠ (v120 : Value).ownBlock ∧ some k_ ≠ (v135 : Value).ownBlock)) (okp := (fun k_ => some k_ ≠ (.slice Ao28 x6_1.length co28 : Value).ownBlock ∧ some k_ ≠ (v120 : Value).ownBlock ∧ some k_ ≠ (v135 : Value).ownBlock)) ?hr ?hp (fun _ hk => hk) ((show ∀ k_, w32.heap.size ≤ k_ → (fun k_ => some k_ ≠ (.slice Ao28 x6_1.length co28 : Value).ownBlock ∧ some k_ ≠ (v120 : Value).ownBlock ∧ some k_ ≠ (v135 : Value).ownBlock) k_ from fun k_ hk => ⟨Kd.fresh' (Kd.N_lt (by (with_reducible repeat (first | apply Kd.N_alloc | apply Kd.N_drewN | apply Kd.N_drew)); exact HO_6.out)) k_ hk, Kd.fresh' (Kd.R_lt (by (with_reducible repeat (first | apply Kd.R_alloc | apply Kd.R_drewN | apply Kd.R_drew)); exact HO_7.out)) k_ hk, Kd.fresh' (Kd.R_lt (by (with_reducible repeat (first | apply Kd.R_alloc | apply Kd.R_drewN | apply Kd.R_drew)); exact HO136.out)) k_ hk⟩) _ (Nat.le_refl _)) (Below.refl _ _) (Nat.le_refl _) (by simp) ?_; (case hd => rfl); (case hg => rfl); (case hr => first | (go_simp; done) | (go_simp; rfl)); (case hp => exact (Reps.none _ _))
                                          intro v129 w33 ho34 hb hg_ hnew_
                                          clear hg_ hnew_
                                          (first | rw [← Ny128.out] at ho34 | (simp only [Int.reduceToNat] at ho34; rw [← Ny128.out] at ho34))
                                          have n0_ := Aside0.mk (Kd.N_elder' (by (with_reducible repeat (first | apply Kd.N_alloc | apply Kd.N_drewN | apply Kd.N_drew)); exact HO_6.out) (Kd.N_base ho34) hb)
                                          have n1_ := Aside0.mk (Kd.R_below (by (with_reducible repeat (first | apply Kd.R_alloc | apply Kd.R_drewN | apply Kd.R_drew)); exact HO_7.out) hb)
                                          have n2_ := Aside0.mk (Kd.R_below (by (with_reducible repeat (first | apply Kd.R_alloc | apply Kd.R_drewN | apply Kd.R_drew)); exact HO136.out) hb)
                                          have n3_ := Aside0.mk (Kd.N_lower ho34 (below_size (by repeat (first | (with_reducible first | exact HB.out | apply below_alloc | apply pw_below_drewN | apply below_drew1) | exact HB.out))))
                                          have n4_ := Aside0.mk (below_step (by repeat (first | (with_reducible first | exact HB.out | apply below_alloc | apply pw_below_drewN | apply below_drew1) | exact HB.out)) hb)
                                          clear HO_6
                                          clear HO_7
                                          clear HO136
                                          clear HB
                                          have HO_6 := n0_
                                          have HO_7 := n1_
                                          have HO136 := n2_
                                          have HO130 := n3_
                                          have HB := n4_
                                          clear n0_ n1_ n2_ n3_ n4_
                                          clear hb ho34
                                          refine hK.out _ _ trivial (fun hHeld => ?_)
                                          clear hK K
                                          refine norm_ (a' := ?_) ?_ ?_
                                          rotate_left
                                          · show Act.put _ (some 37) _ = _
                                            simp only [Act.put, List.setIfInBounds_toArray, List.set_cons_zero, List.set_cons_succ, i64_w, i32_w]
                                            rfl
                                          exact norm_ (by first | (simp only [putAll, Act.put, List.setIfInBounds_toArray, List.set_cons_zero, List.set_cons_succ]; done) | (simp only [putAll, Act.put, List.setIfInBounds_toArray, List.set_cons_zero, List.set_cons_succ]; rfl)) (hJ0_4 (v129, v135) _ ⟨(by (with_reducible repeat (first | apply Kd.N_alloc | apply Kd.N_drewN | apply Kd.N_drew)); exact Kd.N_mono HO130.out (fun _ hk => ⟨hk.2.2, ⟨hk.1, hk.2.1⟩⟩)), (by (with_reducible repeat (first | apply Kd.R_alloc | apply Kd.R_drewN | apply Kd.R_drew)); exact HO136.out), (by (with_reducible repeat (first | apply Kd.N_alloc | apply Kd.N_drewN | apply Kd.N_drew)); exact Kd.N_mono HO_6.out (fun _ hk => ⟨hk.2, hk.1⟩)), (by (with_reducible repeat (first | apply Kd.R_alloc | apply Kd.R_drewN | apply Kd.R_drew)); exact HO_7.out), (by repeat (first | (with_reducible first | exact HB.out | apply below_alloc | apply pw_below_drewN | apply below_drew1) | exact HB.out))⟩)
                                        · skip
                                          obtain ⟨Ao33, co33, eo33⟩ := Kd.R_slice HO136.out
                                          subst eo33
                                          refine Kd.N_lit_step (Kd.slice 5 (Kd.int .u8)) _ 22 ?hg (N' := 42) ?hd (xs := ([y134] : List (List Int))) (inner := [.slice Ao33 y134.length co33]) (ok := (fun k_ => some k_ ≠ (.slice Ao28 x6_1.length co28 : Value).ownBlock ∧ some k_ ≠ (v120 : Value).ownBlock)) (okp := (fun k_ => some k_ ≠ (.slice Ao28 x6_1.length co28 : Value).ownBlock ∧ some k_ ≠ (v120 : Value).ownBlock)) ?hr ?hp (fun _ hk => hk) ((show ∀ k_, w32.heap.size ≤ k_ → (fun k_ => some k_ ≠ (.slice Ao28 x6_1.length co28 : Value).ownBlock ∧ some k_ ≠ (v120 : Value).ownBlock) k_ from fun k_ hk => ⟨Kd.fresh' (Kd.N_lt (by (with_reducible repeat (first | apply Kd.N_alloc | apply Kd.N_drewN | apply Kd.N_drew)); exact HO_6.out)) k_ hk, Kd.fresh' (Kd.R_lt (by (with_reducible repeat (first | apply Kd.R_alloc | apply Kd.R_drewN | apply Kd.R_drew)); exact HO_7.out)) k_ hk⟩) _ (Nat.le_refl _)) (Below.refl _ _) (Nat.le_refl _) (by simp) ?_; (case hd => rfl); (case hg => rfl); (case hr => first | (go_simp; done) | (go_simp; rfl)); (case hp => exact (Reps.one (show Kd.FK (Kd.slice 5 (Kd.int .u8)) _ _ y134 [.slice Ao33 y134.length co33] from (Kd.FK_slice_mk (Kd.R_reads' (Kd.R_mono (ok' := (fun k_ => some k_ ≠ (.slice Ao28 x6_1.length co28 : Value).ownBlock ∧ some k_ ≠ (v120 : Value).ownBlock)) (Kd.R_apart' (HO136.out) (Kd.N_typed HO_6.out) (by decide)) (fun k_ hk => ⟨hk.2, hk.1⟩))).2.1 (Kd.R_F (Kd.R_mono (ok' := (fun k_ => some k_ ≠ (.slice Ao28 x6_1.length co28 : Value).ownBlock ∧ some k_ ≠ (v120 : Value).ownBlock)) (Kd.R_apart' (HO136.out) (Kd.N_typed HO_6.out) (by decide)) (fun k_ hk => ⟨hk.2, hk.1⟩))))) (Reps.none _ _)))
                                          intro v138 w34 ho35 hb hg_ hnew_
                                          clear hg_ hnew_
                                          (first | rw [← Ny137.out] at ho35 | (simp only [Int.reduceToNat] at ho35; rw [← Ny137.out] at ho35))
                                          have n0_ := Aside0.mk (Kd.N_elder' (by (with_reducible repeat (first | apply Kd.N_alloc | apply Kd.N_drewN | apply Kd.N_drew)); exact HO_6.out) (Kd.N_base ho35) hb)
                                          have n1_ := Aside0.mk (Kd.R_below (by (with_reducible repeat (first | apply Kd.R_alloc | apply Kd.R_drewN | apply Kd.R_drew)); exact HO_7.out) hb)
                                          have n2_ := Aside0.mk (Kd.N_lower ho35 (below_size (by repeat (first | (with_reducible first | exact HB.out | apply below_alloc | apply pw_below_drewN | apply below_drew1) | exact HB.out))))
                                          have n3_ := Aside0.mk (below_step (by repeat (first | (with_reducible first | exact HB.out | apply below_alloc | apply pw_below_drewN | apply below_drew1) | exact HB.out)) hb)
                                          clear HO_6
                                          clear HO_7
                                          clear HB
                                          clear HO136
                                          have HO_6 := n0_
                                          have HO_7 := n1_
                                          have HO139 := n2_
                                          have HB := n3_
                                          clear n0_ n1_ n2_ n3_
                                          clear hb ho35
                                          refine hK.out _ _ trivial (fun hHeld => ?_)
                                          clear hK K
                                          refine norm_ (a' := ?_) ?_ ?_
                                          rotate_left
                                          · show Act.put _ (some 42) _ = _
                                            simp only [Act.put, List.setIfInBounds_toArray, List.set_cons_zero, List.set_cons_succ, i64_w, i32_w]
                                            rfl
                                          exact norm_ (by first | (simp only [putAll, Act.put, List.setIfInBounds_toArray, List.set_cons_zero, List.set_cons_succ]; done) | (simp only [putAll, Act.put, List.setIfInBounds_toArray, List.set_cons_zero, List.set_cons_succ]; rfl)) (hJ4_5 (.slice Ao33 y134.length co33, v138) _ ⟨(by (with_reducible repeat (first | apply Kd.N_alloc | apply Kd.N_drewN | apply Kd.N_drew)); exact HO139.out), (by (with_reducible repeat (first | apply Kd.N_alloc | apply Kd.N_drewN | apply Kd.N_drew)); exact Kd.N_mono HO_6.out (fun _ hk => hk.2)), (by (with_reducible repeat (first | apply Kd.R_alloc | apply Kd.R_drewN | apply Kd.R_drew)); exact Kd.R_mono HO_7.out (fun _ hk => trivial)), (by repeat (first | (with_reducible first | exact HB.out | apply below_alloc | apply pw_below_drewN | apply below_drew1) | exact HB.out))⟩)
                                    · skip
                                      rintro v129 w32 ⟨h0_, h1_, h2_, h3_⟩
                                      have n0_ : Aside0 (Kd.N (Kd.slice 5 (Kd.int .u8)) 22 w32 w.heap.size (fun k_ => some k_ ≠ (.slice Ao28 x6_1.length co28 : Value).ownBlock ∧ some k_ ≠ (v120 : Value).ownBlock) v129 y128) := ⟨h0_⟩
                                      have n1_ : Aside0 (Kd.N (Kd.slice 5 (Kd.int .u8)) 22 w32 w.heap.size (fun k_ => some k_ ≠ (v129 : Value).ownBlock) (.slice Ao28 x6_1.length co28) x6_1) := ⟨h1_⟩
                                      have n2_ : Aside0 (Kd.R (Kd.int .u8) 5 w32 w.heap.size (fun _ => True) v120 y119) := ⟨h2_⟩
                                      have n3_ : Aside0 (Below w.heap.size w w32) := ⟨h3_⟩
                                      clear HO_6
                                      clear HO_7
                                      clear HB
                                      clear h0_ h1_ h2_ h3_
                                      have HO130 := n0_
                                      have HO_6 := n1_
                                      have HO_7 := n2_
                                      have HB := n3_
                                      clear n0_ n1_ n2_ n3_
                                      have hHeld := trivial
                                      refine norm_ (a' := ?_) ?_ ?_
                                      rotate_left
                                      · simp only [putAll, Act.put, List.setIfInBounds_toArray, List.set_cons_zero, List.set_cons_succ, *]
                                        rfl
                                      refine two_ (i := 2) (j := 4) (Ni := some 39) (Nj := some 41) #[true, true, true, true, false, false, false, false, false, false, false, false, false] #[true, true, false, true, true, false, false, false, false, false, false, false, false] rfl rfl rfl rfl (two_of HT_.out (by kernel_rfl)) (by decide) (by decide) (fun K hK => ?_) (fun K hK => ?_)
                                      · skip
                                        refine Kd.N_append_rows_step (Kd.slice 5 (Kd.int .u8)) (w0 := w) w.heap.size (by rfl) (.tmp 37) (.tmp 38) 24 22 (.slice none 0 0) 24 rfl Tryd.underlying24 info22 rfl (by decide) (by omega) v129 y128 x6_1 _ _ _ (fun _ => True) (fun k_ => ((fun _ => True)) k_ ∧ some k_ ≠ (v129 : Value).ownBlock) rfl rfl ?aO ?aR (fun _ hk => hk) ?aF ?aB ?aS ?aL ?_
                                        (case aR => exact (by skip; exact Kd.N_F (Kd.N_mono (ok' := (fun k_ => ((fun _ => True)) k_ ∧ some k_ ≠ (v129 : Value).ownBlock)) (HO_6.out) (fun k_ hk => ⟨trivial, hk⟩))))
                                        (case aB => exact (by repeat (first | (with_reducible first | exact HB.out | apply below_alloc | apply pw_below_drewN | apply below_drew1) | exact HB.out)))
                                        (case aF => exact (fun _ _ => trivial))
                                        (case aO => exact (by (with_reducible repeat (first | apply Kd.N_alloc | apply Kd.N_drewN | apply Kd.N_drew)); exact Kd.N_mono HO130.out (fun _ hk => trivial)))
                                        (case aS => exact (below_size (by repeat (first | (with_reducible first | exact HB.out | apply below_alloc | apply pw_below_drewN | apply below_drew1) | exact HB.out))))
                                        (case aL => have := LMc15.out; omega)
                                        intro v132 w33 ho hb hg hat
                                        rw [← Ny131.out] at ho
                                        have n0_ := Aside0.mk (Kd.N_afterv (ok := (fun _ => True)) (by (with_reducible repeat (first | apply Kd.N_alloc | apply Kd.N_drewN | apply Kd.N_drew)); exact Kd.N_mono HO_6.out (fun _ hk => ⟨trivial, hk⟩)) hg hat)
                                        have n1_ := Aside0.mk (Kd.R_over' (by (with_reducible repeat (first | apply Kd.R_alloc | apply Kd.R_drewN | apply Kd.R_drew)); exact HO_7.out) (Kd.N_typed (by (with_reducible repeat (first | apply Kd.N_alloc | apply Kd.N_drewN | apply Kd.N_drew)); exact HO130.out)) (by decide) hg)
                                        have n2_ := Aside0.mk (hb)
                                        have n3_ := Aside0.mk (ho)
                                        clear HO_6
                                        clear HO_7
                                        clear HB
                                        clear HO130
                                        have HO_6 := n0_
                                        have HO_7 := n1_
                                        have HB := n2_
                                        have HO133 := n3_
                                        clear n0_ n1_ n2_ n3_
                                        clear ho hb hg hat
                                        refine hK.out _ _ trivial (fun hHeld => ?_)
                                        clear hK K
                                        refine norm_ (a' := ?_) ?_ ?_
                                        rotate_left
                                        · show Act.put _ (some 39) _ = _
                                          simp only [Act.put, List.setIfInBounds_toArray, List.set_cons_zero, List.set_cons_succ, i64_w, i32_w]
                                          rfl
                                        exact norm_ (by first | (simp only [putAll, Act.put, List.setIfInBounds_toArray, List.set_cons_zero, List.set_cons_succ]; done) | (simp only [putAll, Act.put, List.setIfInBounds_toArray, List.set_cons_zero, List.set_cons_succ]; rfl)) (hJ0_2 (v129, v132) _ ⟨(by (with_reducible repeat (first | apply Kd.N_alloc | apply Kd.N_drewN | apply Kd.N_drew)); exact HO133.out), (by (with_reducible repeat (first | apply Kd.N_alloc | apply Kd.N_drewN | apply Kd.N_drew)); exact Kd.N_mono HO_6.out (fun _ hk => hk.2)), (by (with_reducible repeat (first | apply Kd.R_alloc | apply Kd.R_drewN | apply Kd.R_drew)); exact HO_7.out), (by repeat (first | (with_reducible first | exact HB.out | apply below_alloc | apply pw_below_drewN | apply below_drew1) | exact HB.out))⟩)
                                      · skip
                                        refine Kd.R_make_step (Kd.int .u8) _ 5 (by rfl) (N := 41) rfl 22 _ _ rfl ji16 rfl rfl Tryd.underlying22 (.int .u8 0) 1 info5 rfl (by decide) (by omega) 0 (ok := fun _ => True) (okp := fun _ => True) rfl (fun _ hk => hk) trivial (of_decide_eq_true (by first | (with_reducible assumption) | assumption)) (Nat.le_trans (Nat.mul_le_mul_right _ (of_decide_eq_true (by first | (with_reducible assumption) | assumption) : ji16.toNat ≤ 281474976710656)) (by omega)) (Below.refl _ _) (Nat.le_refl _) ?_
                                        intro v135 w33 ho34 hb hg_ hnew_
                                        clear hg_ hnew_
                                        (first | rw [← Ny134.out] at ho34 | (simp only [Int.reduceToNat] at ho34; rw [← Ny134.out] at ho34))
                                        have n0_ := Aside0.mk (Kd.N_elder' (by (with_reducible repeat (first | apply Kd.N_alloc | apply Kd.N_drewN | apply Kd.N_drew)); exact HO_6.out) (Kd.R_base ho34) hb)
                                        have n1_ := Aside0.mk (Kd.R_elder' (by (with_reducible repeat (first | apply Kd.R_alloc | apply Kd.R_drewN | apply Kd.R_drew)); exact HO_7.out) (Kd.R_base ho34) hb)
                                        have n2_ := Aside0.mk (Kd.N_elder' (by (with_reducible repeat (first | apply Kd.N_alloc | apply Kd.N_drewN | apply Kd.N_drew)); exact HO130.out) (Kd.R_base ho34) hb)
                                        have n3_ := Aside0.mk (Kd.R_lower (Kd.R_new' ho34 (Kd.R_lt (by (with_reducible repeat (first | apply Kd.R_alloc | apply Kd.R_drewN | apply Kd.R_drew)); exact HO_7.out))) (below_size (by repeat (first | (with_reducible first | exact HB.out | apply below_alloc | apply pw_below_drewN | apply below_drew1) | exact HB.out))))
                                        have n4_ := Aside0.mk (below_step (by repeat (first | (with_reducible first | exact HB.out | apply below_alloc | apply pw_below_drewN | apply below_drew1) | exact HB.out)) hb)
                                        clear HO_6
                                        clear HO_7
                                        clear HO130
                                        clear HB
                                        have HO_6 := n0_
                                        have HO_7 := n1_
                                        have HO130 := n2_
                                        have HO136 := n3_
                                        have HB := n4_
                                        clear n0_ n1_ n2_ n3_ n4_
                                        clear hb ho34
                                        refine hK.out _ _ trivial (fun hHeld => ?_)
                                        clear hK K
                                        refine norm_ (a' := ?_) ?_ ?_
                                        rotate_left
                                        · show Act.put _ (some 41) _ = _
                                          simp only [Act.put, List.setIfInBounds_toArray, List.set_cons_zero, List.set_cons_succ, i64_w, i32_w]
                                          rfl
                                        exact norm_ (by first | (simp only [putAll, Act.put, List.setIfInBounds_toArray, List.set_cons_zero, List.set_cons_succ]; done) | (simp only [putAll, Act.put, List.setIfInBounds_toArray, List.set_cons_zero, List.set_cons_succ]; rfl)) (hJ0_4 (v129, v135) _ ⟨(by (with_reducible repeat (first | apply Kd.N_alloc | apply Kd.N_drewN | apply Kd.N_drew)); exact Kd.N_mono HO130.out (fun _ hk => ⟨hk.2, ⟨hk.1.1, hk.1.2⟩⟩)), (by (with_reducible repeat (first | apply Kd.R_alloc | apply Kd.R_drewN | apply Kd.R_drew)); exact Kd.R_mono HO136.out (fun _ hk => hk.2)), (by (with_reducible repeat (first | apply Kd.N_alloc | apply Kd.N_drewN | apply Kd.N_drew)); exact HO_6.out), (by (with_reducible repeat (first | apply Kd.R_alloc | apply Kd.R_drewN | apply Kd.R_drew)); exact Kd.R_mono HO_7.out (fun _ hk => hk.2)), (by repeat (first | (with_reducible first | exact HB.out | apply below_alloc | apply pw_below_drewN | apply below_drew1) | exact HB.out))⟩)
                                  · skip
                                    rintro ⟨v135, v138⟩ w35 ⟨h0_, h1_, h2_, h3_⟩
                                    have n0_ : Aside0 (Kd.N (Kd.slice 5 (Kd.int .u8)) 22 w35 w.heap.size (fun k_ => some k_ ≠ (.slice Ao28 x6_1.length co28 : Value).ownBlock ∧ some k_ ≠ (v120 : Value).ownBlock) v138 y137) := ⟨h0_⟩
                                    have n1_ : Aside0 (Kd.N (Kd.slice 5 (Kd.int .u8)) 22 w35 w.heap.size (fun k_ => some k_ ≠ (v138 : Value).ownBlock) (.slice Ao28 x6_1.length co28) x6_1) := ⟨h1_⟩
                                    have n2_ : Aside0 (Kd.R (Kd.int .u8) 5 w35 w.heap.size (fun _ => True) v120 y119) := ⟨h2_⟩
                                    have n3_ : Aside0 (Below w.heap.size w w35) := ⟨h3_⟩
                                    clear HO_6
                                    clear HO_7
                                    clear HB
                                    clear h0_ h1_ h2_ h3_
                                    have HO139 := n0_
                                    have HO_6 := n1_
                                    have HO_7 := n2_
                                    have HB := n3_
                                    clear n0_ n1_ n2_ n3_
                                    have hHeld := trivial
                                    refine norm_ (a' := ?_) ?_ ?_
                                    rotate_left
                                    · simp only [putAll, Act.put, List.setIfInBounds_toArray, List.set_cons_zero, List.set_cons_succ, *]
                                      rfl
                                    refine one_ (i := 0) (N := some 37) #[true, true, false, true, true, true, false, false, false, false, false, false, false] rfl rfl (one_of HT_.out (by kernel_rfl)) (by decide) (fun K hK => ?_)
                                    refine Kd.N_lit_step (Kd.slice 5 (Kd.int .u8)) _ 22 ?hg (N' := 37) ?hd (xs := ([] : List (List Int))) (inner := []) (ok := (fun k_ => some k_ ≠ (.slice Ao28 x6_1.length co28 : Value).ownBlock ∧ some k_ ≠ (v120 : Value).ownBlock ∧ some k_ ≠ (v138 : Value).ownBlock)) (okp := (fun k_ => some k_ ≠ (.slice Ao28 x6_1.length co28 : Value).ownBlock ∧ some k_ ≠ (v120 : Value).ownBlock ∧ some k_ ≠ (v138 : Value).ownBlock)) ?hr ?hp (fun _ hk => hk) ((show ∀ k_, w35.heap.size ≤ k_ → (fun k_ => some k_ ≠ (.slice Ao28 x6_1.length co28 : Value).ownBlock ∧ some k_ ≠ (v120 : Value).ownBlock ∧ some k_ ≠ (v138 : Value).ownBlock) k_ from fun k_ hk => ⟨Kd.fresh' (Kd.N_lt (by (with_reducible repeat (first | apply Kd.N_alloc | apply Kd.N_drewN | apply Kd.N_drew)); exact HO_6.out)) k_ hk, Kd.fresh' (Kd.R_lt (by (with_reducible repeat (first | apply Kd.R_alloc | apply Kd.R_drewN | apply Kd.R_drew)); exact HO_7.out)) k_ hk, Kd.fresh' (Kd.N_lt (by (with_reducible repeat (first | apply Kd.N_alloc | apply Kd.N_drewN | apply Kd.N_drew)); exact HO139.out)) k_ hk⟩) _ (Nat.le_refl _)) (Below.refl _ _) (Nat.le_refl _) (by simp) ?_; (case hd => rfl); (case hg => rfl); (case hr => first | (go_simp; done) | (go_simp; rfl)); (case hp => exact (Reps.none _ _))
                                    intro v129 w36 ho37 hb hg_ hnew_
                                    clear hg_ hnew_
                                    (first | rw [← Ny128.out] at ho37 | (simp only [Int.reduceToNat] at ho37; rw [← Ny128.out] at ho37))
                                    have n0_ := Aside0.mk (Kd.N_elder' (by (with_reducible repeat (first | apply Kd.N_alloc | apply Kd.N_drewN | apply Kd.N_drew)); exact HO_6.out) (Kd.N_base ho37) hb)
                                    have n1_ := Aside0.mk (Kd.R_below (by (with_reducible repeat (first | apply Kd.R_alloc | apply Kd.R_drewN | apply Kd.R_drew)); exact HO_7.out) hb)
                                    have n2_ := Aside0.mk (Kd.N_elder' (by (with_reducible repeat (first | apply Kd.N_alloc | apply Kd.N_drewN | apply Kd.N_drew)); exact HO139.out) (Kd.N_base ho37) hb)
                                    have n3_ := Aside0.mk (Kd.N_lower ho37 (below_size (by repeat (first | (with_reducible first | exact HB.out | apply below_alloc | apply pw_below_drewN | apply below_drew1) | exact HB.out))))
                                    have n4_ := Aside0.mk (below_step (by repeat (first | (with_reducible first | exact HB.out | apply below_alloc | apply pw_below_drewN | apply below_drew1) | exact HB.out)) hb)
                                    clear HO_6
                                    clear HO_7
                                    clear HO139
                                    clear HB
                                    have HO_6 := n0_
                                    have HO_7 := n1_
                                    have HO139 := n2_
                                    have HO130 := n3_
                                    have HB := n4_
                                    clear n0_ n1_ n2_ n3_ n4_
                                    clear hb ho37
                                    refine hK.out _ _ trivial (fun hHeld => ?_)
                                    clear hK K
                                    refine norm_ (a' := ?_) ?_ ?_
                                    rotate_left
                                    · show Act.put _ (some 37) _ = _
                                      simp only [Act.put, List.setIfInBounds_toArray, List.set_cons_zero, List.set_cons_succ, i64_w, i32_w]
                                      rfl
                                    exact norm_ (by first | (simp only [putAll, Act.put, List.setIfInBounds_toArray, List.set_cons_zero, List.set_cons_succ]; done) | (simp only [putAll, Act.put, List.setIfInBounds_toArray, List.set_cons_zero, List.set_cons_succ]; rfl)) (hJ0_4_5 (v129, v135, v138) _ ⟨(by (with_reducible repeat (first | apply Kd.N_alloc | apply Kd.N_drewN | apply Kd.N_drew)); exact Kd.N_mono HO130.out (fun _ hk => ⟨hk.2.2, ⟨hk.1, hk.2.1⟩⟩)), (by (with_reducible repeat (first | apply Kd.N_alloc | apply Kd.N_drewN | apply Kd.N_drew)); exact Kd.N_mono HO139.out (fun _ hk => ⟨hk.2, ⟨hk.1.1, hk.1.2⟩⟩)), (by (with_reducible repeat (first | apply Kd.N_alloc | apply Kd.N_drewN | apply Kd.N_drew)); exact Kd.N_mono HO_6.out (fun _ hk => ⟨hk.2, hk.1⟩)), (by (with_reducible repeat (first | apply Kd.R_alloc | apply Kd.R_drewN | apply Kd.R_drew)); exact HO_7.out), (by repeat (first | (with_reducible first | exact HB.out | apply below_alloc | apply pw_below_drewN | apply below_drew1) | exact HB.out))⟩)
                                · skip
                                  rintro ⟨v129, v135⟩ w34 ⟨h0_, h1_, h2_, h3_, h4_⟩
                                  have n0_ : Aside0 (Kd.N (Kd.slice 5 (Kd.int .u8)) 22 w34 w.heap.size (fun k_ => some k_ ≠ (v135 : Value).ownBlock ∧ some k_ ≠ (.slice Ao28 x6_1.length co28 : Value).ownBlock ∧ some k_ ≠ (v120 : Value).ownBlock) v129 y128) := ⟨h0_⟩
                                  have n1_ : Aside0 (Kd.R (Kd.int .u8) 5 w34 w.heap.size (fun k_ => some k_ ≠ (v120 : Value).ownBlock) v135 y134) := ⟨h1_⟩
                                  have n2_ : Aside0 (Kd.N (Kd.slice 5 (Kd.int .u8)) 22 w34 w.heap.size (fun k_ => some k_ ≠ (v129 : Value).ownBlock ∧ some k_ ≠ (v135 : Value).ownBlock) (.slice Ao28 x6_1.length co28) x6_1) := ⟨h2_⟩
                                  have n3_ : Aside0 (Kd.R (Kd.int .u8) 5 w34 w.heap.size (fun k_ => some k_ ≠ (v135 : Value).ownBlock) v120 y119) := ⟨h3_⟩
                                  have n4_ : Aside0 (Below w.heap.size w w34) := ⟨h4_⟩
                                  clear HO_6
                                  clear HO_7
                                  clear HB
                                  clear h0_ h1_ h2_ h3_ h4_
                                  have HO130 := n0_
                                  have HO136 := n1_
                                  have HO_6 := n2_
                                  have HO_7 := n3_
                                  have HB := n4_
                                  clear n0_ n1_ n2_ n3_ n4_
                                  have hHeld := trivial
                                  refine norm_ (a' := ?_) ?_ ?_
                                  rotate_left
                                  · simp only [putAll, Act.put, List.setIfInBounds_toArray, List.set_cons_zero, List.set_cons_succ, *]
                                    rfl
                                  refine two_ (i := 2) (j := 5) (Ni := some 39) (Nj := some 42) #[true, true, true, true, true, false, false, false, false, false, false, false, false] #[true, true, false, true, true, true, false, false, false, false, false, false, false] rfl rfl rfl rfl (two_of HT_.out (by kernel_rfl)) (by decide) (by decide) (fun K hK => ?_) (fun K hK => ?_)
                                  · skip
                                    refine Kd.N_append_rows_step (Kd.slice 5 (Kd.int .u8)) (w0 := w) w.heap.size (by rfl) (.tmp 37) (.tmp 38) 24 22 (.slice none 0 0) 24 rfl Tryd.underlying24 info22 rfl (by decide) (by omega) v129 y128 x6_1 _ _ _ (fun k_ => some k_ ≠ (v135 : Value).ownBlock) (fun k_ => ((fun k_ => some k_ ≠ (v135 : Value).ownBlock)) k_ ∧ some k_ ≠ (v129 : Value).ownBlock) rfl rfl ?aO ?aR (fun _ hk => hk) ?aF ?aB ?aS ?aL ?_
                                    (case aR => exact (by skip; exact Kd.N_F (Kd.N_mono (ok' := (fun k_ => ((fun k_ => some k_ ≠ (v135 : Value).ownBlock)) k_ ∧ some k_ ≠ (v129 : Value).ownBlock)) (HO_6.out) (fun k_ hk => ⟨hk.2, hk.1⟩))))
                                    (case aB => exact (by repeat (first | (with_reducible first | exact HB.out | apply below_alloc | apply pw_below_drewN | apply below_drew1) | exact HB.out)))
                                    (case aF => exact (fun k_ hk => Kd.fresh' (Kd.R_lt (by (with_reducible repeat (first | apply Kd.R_alloc | apply Kd.R_drewN | apply Kd.R_drew)); exact HO136.out)) k_ hk))
                                    (case aO => exact (by (with_reducible repeat (first | apply Kd.N_alloc | apply Kd.N_drewN | apply Kd.N_drew)); exact Kd.N_mono HO130.out (fun _ hk => hk.1)))
                                    (case aS => exact (below_size (by repeat (first | (with_reducible first | exact HB.out | apply below_alloc | apply pw_below_drewN | apply below_drew1) | exact HB.out))))
                                    (case aL => have := LMc15.out; omega)
                                    intro v132 w35 ho hb hg hat
                                    rw [← Ny131.out] at ho
                                    have n0_ := Aside0.mk (Kd.N_afterv (ok := (fun k_ => some k_ ≠ (v135 : Value).ownBlock)) (by (with_reducible repeat (first | apply Kd.N_alloc | apply Kd.N_drewN | apply Kd.N_drew)); exact Kd.N_mono HO_6.out (fun _ hk => ⟨hk.2, hk.1⟩)) hg hat)
                                    have n1_ := Aside0.mk (Kd.R_over' (by (with_reducible repeat (first | apply Kd.R_alloc | apply Kd.R_drewN | apply Kd.R_drew)); exact HO_7.out) (Kd.N_typed (by (with_reducible repeat (first | apply Kd.N_alloc | apply Kd.N_drewN | apply Kd.N_drew)); exact HO130.out)) (by decide) hg)
                                    have n2_ := Aside0.mk (Kd.R_over' (by (with_reducible repeat (first | apply Kd.R_alloc | apply Kd.R_drewN | apply Kd.R_drew)); exact HO136.out) (Kd.N_typed (by (with_reducible repeat (first | apply Kd.N_alloc | apply Kd.N_drewN | apply Kd.N_drew)); exact HO130.out)) (by decide) hg)
                                    have n3_ := Aside0.mk (hb)
                                    have n4_ := Aside0.mk (ho)
                                    clear HO_6
                                    clear HO_7
                                    clear HO136
                                    clear HB
                                    clear HO130
                                    have HO_6 := n0_
                                    have HO_7 := n1_
                                    have HO136 := n2_
                                    have HB := n3_
                                    have HO133 := n4_
                                    clear n0_ n1_ n2_ n3_ n4_
                                    clear ho hb hg hat
                                    refine hK.out _ _ trivial (fun hHeld => ?_)
                                    clear hK K
                                    refine norm_ (a' := ?_) ?_ ?_
                                    rotate_left
                                    · show Act.put _ (some 39) _ = _
                                      simp only [Act.put, List.setIfInBounds_toArray, List.set_cons_zero, List.set_cons_succ, i64_w, i32_w]
                                      rfl
                                    exact norm_ (by first | (simp only [putAll, Act.put, List.setIfInBounds_toArray, List.set_cons_zero, List.set_cons_succ]; done) | (simp only [putAll, Act.put, List.setIfInBounds_toArray, List.set_cons_zero, List.set_cons_succ]; rfl)) (hJ0_2_4 (v129, v132, v135) _ ⟨(by (with_reducible repeat (first | apply Kd.N_alloc | apply Kd.N_drewN | apply Kd.N_drew)); exact HO133.out), (by (with_reducible repeat (first | apply Kd.R_alloc | apply Kd.R_drewN | apply Kd.R_drew)); exact HO136.out), (by (with_reducible repeat (first | apply Kd.N_alloc | apply Kd.N_drewN | apply Kd.N_drew)); exact Kd.N_mono HO_6.out (fun _ hk => ⟨hk.2, hk.1⟩)), (by (with_reducible repeat (first | apply Kd.R_alloc | apply Kd.R_drewN | apply Kd.R_drew)); exact HO_7.out), (by repeat (first | (with_reducible first | exact HB.out | apply below_alloc | apply pw_below_drewN | apply below_drew1) | exact HB.out))⟩)
                                  · skip
                                    obtain ⟨Ao35, co35, eo35⟩ := Kd.R_slice HO136.out
                                    subst eo35
                                    refine Kd.N_lit_step (Kd.slice 5 (Kd.int .u8)) _ 22 ?hg (N' := 42) ?hd (xs := ([y134] : List (List Int))) (inner := [.slice Ao35 y134.length co35]) (ok := (fun k_ => some k_ ≠ (.slice Ao28 x6_1.length co28 : Value).ownBlock ∧ some k_ ≠ (v120 : Value).ownBlock ∧ some k_ ≠ (v129 : Value).ownBlock)) (okp := (fun k_ => some k_ ≠ (.slice Ao28 x6_1.length co28 : Value).ownBlock ∧ some k_ ≠ (v120 : Value).ownBlock ∧ some k_ ≠ (v129 : Value).ownBlock)) ?hr ?hp (fun _ hk => hk) ((show ∀ k_, w34.heap.size ≤ k_ → (fun k_ => some k_ ≠ (.slice Ao28 x6_1.length co28 : Value).ownBlock ∧ some k_ ≠ (v120 : Value).ownBlock ∧ some k_ ≠ (v129 : Value).ownBlock) k_ from fun k_ hk => ⟨Kd.fresh' (Kd.N_lt (by (with_reducible repeat (first | apply Kd.N_alloc | apply Kd.N_drewN | apply Kd.N_drew)); exact HO_6.out)) k_ hk, Kd.fresh' (Kd.R_lt (by (with_reducible repeat (first | apply Kd.R_alloc | apply Kd.R_drewN | apply Kd.R_drew)); exact HO_7.out)) k_ hk, Kd.fresh' (Kd.N_lt (by (with_reducible repeat (first | apply Kd.N_alloc | apply Kd.N_drewN | apply Kd.N_drew)); exact HO130.out)) k_ hk⟩) _ (Nat.le_refl _)) (Below.refl _ _) (Nat.le_refl _) (by simp) ?_; (case hd => rfl); (case hg => rfl); (case hr => first | (go_simp; done) | (go_simp; rfl)); (case hp => exact (Reps.one (show Kd.FK (Kd.slice 5 (Kd.int .u8)) _ _ y134 [.slice Ao35 y134.length co35] from (Kd.FK_slice_mk (Kd.R_reads' (Kd.R_mono (ok' := (fun k_ => some k_ ≠ (.slice Ao28 x6_1.length co28 : Value).ownBlock ∧ some k_ ≠ (v120 : Value).ownBlock ∧ some k_ ≠ (v129 : Value).ownBlock)) (Kd.R_apart' (Kd.R_apart' (HO136.out) (Kd.N_typed HO_6.out) (by decide)) (Kd.N_typed HO130.out) (by decide)) (fun k_ hk => ⟨hk.1.2, ⟨hk.1.1, hk.2⟩⟩))).2.1 (Kd.R_F (Kd.R_mono (ok' := (fun k_ => some k_ ≠ (.slice Ao28 x6_1.length co28 : Value).ownBlock ∧ some k_ ≠ (v120 : Value).ownBlock ∧ some k_ ≠ (v129 : Value).ownBlock)) (Kd.R_apart' (Kd.R_apart' (HO136.out) (Kd.N_typed HO_6.out) (by decide)) (Kd.N_typed HO130.out) (by decide)) (fun k_ hk => ⟨hk.1.2, ⟨hk.1.1, hk.2⟩⟩))))) (Reps.none _ _)))
                                    intro v138 w36 ho37 hb hg_ hnew_
                                    clear hg_ hnew_
                                    (first | rw [← Ny137.out] at ho37 | (simp only [Int.reduceToNat] at ho37; rw [← Ny137.out] at ho37))
                                    have n0_ := Aside0.mk (Kd.N_elder' (by (with_reducible repeat (first | apply Kd.N_alloc | apply Kd.N_drewN | apply Kd.N_drew)); exact HO_6.out) (Kd.N_base ho37) hb)
                                    have n1_ := Aside0.mk (Kd.R_below (by (with_reducible repeat (first | apply Kd.R_alloc | apply Kd.R_drewN | apply Kd.R_drew)); exact HO_7.out) hb)
                                    have n2_ := Aside0.mk (Kd.N_elder' (by (with_reducible repeat (first | apply Kd.N_alloc | apply Kd.N_drewN | apply Kd.N_drew)); exact HO130.out) (Kd.N_base ho37) hb)
                                    have n3_ := Aside0.mk (Kd.N_lower ho37 (below_size (by repeat (first | (with_reducible first | exact HB.out | apply below_alloc | apply pw_below_drewN | apply below_drew1) | exact HB.out))))
                                    have n4_ := Aside0.mk (below_step (by repeat (first | (with_reducible first | exact HB.out | apply below_alloc | apply pw_below_drewN | apply below_drew1) | exact HB.out)) hb)
                                    clear HO_6
                                    clear HO_7
                                    clear HO130
                                    clear HB
                                    clear HO136
                                    have HO_6 := n0_
                                    have HO_7 := n1_
                                    have HO130 := n2_
                                    have HO139 := n3_
                                    have HB := n4_
                                    clear n0_ n1_ n2_ n3_ n4_
                                    clear hb ho37
                                    refine hK.out _ _ trivial (fun hHeld => ?_)
                                    clear hK K
                                    refine norm_ (a' := ?_) ?_ ?_
                                    rotate_left
                                    · show Act.put _ (some 42) _ = _
                                      simp only [Act.put, List.setIfInBounds_toArray, List.set_cons_zero, List.set_cons_succ, i64_w, i32_w]
                                      rfl
                                    exact norm_ (by first | (simp only [putAll, Act.put, List.setIfInBounds_toArray, List.set_cons_zero, List.set_cons_succ]; done) | (simp only [putAll, Act.put, List.setIfInBounds_toArray, List.set_cons_zero, List.set_cons_succ]; rfl)) (hJ0_4_5 (v129, .slice Ao35 y134.length co35, v138) _ ⟨(by (with_reducible repeat (first | apply Kd.N_alloc | apply Kd.N_drewN | apply Kd.N_drew)); exact Kd.N_mono HO130.out (fun _ hk => ⟨hk.2, ⟨hk.1.2.1, hk.1.2.2⟩⟩)), (by (with_reducible repeat (first | apply Kd.N_alloc | apply Kd.N_drewN | apply Kd.N_drew)); exact Kd.N_mono HO139.out (fun _ hk => ⟨hk.2.2, ⟨hk.1, hk.2.1⟩⟩)), (by (with_reducible repeat (first | apply Kd.N_alloc | apply Kd.N_drewN | apply Kd.N_drew)); exact Kd.N_mono HO_6.out (fun _ hk => ⟨hk.1.1, hk.2⟩)), (by (with_reducible repeat (first | apply Kd.R_alloc | apply Kd.R_drewN | apply Kd.R_drew)); exact Kd.R_mono HO_7.out (fun _ hk => trivial)), (by repeat (first | (with_reducible first | exact HB.out | apply below_alloc | apply pw_below_drewN | apply below_drew1) | exact HB.out))⟩)
                              · skip
                                rintro ⟨v129, v132⟩ w33 ⟨h0_, h1_, h2_, h3_⟩
                                have n0_ : Aside0 (Kd.N (Kd.slice 5 (Kd.int .u8)) 22 w33 w.heap.size (fun _ => True) v132 y131) := ⟨h0_⟩
                                have n1_ : Aside0 (Kd.N (Kd.slice 5 (Kd.int .u8)) 22 w33 w.heap.size (fun k_ => some k_ ≠ (v132 : Value).ownBlock) (.slice Ao28 x6_1.length co28) x6_1) := ⟨h1_⟩
                                have n2_ : Aside0 (Kd.R (Kd.int .u8) 5 w33 w.heap.size (fun _ => True) v120 y119) := ⟨h2_⟩
                                have n3_ : Aside0 (Below w.heap.size w w33) := ⟨h3_⟩
                                clear HO_6
                                clear HO_7
                                clear HB
                                clear h0_ h1_ h2_ h3_
                                have HO133 := n0_
                                have HO_6 := n1_
                                have HO_7 := n2_
                                have HB := n3_
                                clear n0_ n1_ n2_ n3_
                                have hHeld := trivial
                                refine norm_ (a' := ?_) ?_ ?_
                                rotate_left
                                · simp only [putAll, Act.put, List.setIfInBounds_toArray, List.set_cons_zero, List.set_cons_succ, *]
                                  rfl
                                refine one_ (i := 4) (N := some 41) #[true, true, true, true, true, false, false, false, false, false, false, false, false] rfl rfl (one_of HT_.out (by kernel_rfl)) (by decide) (fun K hK => ?_)
                                refine Kd.R_make_step (Kd.int .u8) _ 5 (by rfl) (N := 41) rfl 22 _ _ rfl ji16 rfl rfl Tryd.underlying22 (.int .u8 0) 1 info5 rfl (by decide) (by omega) 0 (ok := fun _ => True) (okp := fun _ => True) rfl (fun _ hk => hk) trivial (of_decide_eq_true (by first | (with_reducible assumption) | assumption)) (Nat.le_trans (Nat.mul_le_mul_right _ (of_decide_eq_true (by first | (with_reducible assumption) | assumption) : ji16.toNat ≤ 281474976710656)) (by omega)) (Below.refl _ _) (Nat.le_refl _) ?_
                                intro v135 w34 ho35 hb hg_ hnew_
                                clear hg_ hnew_
                                (first | rw [← Ny134.out] at ho35 | (simp only [Int.reduceToNat] at ho35; rw [← Ny134.out] at ho35))
                                have n0_ := Aside0.mk (Kd.N_elder' (by (with_reducible repeat (first | apply Kd.N_alloc | apply Kd.N_drewN | apply Kd.N_drew)); exact HO_6.out) (Kd.R_base ho35) hb)
                                have n1_ := Aside0.mk (Kd.R_elder' (by (with_reducible repeat (first | apply Kd.R_alloc | apply Kd.R_drewN | apply Kd.R_drew)); exact HO_7.out) (Kd.R_base ho35) hb)
                                have n2_ := Aside0.mk (Kd.N_elder' (by (with_reducible repeat (first | apply Kd.N_alloc | apply Kd.N_drewN | apply Kd.N_drew)); exact HO133.out) (Kd.R_base ho35) hb)
                                have n3_ := Aside0.mk (Kd.R_lower (Kd.R_new' ho35 (Kd.R_lt (by (with_reducible repeat (first | apply Kd.R_alloc | apply Kd.R_drewN | apply Kd.R_drew)); exact HO_7.out))) (below_size (by repeat (first | (with_reducible first | exact HB.out | apply below_alloc | apply pw_below_drewN | apply below_drew1) | exact HB.out))))
                                have n4_ := Aside0.mk (below_step (by repeat (first | (with_reducible first | exact HB.out | apply below_alloc | apply pw_below_drewN | apply below_drew1) | exact HB.out)) hb)
                                clear HO_6
                                clear HO_7
                                clear HO133
                                clear HB
                                have HO_6 := n0_
                                have HO_7 := n1_
                                have HO133 := n2_
                                have HO136 := n3_
                                have HB := n4_
                                clear n0_ n1_ n2_ n3_ n4_
                                clear hb ho35
                                refine hK.out _ _ trivial (fun hHeld => ?_)
                                clear hK K
                                refine norm_ (a' := ?_) ?_ ?_
                                rotate_left
                                · show Act.put _ (some 41) _ = _
                                  simp only [Act.put, List.setIfInBounds_toArray, List.set_cons_zero, List.set_cons_succ, i64_w, i32_w]
                                  rfl
                                exact norm_ (by first | (simp only [putAll, Act.put, List.setIfInBounds_toArray, List.set_cons_zero, List.set_cons_succ]; done) | (simp only [putAll, Act.put, List.setIfInBounds_toArray, List.set_cons_zero, List.set_cons_succ]; rfl)) (hJ0_2_4 (v129, v132, v135) _ ⟨(by (with_reducible repeat (first | apply Kd.N_alloc | apply Kd.N_drewN | apply Kd.N_drew)); exact Kd.N_mono HO133.out (fun _ hk => hk.2)), (by (with_reducible repeat (first | apply Kd.R_alloc | apply Kd.R_drewN | apply Kd.R_drew)); exact Kd.R_mono HO136.out (fun _ hk => hk.2)), (by (with_reducible repeat (first | apply Kd.N_alloc | apply Kd.N_drewN | apply Kd.N_drew)); exact HO_6.out), (by (with_reducible repeat (first | apply Kd.R_alloc | apply Kd.R_drewN | apply Kd.R_drew)); exact Kd.R_mono HO_7.out (fun _ hk => hk.2)), (by repeat (first | (with_reducible first | exact HB.out | apply below_alloc | apply pw_below_drewN | apply below_drew1) | exact HB.out))⟩)
                            · skip
                              rintro ⟨v129, v135, v138⟩ w37 ⟨h0_, h1_, h2_, h3_, h4_⟩
                              have n0_ : Aside0 (Kd.N (Kd.slice 5 (Kd.int .u8)) 22 w37 w.heap.size (fun k_ => some k_ ≠ (v138 : Value).ownBlock ∧ some k_ ≠ (.slice Ao28 x6_1.length co28 : Value).ownBlock ∧ some k_ ≠ (v120 : Value).ownBlock) v129 y128) := ⟨h0_⟩
                              have n1_ : Aside0 (Kd.N (Kd.slice 5 (Kd.int .u8)) 22 w37 w.heap.size (fun k_ => some k_ ≠ (v129 : Value).ownBlock ∧ some k_ ≠ (.slice Ao28 x6_1.length co28 : Value).ownBlock ∧ some k_ ≠ (v120 : Value).ownBlock) v138 y137) := ⟨h1_⟩
                              have n2_ : Aside0 (Kd.N (Kd.slice 5 (Kd.int .u8)) 22 w37 w.heap.size (fun k_ => some k_ ≠ (v129 : Value).ownBlock ∧ some k_ ≠ (v138 : Value).ownBlock) (.slice Ao28 x6_1.length co28) x6_1) := ⟨h2_⟩
                              have n3_ : Aside0 (Kd.R (Kd.int .u8) 5 w37 w.heap.size (fun _ => True) v120 y119) := ⟨h3_⟩
                              have n4_ : Aside0 (Below w.heap.size w w37) := ⟨h4_⟩
                              clear HO_6
                              clear HO_7
                              clear HB
                              clear h0_ h1_ h2_ h3_ h4_
                              have HO130 := n0_
                              have HO139 := n1_
                              have HO_6 := n2_
                              have HO_7 := n3_
                              have HB := n4_
                              clear n0_ n1_ n2_ n3_ n4_
                              have hHeld := trivial
                              refine norm_ (a' := ?_) ?_ ?_
                              rotate_left
                              · simp only [putAll, Act.put, List.setIfInBounds_toArray, List.set_cons_zero, List.set_cons_succ, *]
                                rfl
                              refine one_ (i := 2) (N := some 39) #[true, true, true, true, true, true, false, false, false, false, false, false, false] rfl rfl (one_of HT_.out (by kernel_rfl)) (by decide) (fun K hK => ?_)
                              refine Kd.N_append_rows_step (Kd.slice 5 (Kd.int .u8)) (w0 := w) w.heap.size (by rfl) (.tmp 37) (.tmp 38) 24 22 (.slice none 0 0) 24 rfl Tryd.underlying24 info22 rfl (by decide) (by omega) v129 y128 x6_1 _ _ _ (fun k_ => some k_ ≠ (v138 : Value).ownBlock) (fun k_ => ((fun k_ => some k_ ≠ (v138 : Value).ownBlock)) k_ ∧ some k_ ≠ (v129 : Value).ownBlock) rfl rfl ?aO ?aR (fun _ hk => hk) ?aF ?aB ?aS ?aL ?_
                              (case aR => exact (by skip; exact Kd.N_F (Kd.N_mono (ok' := (fun k_ => ((fun k_ => some k_ ≠ (v138 : Value).ownBlock)) k_ ∧ some k_ ≠ (v129 : Value).ownBlock)) (HO_6.out) (fun k_ hk => ⟨hk.2, hk.1⟩))))
                              (case aB => exact (by repeat (first | (with_reducible first | exact HB.out | apply below_alloc | apply pw_below_drewN | apply below_drew1) | exact HB.out)))
                              (case aF => exact (fun k_ hk => Kd.fresh' (Kd.N_lt (by (with_reducible repeat (first | apply Kd.N_alloc | apply Kd.N_drewN | apply Kd.N_drew)); exact HO139.out)) k_ hk))
                              (case aO => exact (by (with_reducible repeat (first | apply Kd.N_alloc | apply Kd.N_drewN | apply Kd.N_drew)); exact Kd.N_mono HO130.out (fun _ hk => hk.1)))
                              (case aS => exact (below_size (by repeat (first | (with_reducible first | exact HB.out | apply below_alloc | apply pw_below_drewN | apply below_drew1) | exact HB.out))))
                              (case aL => have := LMc15.out; omega)
                              intro v132 w38 ho hb hg hat
                              rw [← Ny131.out] at ho
                              have n0_ := Aside0.mk (Kd.N_afterv (ok := (fun k_ => some k_ ≠ (v138 : Value).ownBlock)) (by (with_reducible repeat (first | apply Kd.N_alloc | apply Kd.N_drewN | apply Kd.N_drew)); exact Kd.N_mono HO_6.out (fun _ hk => ⟨hk.2, hk.1⟩)) hg hat)
                              have n1_ := Aside0.mk (Kd.R_over' (by (with_reducible repeat (first | apply Kd.R_alloc | apply Kd.R_drewN | apply Kd.R_drew)); exact HO_7.out) (Kd.N_typed (by (with_reducible repeat (first | apply Kd.N_alloc | apply Kd.N_drewN | apply Kd.N_drew)); exact HO130.out)) (by decide) hg)
                              have n2_ := Aside0.mk (Kd.N_afterv (ok := (fun k_ => some k_ ≠ (.slice Ao28 x6_1.length co28 : Value).ownBlock ∧ some k_ ≠ (v120 : Value).ownBlock)) (by (with_reducible repeat (first | apply Kd.N_alloc | apply Kd.N_drewN | apply Kd.N_drew)); exact Kd.N_mono HO139.out (fun _ hk => ⟨⟨hk.2.1, hk.2.2⟩, hk.1⟩)) hg hat)
                              have n3_ := Aside0.mk (hb)
                              have n4_ := Aside0.mk (ho)
                              clear HO_6
                              clear HO_7
                              clear HO139
                              clear HB
                              clear HO130
                              have HO_6 := n0_
                              have HO_7 := n1_
                              have HO139 := n2_
                              have HB := n3_
                              have HO133 := n4_
                              clear n0_ n1_ n2_ n3_ n4_
                              clear ho hb hg hat
                              refine hK.out _ _ trivial (fun hHeld => ?_)
                              clear hK K
                              refine norm_ (a' := ?_) ?_ ?_
                              rotate_left
                              · show Act.put _ (some 39) _ = _
                                simp only [Act.put, List.setIfInBounds_toArray, List.set_cons_zero, List.set_cons_succ, i64_w, i32_w]
                                rfl
                              exact norm_ (by first | (simp only [putAll, Act.put, List.setIfInBounds_toArray, List.set_cons_zero, List.set_cons_succ]; done) | (simp only [putAll, Act.put, List.setIfInBounds_toArray, List.set_cons_zero, List.set_cons_succ]; rfl)) (hJ0_2_4_5 (v129, v132, v135, v138) _ ⟨(by (with_reducible repeat (first | apply Kd.N_alloc | apply Kd.N_drewN | apply Kd.N_drew)); exact HO133.out), (by (with_reducible repeat (first | apply Kd.N_alloc | apply Kd.N_drewN | apply Kd.N_drew)); exact Kd.N_mono HO139.out (fun _ hk => ⟨hk.2, ⟨hk.1.1, hk.1.2⟩⟩)), (by (with_reducible repeat (first | apply Kd.N_alloc | apply Kd.N_drewN | apply Kd.N_drew)); exact Kd.N_mono HO_6.out (fun _ hk => ⟨hk.2, hk.1⟩)), (by (with_reducible repeat (first | apply Kd.R_alloc | apply Kd.R_drewN | apply Kd.R_drew)); exact HO_7.out), (by repeat (first | (with_reducible first | exact HB.out | apply below_alloc | apply pw_below_drewN | apply below_drew1) | exact HB.out))⟩)
                          · skip
                            rintro ⟨v129, v132, v135⟩ w35 ⟨h0_, h1_, h2_, h3_, h4_⟩
                            have n0_ : Aside0 (Kd.N (Kd.slice 5 (Kd.int .u8)) 22 w35 w.heap.size (fun k_ => some k_ ≠ (v135 : Value).ownBlock) v132 y131) := ⟨h0_⟩
                            have n1_ : Aside0 (Kd.R (Kd.int .u8) 5 w35 w.heap.size (fun k_ => some k_ ≠ (v120 : Value).ownBlock) v135 y134) := ⟨h1_⟩
                            have n2_ : Aside0 (Kd.N (Kd.slice 5 (Kd.int .u8)) 22 w35 w.heap.size (fun k_ => some k_ ≠ (v132 : Value).ownBlock ∧ some k_ ≠ (v135 : Value).ownBlock) (.slice Ao28 x6_1.length co28) x6_1) := ⟨h2_⟩
                            have n3_ : Aside0 (Kd.R (Kd.int .u8) 5 w35 w.heap.size (fun k_ => some k_ ≠ (v135 : Value).ownBlock) v120 y119) := ⟨h3_⟩
                            have n4_ : Aside0 (Below w.heap.size w w35) := ⟨h4_⟩
                            clear HO_6
                            clear HO_7
                            clear HB
                            clear h0_ h1_ h2_ h3_ h4_
                            have HO133 := n0_
                            have HO136 := n1_
                            have HO_6 := n2_
                            have HO_7 := n3_
                            have HB := n4_
                            clear n0_ n1_ n2_ n3_ n4_
                            have hHeld := trivial
                            obtain ⟨Ao36, co36, eo36⟩ := Kd.R_slice HO136.out
                            (first | subst eo36 | (injection eo36 with f1_ f2_ f3_; have f4_ := f1_.symm; have f5_ := f3_.symm; clear f1_ f2_ f3_; subst f4_; subst f5_))
                            refine norm_ (a' := ?_) ?_ ?_
                            rotate_left
                            · simp only [putAll, Act.put, List.setIfInBounds_toArray, List.set_cons_zero, List.set_cons_succ, *]
                              rfl
                            refine one_ (i := 5) (N := some 42) #[true, true, true, true, true, true, false, false, false, false, false, false, false] rfl rfl (one_of HT_.out (by kernel_rfl)) (by decide) (fun K hK => ?_)
                            refine Kd.N_lit_step (Kd.slice 5 (Kd.int .u8)) _ 22 ?hg (N' := 42) ?hd (xs := ([y134] : List (List Int))) (inner := [.slice Ao36 y134.length co36]) (ok := (fun k_ => some k_ ≠ (.slice Ao28 x6_1.length co28 : Value).ownBlock ∧ some k_ ≠ (v120 : Value).ownBlock ∧ some k_ ≠ (v132 : Value).ownBlock)) (okp := (fun k_ => some k_ ≠ (.slice Ao28 x6_1.length co28 : Value).ownBlock ∧ some k_ ≠ (v120 : Value).ownBlock ∧ some k_ ≠ (v132 : Value).ownBlock)) ?hr ?hp (fun _ hk => hk) ((show ∀ k_, w35.heap.size ≤ k_ → (fun k_ => some k_ ≠ (.slice Ao28 x6_1.length co28 : Value).ownBlock ∧ some k_ ≠ (v120 : Value).ownBlock ∧ some k_ ≠ (v132 : Value).ownBlock) k_ from fun k_ hk => ⟨Kd.fresh' (Kd.N_lt (by (with_reducible repeat (first | apply Kd.N_alloc | apply Kd.N_drewN | apply Kd.N_drew)); exact HO_6.out)) k_ hk, Kd.fresh' (Kd.R_lt (by (with_reducible repeat (first | apply Kd.R_alloc | apply Kd.R_drewN | apply Kd.R_drew)); exact HO_7.out)) k_ hk, Kd.fresh' (Kd.N_lt (by (with_reducible repeat (first | apply Kd.N_alloc | apply Kd.N_drewN | apply Kd.N_drew)); exact HO133.out)) k_ hk⟩) _ (Nat.le_refl _)) (Below.refl _ _) (Nat.le_refl _) (by simp) ?_; (case hd => rfl); (case hg => rfl); (case hr => first | (go_simp; done) | (go_simp; rfl)); (case hp => exact (Reps.one (show Kd.FK (Kd.slice 5 (Kd.int .u8)) _ _ y134 [.slice Ao36 y134.length co36] from (Kd.FK_slice_mk (Kd.R_reads' (Kd.R_mono (ok' := (fun k_ => some k_ ≠ (.slice Ao28 x6_1.length co28 : Value).ownBlock ∧ some k_ ≠ (v120 : Value).ownBlock ∧ some k_ ≠ (v132 : Value).ownBlock)) (Kd.R_apart' (Kd.R_apart' (HO136.out) (Kd.N_typed HO_6.out) (by decide)) (Kd.N_typed HO133.out) (by decide)) (fun k_ hk => ⟨hk.1.2, ⟨hk.1.1, hk.2⟩⟩))).2.1 (Kd.R_F (Kd.R_mono (ok' := (fun k_ => some k_ ≠ (.slice Ao28 x6_1.length co28 : Value).ownBlock ∧ some k_ ≠ (v120 : Value).ownBlock ∧ some k_ ≠ (v132 : Value).ownBlock)) (Kd.R_apart' (Kd.R_apart' (HO136.out) (Kd.N_typed HO_6.out) (by decide)) (Kd.N_typed HO133.out) (by decide)) (fun k_ hk => ⟨hk.1.2, ⟨hk.1.1, hk.2⟩⟩))))) (Reps.none _ _)))
                            intro v138 w37 ho38 hb hg_ hnew_
                            clear hg_ hnew_
                            (first | rw [← Ny137.out] at ho38 | (simp only [Int.reduceToNat] at ho38; rw [← Ny137.out] at ho38))
                            have n0_ := Aside0.mk (Kd.N_elder' (by (with_reducible repeat (first | apply Kd.N_alloc | apply Kd.N_drewN | apply Kd.N_drew)); exact HO_6.out) (Kd.N_base ho38) hb)
                            have n1_ := Aside0.mk (Kd.R_below (by (with_reducible repeat (first | apply Kd.R_alloc | apply Kd.R_drewN | apply Kd.R_drew)); exact HO_7.out) hb)
                            have n2_ := Aside0.mk (Kd.N_elder' (by (with_reducible repeat (first | apply Kd.N_alloc | apply Kd.N_drewN | apply Kd.N_drew)); exact HO133.out) (Kd.N_base ho38) hb)
                            have n3_ := Aside0.mk (Kd.N_lower ho38 (below_size (by repeat (first | (with_reducible first | exact HB.out | apply below_alloc | apply pw_below_drewN | apply below_drew1) | exact HB.out))))
                            have n4_ := Aside0.mk (below_step (by repeat (first | (with_reducible first | exact HB.out | apply below_alloc | apply pw_below_drewN | apply below_drew1) | exact HB.out)) hb)
                            clear HO_6
                            clear HO_7
                            clear HO133
                            clear HB
                            clear HO136
                            have HO_6 := n0_
                            have HO_7 := n1_
                            have HO133 := n2_
                            have HO139 := n3_
                            have HB := n4_
                            clear n0_ n1_ n2_ n3_ n4_
                            clear hb ho38
                            refine hK.out _ _ trivial (fun hHeld => ?_)
                            clear hK K
                            refine norm_ (a' := ?_) ?_ ?_
                            rotate_left
                            · show Act.put _ (some 42) _ = _
                              simp only [Act.put, List.setIfInBounds_toArray, List.set_cons_zero, List.set_cons_succ, i64_w, i32_w]
                              rfl
                            exact norm_ (by first | (simp only [putAll, Act.put, List.setIfInBounds_toArray, List.set_cons_zero, List.set_cons_succ]; done) | (simp only [putAll, Act.put, List.setIfInBounds_toArray, List.set_cons_zero, List.set_cons_succ]; rfl)) (hJ0_2_4_5 (v129, v132, .slice Ao36 y134.length co36, v138) _ ⟨(by (with_reducible repeat (first | apply Kd.N_alloc | apply Kd.N_drewN | apply Kd.N_drew)); exact Kd.N_mono HO133.out (fun _ hk => hk.2)), (by (with_reducible repeat (first | apply Kd.N_alloc | apply Kd.N_drewN | apply Kd.N_drew)); exact Kd.N_mono HO139.out (fun _ hk => ⟨hk.2.2, ⟨hk.1, hk.2.1⟩⟩)), (by (with_reducible repeat (first | apply Kd.N_alloc | apply Kd.N_drewN | apply Kd.N_drew)); exact Kd.N_mono HO_6.out (fun _ hk => ⟨hk.1.1, hk.2⟩)), (by (with_reducible repeat (first | apply Kd.R_alloc | apply Kd.R_drewN | apply Kd.R_drew)); exact Kd.R_mono HO_7.out (fun _ hk => trivial)), (by repeat (first | (with_reducible first | exact HB.out | apply below_alloc | apply pw_below_drewN | apply below_drew1) | exact HB.out))⟩)
                        rintro ⟨v129, v132, v135, v138⟩ w38 ⟨h0_, h1_, h2_, h3_, h4_⟩
                        have n0_ : Aside0 (Kd.N (Kd.slice 5 (Kd.int .u8)) 22 w38 w.heap.size (fun k_ => some k_ ≠ (v138 : Value).ownBlock) v132 y131) := ⟨h0_⟩
                        have n1_ : Aside0 (Kd.N (Kd.slice 5 (Kd.int .u8)) 22 w38 w.heap.size (fun k_ => some k_ ≠ (v132 : Value).ownBlock ∧ some k_ ≠ (.slice Ao28 x6_1.length co28 : Value).ownBlock ∧ some k_ ≠ (v120 : Value).ownBlock) v138 y137) := ⟨h1_⟩
                        have n2_ : Aside0 (Kd.N (Kd.slice 5 (Kd.int .u8)) 22 w38 w.heap.size (fun k_ => some k_ ≠ (v132 : Value).ownBlock ∧ some k_ ≠ (v138 : Value).ownBlock) (.slice Ao28 x6_1.length co28) x6_1) := ⟨h2_⟩
                        have n3_ : Aside0 (Kd.R (Kd.int .u8) 5 w38 w.heap.size (fun _ => True) v120 y119) := ⟨h3_⟩
                        have n4_ : Aside0 (Below w.heap.size w w38) := ⟨h4_⟩
                        clear HO_6
                        clear HO_7
                        clear HB
                        clear h0_ h1_ h2_ h3_ h4_
                        have HO133 := n0_
                        have HO139 := n1_
                        have HO_6 := n2_
                        have HO_7 := n3_
                        have HB := n4_
                        clear n0_ n1_ n2_ n3_ n4_
                        have hHeld := trivial
                        obtain ⟨Ao40, co40, eo40⟩ := Kd.N_slice HO139.out
                        (first | subst eo40 | (injection eo40 with f1_ f2_ f3_; have f4_ := f1_.symm; have f5_ := f3_.symm; clear f1_ f2_ f3_; subst f4_; subst f5_))
                        refine norm_ (a' := ?_) ?_ ?_
                        rotate_left
                        · simp only [putAll, Act.put, List.setIfInBounds_toArray, List.set_cons_zero, List.set_cons_succ, *]
                          rfl
                        refine one_ (i := 6) (N := some 43) #[true, true, true, true, true, true, true, false, false, false, false, false, false] rfl rfl (one_of HT_.out (by kernel_rfl)) (by decide) (fun K hK => ?_)
                        refine Kd.N_append_rows_step (Kd.slice 5 (Kd.int .u8)) (w0 := w) w.heap.size (by rfl) (.tmp 39) (.tmp 42) 24 22 (.slice none 0 0) 24 rfl Tryd.underlying24 info22 rfl (by decide) (by omega) v132 y131 y137 _ _ _ (fun _ => True) (fun k_ => ((fun _ => True)) k_ ∧ some k_ ≠ (v132 : Value).ownBlock) rfl rfl ?aO ?aR (fun _ hk => hk) ?aF ?aB ?aS ?aL ?_
                        (case aR => exact (by skip; exact Kd.N_F (Kd.N_mono (ok' := (fun k_ => ((fun _ => True)) k_ ∧ some k_ ≠ (v132 : Value).ownBlock)) (HO139.out) (fun k_ hk => ⟨trivial, hk.1⟩))))
                        (case aB => exact (by repeat (first | (with_reducible first | exact HB.out | apply below_alloc | apply pw_below_drewN | apply below_drew1) | exact HB.out)))
                        (case aF => exact (fun _ _ => trivial))
                        (case aO => exact (by (with_reducible repeat (first | apply Kd.N_alloc | apply Kd.N_drewN | apply Kd.N_drew)); exact Kd.N_mono HO133.out (fun _ hk => trivial)))
                        (case aS => exact (below_size (by repeat (first | (with_reducible first | exact HB.out | apply below_alloc | apply pw_below_drewN | apply below_drew1) | exact HB.out))))
                        (case aL => have := LMc19.out; omega)
                        intro v141 w39 ho hb hg hat
                        rw [← Ny140.out] at ho
                        have n0_ := Aside0.mk (Kd.N_afterv (ok := (fun k_ => some k_ ≠ (.slice Ao40 y137.length co40 : Value).ownBlock)) (by (with_reducible repeat (first | apply Kd.N_alloc | apply Kd.N_drewN | apply Kd.N_drew)); exact Kd.N_mono HO_6.out (fun _ hk => ⟨hk.2, hk.1⟩)) hg hat)
                        have n1_ := Aside0.mk (Kd.R_over' (by (with_reducible repeat (first | apply Kd.R_alloc | apply Kd.R_drewN | apply Kd.R_drew)); exact HO_7.out) (Kd.N_typed (by (with_reducible repeat (first | apply Kd.N_alloc | apply Kd.N_drewN | apply Kd.N_drew)); exact HO133.out)) (by decide) hg)
                        have n2_ := Aside0.mk (Kd.N_afterv (ok := (fun k_ => some k_ ≠ (.slice Ao28 x6_1.length co28 : Value).ownBlock ∧ some k_ ≠ (v120 : Value).ownBlock)) (by (with_reducible repeat (first | apply Kd.N_alloc | apply Kd.N_drewN | apply Kd.N_drew)); exact Kd.N_mono HO139.out (fun _ hk => ⟨⟨hk.2.1, hk.2.2⟩, hk.1⟩)) hg hat)
                        have n3_ := Aside0.mk (hb)
                        have n4_ := Aside0.mk (ho)
                        clear HO_6
                        clear HO_7
                        clear HO139
                        clear HB
                        clear HO133
                        have HO_6 := n0_
                        have HO_7 := n1_
                        have HO139 := n2_
                        have HB := n3_
                        have HO142 := n4_
                        clear n0_ n1_ n2_ n3_ n4_
                        clear ho hb hg hat
                        obtain ⟨Ao41, co41, eo41⟩ := Kd.N_slice HO142.out
                        (first | subst eo41 | (injection eo41 with f1_ f2_ f3_; have f4_ := f1_.symm; have f5_ := f3_.symm; clear f1_ f2_ f3_; subst f4_; subst f5_))
                        refine hK.out _ _ trivial (fun hHeld => ?_)
                        clear hK K
                        refine norm_ (a' := ?_) ?_ ?_
                        rotate_left
                        · show Act.put _ (some 43) _ = _
                          simp only [Act.put, List.setIfInBounds_toArray, List.set_cons_zero, List.set_cons_succ, i64_w, i32_w]
                          rfl
                        refine one_ (i := 7) (N := some 44) #[true, true, true, true, true, true, true, true, false, false, false, false, false] rfl rfl (one_of HT_.out (by kernel_rfl)) (by decide) (fun K hK => ?_)
                        refine goes_ Tryd.func18 (by kernel_rfl) rfl #[.slice Ao41 y140.length co41] (by rfl) rfl rfl (by (try simp only [List.map_toArray, List.map_cons, List.map_nil]); first | done | rfl | (simp only [List.length_drop, List.length_take]; rfl)) ?_
                        with_reducible refine (frame_Join.calls _ _ y140 t143 t144 _ ?side3 ?side1 ?side2 A20.out).mono ?_
                        (case side1 => repeat (first | exact (Kd.N_reads' HO142.out).2.2 | (with_reducible refine Kd.C_alloc ?_ _) | (with_reducible refine Kd.C_drewN ?_ _) | (with_reducible refine Kd.C_drew ?_)))
                        (case side2 => exact (Kd.N_reads' HO142.out).2.1)
                        (case side3 => first | exact HG.out | exact Glob.below HG.out HB.out | exact Glob.drewN (Glob.below HG.out HB.out) _ | exact Glob.drewN HG.out _ | (refine Glob.below HG.out ?_; (repeat (first | (with_reducible first | exact HB.out | apply below_alloc | apply pw_below_drewN | apply below_drew1) | exact HB.out)); done) | (repeat (first | exact HG.out | (with_reducible refine Glob.drewN ?_ _) | (with_reducible refine Glob.drew ?_) | (with_reducible refine Glob.alloc ?_ _)); done))
                        rintro e w42 ⟨v145, rfl, ho0, hb⟩
                        refine ⟨_, rfl, ?_⟩
                        have n0_ := Aside0.mk (Kd.N_elder' (by (with_reducible repeat (first | apply Kd.N_alloc | apply Kd.N_drewN | apply Kd.N_drew)); exact HO_6.out) (JV.base ho0) hb)
                        have n1_ := Aside0.mk (Kd.R_elder' (by (with_reducible repeat (first | apply Kd.R_alloc | apply Kd.R_drewN | apply Kd.R_drew)); exact HO_7.out) (JV.base ho0) hb)
                        have n2_ := Aside0.mk (Kd.N_elder' (by (with_reducible repeat (first | apply Kd.N_alloc | apply Kd.N_drewN | apply Kd.N_drew)); exact HO139.out) (JV.base ho0) hb)
                        have n3_ := Aside0.mk (Kd.N_elder' (by (with_reducible repeat (first | apply Kd.N_alloc | apply Kd.N_drewN | apply Kd.N_drew)); exact HO142.out) (JV.base ho0) hb)
                        have n4_ := Aside0.mk (JV.lower (JV.new' ho0 (Kd.R_lt (by (with_reducible repeat (first | apply Kd.R_alloc | apply Kd.R_drewN | apply Kd.R_drew)); exact HO_7.out))) (below_size (by repeat (first | (with_reducible first | exact HB.out | apply below_alloc | apply pw_below_drewN | apply below_drew1) | exact HB.out))))
                        have n5_ := Aside0.mk (below_step (by repeat (first | (with_reducible first | exact HB.out | apply below_alloc | apply pw_below_drewN | apply below_drew1) | exact HB.out)) hb)
                        clear HO_6
                        clear HO_7
                        clear HO139
                        clear HO142
                        clear HB
                        have HO_6 := n0_
                        have HO_7 := n1_
                        have HO139 := n2_
                        have HO142 := n3_
                        have HO146 := n4_
                        have HB := n5_
                        clear n0_ n1_ n2_ n3_ n4_ n5_
                        (try clear hb)
                        (try clear hb2)
                        (try clear hk)
                        (try clear hi)
                        (try clear ho0)
                        refine hK.out _ _ trivial (fun hHeld => ?_)
                        clear hK K
                        refine norm_ (a' := ?_) ?_ ?_
                        rotate_left
                        · show Act.put _ (some 44) _ = _
                          simp only [Act.put, List.setIfInBounds_toArray, List.set_cons_zero, List.set_cons_succ, i64_w, i32_w]
                          rfl
                        refine pure_ (i := 8) (N := some 36) (v := ?_) (a' := ?_) #[true, true, true, true, true, true, true, true, true, false, false, false, false] rfl rfl (any_of HT_.out (by kernel_rfl)) (fun _ _ _ h => h) (Or.inl ⟨by rfl, ?_⟩) ?_ ?_
                        rotate_left
                        · intro w'
                          go_simp
                          with_reducible rfl
                        rotate_left
                        · simp only [Act.put, List.setIfInBounds_toArray, List.set_cons_zero, List.set_cons_succ, i64_w, i32_w]
                          rfl
                        refine pure_ (i := 9) (N := some 45) (v := ?_) (a' := ?_) #[true, true, true, true, true, true, true, true, true, true, false, false, false] rfl rfl (any_of HT_.out (by kernel_rfl)) (fun _ _ _ h => h) (Or.inl ⟨by rfl, ?_⟩) ?_ ?_
                        rotate_left
                        · intro w'
                          go_simp
                          with_reducible rfl
                        rotate_left
                        · simp only [Act.put, List.setIfInBounds_toArray, List.set_cons_zero, List.set_cons_succ, i64_w, i32_w]
                          rfl
                        refine pure_ (i := 10) (N := some 46) (v := ?_) (a' := ?_) #[true, true, true, true, true, true, true, true, true, true, true, false, false] rfl rfl (any_of HT_.out (by kernel_rfl)) (fun _ _ _ h => h) (Or.inl ⟨by rfl, ?_⟩) ?_ ?_
                        rotate_left
                        · intro w'
                          go_simp
                          with_reducible rfl
                        rotate_left
                        · simp only [Act.put, List.setIfInBounds_toArray, List.set_cons_zero, List.set_cons_succ, i64_w, i32_w]
                          rfl
                        refine pure_ (i := 11) (N := some 10) (v := ?_) (a' := ?_) #[true, true, true, true, true, true, true, true, true, true, true, true, false] rfl rfl (any_of HT_.out (by kernel_rfl)) (fun _ _ _ h => h) (Or.inl ⟨by rfl, ?_⟩) ?_ ?_
                        rotate_left
                        · intro w'
                          go_simp
                          with_reducible rfl
                        rotate_left
                        · simp only [Act.put, List.setIfInBounds_toArray, List.set_cons_zero, List.set_cons_succ, i64_w, i32_w]
                          rfl
                        refine pure_ (i := 12) (N := some 11) (v := ?_) (a' := ?_) #[true, true, true, true, true, true, true, true, true, true, true, true, true] rfl rfl (any_of HT_.out (by kernel_rfl)) (fun _ _ _ h => h) (Or.inl ⟨by rfl, ?_⟩) ?_ ?_
                        rotate_left
                        · intro w'
                          go_simp
                          with_reducible rfl
                        rotate_left
                        · simp only [Act.put, List.setIfInBounds_toArray, List.set_cons_zero, List.set_cons_succ, i64_w, i32_w]
                          rfl
                        refine done_ (done_of HT_.out (by kernel_rfl)) ?_
                        try go_wp2_with (first | ((with_reducible refine gate_callee (f := 18) rfl ?_); refine goesL_ (some 49) rfl rfl Tryd.func18 (by kernel_rfl) rfl #[.slice Ao28 x6_1.length co28] rfl (by (try simp only [List.map_toArray, List.map_cons, List.map_nil]); first | done | rfl | (simp only [List.length_drop, List.length_take]; rfl)) ?_; (with_reducible refine (frame_Join.calls _ _ x6_1 t147 t148 _ ?side3 ?side1 ?side2 A21.out).mono ?_); (case side1 => repeat (first | exact (Kd.N_reads' HO_6.out).2.2 | (with_reducible refine Kd.C_alloc ?_ _) | (with_reducible refine Kd.C_drewN ?_ _) | (with_reducible refine Kd.C_drew ?_))); (case side2 => exact (Kd.N_reads' HO_6.out).2.1); (case side3 => first | exact HG.out | exact Glob.below HG.out HB.out | exact Glob.drewN (Glob.below HG.out HB.out) _ | exact Glob.drewN HG.out _ | (refine Glob.below HG.out ?_; (repeat (first | (with_reducible first | exact HB.out | apply below_alloc | apply pw_below_drewN | apply below_drew1) | exact HB.out)); done) | (repeat (first | exact HG.out | (with_reducible refine Glob.drewN ?_ _) | (with_reducible refine Glob.drew ?_) | (with_reducible refine Glob.alloc ?_ _)); done)); rintro e w43 ⟨v149, rfl, ho0, hb⟩; refine ⟨_, rfl, ?_⟩; have n0_ := Aside0.mk (Kd.N_elder' (by (with_reducible repeat (first | apply Kd.N_alloc | apply Kd.N_drewN | apply Kd.N_drew)); exact HO_6.out) (JV.base ho0) hb); have n1_ := Aside0.mk (Kd.R_elder' (by (with_reducible repeat (first | apply Kd.R_alloc | apply Kd.R_drewN | apply Kd.R_drew)); exact HO_7.out) (JV.base ho0) hb); have n2_ := Aside0.mk (Kd.N_elder' (by (with_reducible repeat (first | apply Kd.N_alloc | apply Kd.N_drewN | apply Kd.N_drew)); exact HO139.out) (JV.base ho0) hb); have n3_ := Aside0.mk (Kd.N_elder' (by (with_reducible repeat (first | apply Kd.N_alloc | apply Kd.N_drewN | apply Kd.N_drew)); exact HO142.out) (JV.base ho0) hb); have n4_ := Aside0.mk (JV.elder' (by (with_reducible repeat (first | apply JV.alloc | apply JV.drewN | apply JV.drew)); exact HO146.out) (JV.base ho0) hb); have n5_ := Aside0.mk (JV.lower (JV.new' (JV.new' ho0 (Kd.R_lt (by (with_reducible repeat (first | apply Kd.R_alloc | apply Kd.R_drewN | apply Kd.R_drew)); exact HO_7.out))) (JV.lt (by (with_reducible repeat (first | apply JV.alloc | apply JV.drewN | apply JV.drew)); exact HO146.out))) (below_size (by repeat (first | (with_reducible first | exact HB.out | apply below_alloc | apply pw_below_drewN | apply below_drew1) | exact HB.out)))); have n6_ := Aside0.mk (below_step (by repeat (first | (with_reducible first | exact HB.out | apply below_alloc | apply pw_below_drewN | apply below_drew1) | exact HB.out)) hb); clear HO_6; clear HO_7; clear HO139; clear HO142; clear HO146; clear HB; have HO_6 := n0_; have HO_7 := n1_; have HO139 := n2_; have HO142 := n3_; have HO146 := n4_; have HO150 := n5_; have HB := n6_; clear n0_ n1_ n2_ n3_ n4_ n5_ n6_; (try clear hb); (try clear hb2); (try clear hk); (try clear hi); (try clear ho0); obtain ⟨Ao44, co44, eo44⟩ := JV.slice HO150.out; subst eo44))
                        have n0_ := Aside0.mk (Kd.N_drew HO_6.out)
                        have n1_ := Aside0.mk (Kd.R_drew HO_7.out)
                        have n2_ := Aside0.mk (Kd.N_drew HO139.out)
                        have n3_ := Aside0.mk (Kd.N_drew HO142.out)
                        have n4_ := Aside0.mk (JV.drew HO146.out)
                        have n5_ := Aside0.mk (JV.drew HO150.out)
                        have n6_ := Aside0.mk (below_drew1 HB.out)
                        clear HO_6
                        clear HO_7
                        clear HO139
                        clear HO142
                        clear HO146
                        clear HO150
                        clear HB
                        have HO_6 := n0_
                        have HO_7 := n1_
                        have HO139 := n2_
                        have HO142 := n3_
                        have HO146 := n4_
                        have HO150 := n5_
                        have HB := n6_
                        clear n0_ n1_ n2_ n3_ n4_ n5_ n6_
                        refine start_ (n := 9) (S := fun w' => True) (ds := []) #[false, false, false, false, false, false, false, false, false] (by kernel_rfl) rfl rfl trivial (fun hHeld => ?_); refine with_tabW transeptlaw04_FrameLong.tab14 transeptlaw04_FrameLong.bits14 (fun HT_ HW_ => ?_)
                        generalize w43.drew = w45 at HO_6 HO_7 HO139 HO142 HO146 HO150 HB hHeld ⊢
                        refine pure_ (i := 1) (N := some 55) (v := ?_) (a' := ?_) #[false, true, false, false, false, false, false, false, false] rfl rfl (any_of HT_.out (by kernel_rfl)) (fun _ _ _ h => h) (Or.inl ⟨by rfl, ?_⟩) ?_ ?_
                        rotate_left
                        · intro w'
                          go_simp
                          with_reducible rfl
                        rotate_left
                        · simp only [Act.put, List.setIfInBounds_toArray, List.set_cons_zero, List.set_cons_succ, i64_w, i32_w]
                          rfl
                        refine pure_ (i := 3) (N := some 57) (v := ?_) (a' := ?_) #[false, true, false, true, false, false, false, false, false] rfl rfl (any_of HT_.out (by kernel_rfl)) (fun _ _ _ h => h) (Or.inl ⟨by rfl, ?_⟩) ?_ ?_
                        rotate_left
                        · intro w'
                          go_simp
                          with_reducible rfl
                        rotate_left
                        · simp only [Act.put, List.setIfInBounds_toArray, List.set_cons_zero, List.set_cons_succ, i64_w, i32_w]
                          rfl
                        refine join_ (σ := Value × Value × Value) 3 #[true, true, true, true, true, true, false, false, false] (fun s_ => [(54, s_.1), (56, s_.2.1), (58, s_.2.2), (59, .string (strOfNums y157))]) (fun s_ w' => (Kd.N (Kd.slice 5 (Kd.int .u8)) 22 w' w.heap.size (fun k_ => some k_ ≠ (.slice Ao41 y140.length co41 : Value).ownBlock ∧ some k_ ≠ (v145 : Value).ownBlock ∧ some k_ ≠ (.slice Ao44 t147.length co44 : Value).ownBlock ∧ some k_ ≠ (s_.2.1 : Value).ownBlock ∧ some k_ ≠ (s_.2.2 : Value).ownBlock ∧ some k_ ≠ (.slice Ao28 x6_1.length co28 : Value).ownBlock ∧ some k_ ≠ (v120 : Value).ownBlock) (.slice Ao40 y137.length co40) y137) ∧ (Kd.N (Kd.slice 5 (Kd.int .u8)) 22 w' w.heap.size (fun k_ => some k_ ≠ (v145 : Value).ownBlock ∧ some k_ ≠ (.slice Ao44 t147.length co44 : Value).ownBlock ∧ some k_ ≠ (s_.2.1 : Value).ownBlock ∧ some k_ ≠ (s_.2.2 : Value).ownBlock) (.slice Ao41 y140.length co41) y140) ∧ (JV w' w.heap.size (fun k_ => some k_ ≠ (.slice Ao44 t147.length co44 : Value).ownBlock ∧ some k_ ≠ (s_.2.1 : Value).ownBlock ∧ some k_ ≠ (s_.2.2 : Value).ownBlock ∧ some k_ ≠ (v120 : Value).ownBlock) v145 t143) ∧ (JV w' w.heap.size (fun k_ => some k_ ≠ (v145 : Value).ownBlock ∧ some k_ ≠ (s_.2.1 : Value).ownBlock ∧ some k_ ≠ (s_.2.2 : Value).ownBlock ∧ some k_ ≠ (v120 : Value).ownBlock) (.slice Ao44 t147.length co44) t147) ∧ (Kd.R (Kd.int .u8) 5 w' w.heap.size (fun k_ => some k_ ≠ (v145 : Value).ownBlock ∧ some k_ ≠ (.slice Ao44 t147.length co44 : Value).ownBlock ∧ some k_ ≠ (s_.2.2 : Value).ownBlock ∧ some k_ ≠ (v120 : Value).ownBlock) s_.2.1 y154) ∧ (Kd.R (Kd.int .u8) 5 w' w.heap.size (fun k_ => some k_ ≠ (v145 : Value).ownBlock ∧ some k_ ≠ (.slice Ao44 t147.length co44 : Value).ownBlock ∧ some k_ ≠ (s_.2.1 : Value).ownBlock ∧ some k_ ≠ (v120 : Value).ownBlock) s_.2.2 y157) ∧ (Kd.N (Kd.slice 5 (Kd.int .u8)) 22 w' w.heap.size (fun k_ => some k_ ≠ (.slice Ao40 y137.length co40 : Value).ownBlock ∧ some k_ ≠ (.slice Ao41 y140.length co41 : Value).ownBlock ∧ some k_ ≠ (v145 : Value).ownBlock ∧ some k_ ≠ (.slice Ao44 t147.length co44 : Value).ownBlock ∧ some k_ ≠ (s_.2.1 : Value).ownBlock ∧ some k_ ≠ (s_.2.2 : Value).ownBlock) (.slice Ao28 x6_1.length co28) x6_1) ∧ (Kd.R (Kd.int .u8) 5 w' w.heap.size (fun k_ => some k_ ≠ (v145 : Value).ownBlock ∧ some k_ ≠ (.slice Ao44 t147.length co44 : Value).ownBlock ∧ some k_ ≠ (s_.2.1 : Value).ownBlock ∧ some k_ ≠ (s_.2.2 : Value).ownBlock) v120 y119) ∧ (Below w.heap.size w w')) ?_ ?_
                        rotate_left
                        · intro hJ0_2_4_5
                          refine join_ (σ := Value × Value × Value) 4 #[true, true, true, true, true, false, false, false, false] (fun s_ => [(54, s_.1), (56, s_.2.1), (58, s_.2.2)]) (fun s_ w' => (Kd.N (Kd.slice 5 (Kd.int .u8)) 22 w' w.heap.size (fun k_ => some k_ ≠ (.slice Ao41 y140.length co41 : Value).ownBlock ∧ some k_ ≠ (v145 : Value).ownBlock ∧ some k_ ≠ (.slice Ao44 t147.length co44 : Value).ownBlock ∧ some k_ ≠ (s_.2.1 : Value).ownBlock ∧ some k_ ≠ (s_.2.2 : Value).ownBlock ∧ some k_ ≠ (.slice Ao28 x6_1.length co28 : Value).ownBlock ∧ some k_ ≠ (v120 : Value).ownBlock) (.slice Ao40 y137.length co40) y137) ∧ (Kd.N (Kd.slice 5 (Kd.int .u8)) 22 w' w.heap.size (fun k_ => some k_ ≠ (v145 : Value).ownBlock ∧ some k_ ≠ (.slice Ao44 t147.length co44 : Value).ownBlock ∧ some k_ ≠ (s_.2.1 : Value).ownBlock ∧ some k_ ≠ (s_.2.2 : Value).ownBlock) (.slice Ao41 y140.length co41) y140) ∧ (JV w' w.heap.size (fun k_ => some k_ ≠ (.slice Ao44 t147.length co44 : Value).ownBlock ∧ some k_ ≠ (s_.2.1 : Value).ownBlock ∧ some k_ ≠ (s_.2.2 : Value).ownBlock ∧ some k_ ≠ (v120 : Value).ownBlock) v145 t143) ∧ (JV w' w.heap.size (fun k_ => some k_ ≠ (v145 : Value).ownBlock ∧ some k_ ≠ (s_.2.1 : Value).ownBlock ∧ some k_ ≠ (s_.2.2 : Value).ownBlock ∧ some k_ ≠ (v120 : Value).ownBlock) (.slice Ao44 t147.length co44) t147) ∧ (Kd.R (Kd.int .u8) 5 w' w.heap.size (fun k_ => some k_ ≠ (v145 : Value).ownBlock ∧ some k_ ≠ (.slice Ao44 t147.length co44 : Value).ownBlock ∧ some k_ ≠ (s_.2.2 : Value).ownBlock ∧ some k_ ≠ (v120 : Value).ownBlock) s_.2.1 y154) ∧ (Kd.R (Kd.int .u8) 5 w' w.heap.size (fun k_ => some k_ ≠ (v145 : Value).ownBlock ∧ some k_ ≠ (.slice Ao44 t147.length co44 : Value).ownBlock ∧ some k_ ≠ (s_.2.1 : Value).ownBlock ∧ some k_ ≠ (v120 : Value).ownBlock) s_.2.2 y157) ∧ (Kd.N (Kd.slice 5 (Kd.int .u8)) 22 w' w.heap.size (fun k_ => some k_ ≠ (.slice Ao40 y137.length co40 : Value).ownBlock ∧ some k_ ≠ (.slice Ao41 y140.length co41 : Value).ownBlock ∧ some k_ ≠ (v145 : Value).ownBlock ∧ some k_ ≠ (.slice Ao44 t147.length co44 : Value).ownBlock ∧ some k_ ≠ (s_.2.1 : Value).ownBlock ∧ some k_ ≠ (s_.2.2 : Value).ownBlock) (.slice Ao28 x6_1.length co28) x6_1) ∧ (Kd.R (Kd.int .u8) 5 w' w.heap.size (fun k_ => some k_ ≠ (v145 : Value).ownBlock ∧ some k_ ≠ (.slice Ao44 t147.length co44 : Value).ownBlock ∧ some k_ ≠ (s_.2.1 : Value).ownBlock ∧ some k_ ≠ (s_.2.2 : Value).ownBlock) v120 y119) ∧ (Below w.heap.size w w')) ?_ ?_
                          rotate_left
                          · intro hJ0_2_4
                            refine join_ (σ := Value × Value) 4 #[true, true, false, true, true, true, false, false, false] (fun s_ => [(54, s_.1), (58, s_.2), (59, .string (strOfNums y157))]) (fun s_ w' => (Kd.N (Kd.slice 5 (Kd.int .u8)) 22 w' w.heap.size (fun k_ => some k_ ≠ (.slice Ao41 y140.length co41 : Value).ownBlock ∧ some k_ ≠ (v145 : Value).ownBlock ∧ some k_ ≠ (.slice Ao44 t147.length co44 : Value).ownBlock ∧ some k_ ≠ (s_.1 : Value).ownBlock ∧ some k_ ≠ (s_.2 : Value).ownBlock ∧ some k_ ≠ (.slice Ao28 x6_1.length co28 : Value).ownBlock ∧ some k_ ≠ (v120 : Value).ownBlock) (.slice Ao40 y137.length co40) y137) ∧ (Kd.N (Kd.slice 5 (Kd.int .u8)) 22 w' w.heap.size (fun k_ => some k_ ≠ (v145 : Value).ownBlock ∧ some k_ ≠ (.slice Ao44 t147.length co44 : Value).ownBlock ∧ some k_ ≠ (s_.1 : Value).ownBlock ∧ some k_ ≠ (s_.2 : Value).ownBlock) (.slice Ao41 y140.length co41) y140) ∧ (JV w' w.heap.size (fun k_ => some k_ ≠ (.slice Ao44 t147.length co44 : Value).ownBlock ∧ some k_ ≠ (s_.1 : Value).ownBlock ∧ some k_ ≠ (s_.2 : Value).ownBlock ∧ some k_ ≠ (v120 : Value).ownBlock) v145 t143) ∧ (JV w' w.heap.size (fun k_ => some k_ ≠ (v145 : Value).ownBlock ∧ some k_ ≠ (s_.1 : Value).ownBlock ∧ some k_ ≠ (s_.2 : Value).ownBlock ∧ some k_ ≠ (v120 : Value).ownBlock) (.slice Ao44 t147.length co44) t147) ∧ (Kd.R (Kd.int .u8) 5 w' w.heap.size (fun k_ => some k_ ≠ (v145 : Value).ownBlock ∧ some k_ ≠ (.slice Ao44 t147.length co44 : Value).ownBlock ∧ some k_ ≠ (s_.2 : Value).ownBlock ∧ some k_ ≠ (v120 : Value).ownBlock) s_.1 y151) ∧ (Kd.R (Kd.int .u8) 5 w' w.heap.size (fun k_ => some k_ ≠ (v145 : Value).ownBlock ∧ some k_ ≠ (.slice Ao44 t147.length co44 : Value).ownBlock ∧ some k_ ≠ (s_.1 : Value).ownBlock ∧ some k_ ≠ (v120 : Value).ownBlock) s_.2 y157) ∧ (Kd.N (Kd.slice 5 (Kd.int .u8)) 22 w' w.heap.size (fun k_ => some k_ ≠ (.slice Ao40 y137.length co40 : Value).ownBlock ∧ some k_ ≠ (.slice Ao41 y140.length co41 : Value).ownBlock ∧ some k_ ≠ (v145 : Value).ownBlock ∧ some k_ ≠ (.slice Ao44 t147.length co44 : Value).ownBlock ∧ some k_ ≠ (s_.1 : Value).ownBlock ∧ some k_ ≠ (s_.2 : Value).ownBlock) (.slice Ao28 x6_1.length co28) x6_1) ∧ (Kd.R (Kd.int .u8) 5 w' w.heap.size (fun k_ => some k_ ≠ (v145 : Value).ownBlock ∧ some k_ ≠ (.slice Ao44 t147.length co44 : Value).ownBlock ∧ some k_ ≠ (s_.1 : Value).ownBlock ∧ some k_ ≠ (s_.2 : Value).ownBlock) v120 y119) ∧ (Below w.heap.size w w')) ?_ ?_
                            rotate_left
                            · intro hJ0_4_5
                              refine join_ (σ := Value × Value) 5 #[true, true, true, true, false, false, false, false, false] (fun s_ => [(54, s_.1), (56, s_.2)]) (fun s_ w' => (Kd.N (Kd.slice 5 (Kd.int .u8)) 22 w' w.heap.size (fun k_ => some k_ ≠ (.slice Ao41 y140.length co41 : Value).ownBlock ∧ some k_ ≠ (v145 : Value).ownBlock ∧ some k_ ≠ (.slice Ao44 t147.length co44 : Value).ownBlock ∧ some k_ ≠ (s_.2 : Value).ownBlock ∧ some k_ ≠ (.slice Ao28 x6_1.length co28 : Value).ownBlock ∧ some k_ ≠ (v120 : Value).ownBlock) (.slice Ao40 y137.length co40) y137) ∧ (Kd.N (Kd.slice 5 (Kd.int .u8)) 22 w' w.heap.size (fun k_ => some k_ ≠ (v145 : Value).ownBlock ∧ some k_ ≠ (.slice Ao44 t147.length co44 : Value).ownBlock ∧ some k_ ≠ (s_.2 : Value).ownBlock) (.slice Ao41 y140.length co41) y140) ∧ (JV w' w.heap.size (fun k_ => some k_ ≠ (.slice Ao44 t147.length co44 : Value).ownBlock ∧ some k_ ≠ (s_.2 : Value).ownBlock ∧ some k_ ≠ (v120 : Value).ownBlock) v145 t143) ∧ (JV w' w.heap.size (fun k_ => some k_ ≠ (v145 : Value).ownBlock ∧ some k_ ≠ (s_.2 : Value).ownBlock ∧ some k_ ≠ (v120 : Value).ownBlock) (.slice Ao44 t147.length co44) t147) ∧ (Kd.R (Kd.int .u8) 5 w' w.heap.size (fun k_ => some k_ ≠ (v145 : Value).ownBlock ∧ some k_ ≠ (.slice Ao44 t147.length co44 : Value).ownBlock ∧ some k_ ≠ (v120 : Value).ownBlock) s_.2 y154) ∧ (Kd.N (Kd.slice 5 (Kd.int .u8)) 22 w' w.heap.size (fun k_ => some k_ ≠ (.slice Ao40 y137.length co40 : Value).ownBlock ∧ some k_ ≠ (.slice Ao41 y140.length co41 : Value).ownBlock ∧ some k_ ≠ (v145 : Value).ownBlock ∧ some k_ ≠ (.slice Ao44 t147.length co44 : Value).ownBlock ∧ some k_ ≠ (s_.2 : Value).ownBlock) (.slice Ao28 x6_1.length co28) x6_1) ∧ (Kd.R (Kd.int .u8) 5 w' w.heap.size (fun k_ => some k_ ≠ (v145 : Value).ownBlock ∧ some k_ ≠ (.slice Ao44 t147.length co44 : Value).ownBlock ∧ some k_ ≠ (s_.2 : Value).ownBlock) v120 y119) ∧ (Below w.heap.size w w')) ?_ ?_
                              rotate_left
                              · intro hJ0_2
                                refine join_ (σ := Value × Value) 5 #[true, true, false, true, true, false, false, false, false] (fun s_ => [(54, s_.1), (58, s_.2)]) (fun s_ w' => (Kd.N (Kd.slice 5 (Kd.int .u8)) 22 w' w.heap.size (fun k_ => some k_ ≠ (.slice Ao41 y140.length co41 : Value).ownBlock ∧ some k_ ≠ (v145 : Value).ownBlock ∧ some k_ ≠ (.slice Ao44 t147.length co44 : Value).ownBlock ∧ some k_ ≠ (s_.1 : Value).ownBlock ∧ some k_ ≠ (s_.2 : Value).ownBlock ∧ some k_ ≠ (.slice Ao28 x6_1.length co28 : Value).ownBlock ∧ some k_ ≠ (v120 : Value).ownBlock) (.slice Ao40 y137.length co40) y137) ∧ (Kd.N (Kd.slice 5 (Kd.int .u8)) 22 w' w.heap.size (fun k_ => some k_ ≠ (v145 : Value).ownBlock ∧ some k_ ≠ (.slice Ao44 t147.length co44 : Value).ownBlock ∧ some k_ ≠ (s_.1 : Value).ownBlock ∧ some k_ ≠ (s_.2 : Value).ownBlock) (.slice Ao41 y140.length co41) y140) ∧ (JV w' w.heap.size (fun k_ => some k_ ≠ (.slice Ao44 t147.length co44 : Value).ownBlock ∧ some k_ ≠ (s_.1 : Value).ownBlock ∧ some k_ ≠ (s_.2 : Value).ownBlock ∧ some k_ ≠ (v120 : Value).ownBlock) v145 t143) ∧ (JV w' w.heap.size (fun k_ => some k_ ≠ (v145 : Value).ownBlock ∧ some k_ ≠ (s_.1 : Value).ownBlock ∧ some k_ ≠ (s_.2 : Value).ownBlock ∧ some k_ ≠ (v120 : Value).ownBlock) (.slice Ao44 t147.length co44) t147) ∧ (Kd.R (Kd.int .u8) 5 w' w.heap.size (fun k_ => some k_ ≠ (v145 : Value).ownBlock ∧ some k_ ≠ (.slice Ao44 t147.length co44 : Value).ownBlock ∧ some k_ ≠ (s_.2 : Value).ownBlock ∧ some k_ ≠ (v120 : Value).ownBlock) s_.1 y151) ∧ (Kd.R (Kd.int .u8) 5 w' w.heap.size (fun k_ => some k_ ≠ (v145 : Value).ownBlock ∧ some k_ ≠ (.slice Ao44 t147.length co44 : Value).ownBlock ∧ some k_ ≠ (s_.1 : Value).ownBlock ∧ some k_ ≠ (v120 : Value).ownBlock) s_.2 y157) ∧ (Kd.N (Kd.slice 5 (Kd.int .u8)) 22 w' w.heap.size (fun k_ => some k_ ≠ (.slice Ao40 y137.length co40 : Value).ownBlock ∧ some k_ ≠ (.slice Ao41 y140.length co41 : Value).ownBlock ∧ some k_ ≠ (v145 : Value).ownBlock ∧ some k_ ≠ (.slice Ao44 t147.length co44 : Value).ownBlock ∧ some k_ ≠ (s_.1 : Value).ownBlock ∧ some k_ ≠ (s_.2 : Value).ownBlock) (.slice Ao28 x6_1.length co28) x6_1) ∧ (Kd.R (Kd.int .u8) 5 w' w.heap.size (fun k_ => some k_ ≠ (v145 : Value).ownBlock ∧ some k_ ≠ (.slice Ao44 t147.length co44 : Value).ownBlock ∧ some k_ ≠ (s_.1 : Value).ownBlock ∧ some k_ ≠ (s_.2 : Value).ownBlock) v120 y119) ∧ (Below w.heap.size w w')) ?_ ?_
                                rotate_left
                                · intro hJ0_4
                                  refine join_ (σ := Value) 5 #[false, true, false, true, true, true, false, false, false] (fun s_ => [(58, s_), (59, .string (strOfNums y157))]) (fun s_ w' => (Kd.N (Kd.slice 5 (Kd.int .u8)) 22 w' w.heap.size (fun k_ => some k_ ≠ (.slice Ao41 y140.length co41 : Value).ownBlock ∧ some k_ ≠ (v145 : Value).ownBlock ∧ some k_ ≠ (.slice Ao44 t147.length co44 : Value).ownBlock ∧ some k_ ≠ (s_ : Value).ownBlock ∧ some k_ ≠ (.slice Ao28 x6_1.length co28 : Value).ownBlock ∧ some k_ ≠ (v120 : Value).ownBlock) (.slice Ao40 y137.length co40) y137) ∧ (Kd.N (Kd.slice 5 (Kd.int .u8)) 22 w' w.heap.size (fun k_ => some k_ ≠ (v145 : Value).ownBlock ∧ some k_ ≠ (.slice Ao44 t147.length co44 : Value).ownBlock ∧ some k_ ≠ (s_ : Value).ownBlock) (.slice Ao41 y140.length co41) y140) ∧ (JV w' w.heap.size (fun k_ => some k_ ≠ (.slice Ao44 t147.length co44 : Value).ownBlock ∧ some k_ ≠ (s_ : Value).ownBlock ∧ some k_ ≠ (v120 : Value).ownBlock) v145 t143) ∧ (JV w' w.heap.size (fun k_ => some k_ ≠ (v145 : Value).ownBlock ∧ some k_ ≠ (s_ : Value).ownBlock ∧ some k_ ≠ (v120 : Value).ownBlock) (.slice Ao44 t147.length co44) t147) ∧ (Kd.R (Kd.int .u8) 5 w' w.heap.size (fun k_ => some k_ ≠ (v145 : Value).ownBlock ∧ some k_ ≠ (.slice Ao44 t147.length co44 : Value).ownBlock ∧ some k_ ≠ (v120 : Value).ownBlock) s_ y157) ∧ (Kd.N (Kd.slice 5 (Kd.int .u8)) 22 w' w.heap.size (fun k_ => some k_ ≠ (.slice Ao40 y137.length co40 : Value).ownBlock ∧ some k_ ≠ (.slice Ao41 y140.length co41 : Value).ownBlock ∧ some k_ ≠ (v145 : Value).ownBlock ∧ some k_ ≠ (.slice Ao44 t147.length co44 : Value).ownBlock ∧ some k_ ≠ (s_ : Value).ownBlock) (.slice Ao28 x6_1.length co28) x6_1) ∧ (Kd.R (Kd.int .u8) 5 w' w.heap.size (fun k_ => some k_ ≠ (v145 : Value).ownBlock ∧ some k_ ≠ (.slice Ao44 t147.length co44 : Value).ownBlock ∧ some k_ ≠ (s_ : Value).ownBlock) v120 y119) ∧ (Below w.heap.size w w')) ?_ ?_
                                  rotate_left
                                  · intro hJ4_5
                                    refine join_ (σ := Value) 6 #[true, true, false, true, false, false, false, false, false] (fun s_ => [(54, s_)]) (fun s_ w' => (Kd.N (Kd.slice 5 (Kd.int .u8)) 22 w' w.heap.size (fun k_ => some k_ ≠ (.slice Ao41 y140.length co41 : Value).ownBlock ∧ some k_ ≠ (v145 : Value).ownBlock ∧ some k_ ≠ (.slice Ao44 t147.length co44 : Value).ownBlock ∧ some k_ ≠ (s_ : Value).ownBlock ∧ some k_ ≠ (.slice Ao28 x6_1.length co28 : Value).ownBlock ∧ some k_ ≠ (v120 : Value).ownBlock) (.slice Ao40 y137.length co40) y137) ∧ (Kd.N (Kd.slice 5 (Kd.int .u8)) 22 w' w.heap.size (fun k_ => some k_ ≠ (v145 : Value).ownBlock ∧ some k_ ≠ (.slice Ao44 t147.length co44 : Value).ownBlock ∧ some k_ ≠ (s_ : Value).ownBlock) (.slice Ao41 y140.length co41) y140) ∧ (JV w' w.heap.size (fun k_ => some k_ ≠ (.slice Ao44 t147.length co44 : Value).ownBlock ∧ some k_ ≠ (s_ : Value).ownBlock ∧ some k_ ≠ (v120 : Value).ownBlock) v145 t143) ∧ (JV w' w.heap.size (fun k_ => some k_ ≠ (v145 : Value).ownBlock ∧ some k_ ≠ (s_ : Value).ownBlock ∧ some k_ ≠ (v120 : Value).ownBlock) (.slice Ao44 t147.length co44) t147) ∧ (Kd.R (Kd.int .u8) 5 w' w.heap.size (fun k_ => some k_ ≠ (v145 : Value).ownBlock ∧ some k_ ≠ (.slice Ao44 t147.length co44 : Value).ownBlock ∧ some k_ ≠ (v120 : Value).ownBlock) s_ y151) ∧ (Kd.N (Kd.slice 5 (Kd.int .u8)) 22 w' w.heap.size (fun k_ => some k_ ≠ (.slice Ao40 y137.length co40 : Value).ownBlock ∧ some k_ ≠ (.slice Ao41 y140.length co41 : Value).ownBlock ∧ some k_ ≠ (v145 : Value).ownBlock ∧ some k_ ≠ (.slice Ao44 t147.length co44 : Value).ownBlock ∧ some k_ ≠ (s_ : Value).ownBlock) (.slice Ao28 x6_1.length co28) x6_1) ∧ (Kd.R (Kd.int .u8) 5 w' w.heap.size (fun k_ => some k_ ≠ (v145 : Value).ownBlock ∧ some k_ ≠ (.slice Ao44 t147.length co44 : Value).ownBlock ∧ some k_ ≠ (s_ : Value).ownBlock) v120 y119) ∧ (Below w.heap.size w w')) ?_ ?_
                                    rotate_left
                                    · intro hJ0
                                      refine join_ (σ := Value) 6 #[false, true, false, true, true, false, false, false, false] (fun s_ => [(58, s_)]) (fun s_ w' => (Kd.N (Kd.slice 5 (Kd.int .u8)) 22 w' w.heap.size (fun k_ => some k_ ≠ (.slice Ao41 y140.length co41 : Value).ownBlock ∧ some k_ ≠ (v145 : Value).ownBlock ∧ some k_ ≠ (.slice Ao44 t147.length co44 : Value).ownBlock ∧ some k_ ≠ (s_ : Value).ownBlock ∧ some k_ ≠ (.slice Ao28 x6_1.length co28 : Value).ownBlock ∧ some k_ ≠ (v120 : Value).ownBlock) (.slice Ao40 y137.length co40) y137) ∧ (Kd.N (Kd.slice 5 (Kd.int .u8)) 22 w' w.heap.size (fun k_ => some k_ ≠ (v145 : Value).ownBlock ∧ some k_ ≠ (.slice Ao44 t147.length co44 : Value).ownBlock ∧ some k_ ≠ (s_ : Value).ownBlock) (.slice Ao41 y140.length co41) y140) ∧ (JV w' w.heap.size (fun k_ => some k_ ≠ (.slice Ao44 t147.length co44 : Value).ownBlock ∧ some k_ ≠ (s_ : Value).ownBlock ∧ some k_ ≠ (v120 : Value).ownBlock) v145 t143) ∧ (JV w' w.heap.size (fun k_ => some k_ ≠ (v145 : Value).ownBlock ∧ some k_ ≠ (s_ : Value).ownBlock ∧ some k_ ≠ (v120 : Value).ownBlock) (.slice Ao44 t147.length co44) t147) ∧ (Kd.R (Kd.int .u8) 5 w' w.heap.size (fun k_ => some k_ ≠ (v145 : Value).ownBlock ∧ some k_ ≠ (.slice Ao44 t147.length co44 : Value).ownBlock ∧ some k_ ≠ (v120 : Value).ownBlock) s_ y157) ∧ (Kd.N (Kd.slice 5 (Kd.int .u8)) 22 w' w.heap.size (fun k_ => some k_ ≠ (.slice Ao40 y137.length co40 : Value).ownBlock ∧ some k_ ≠ (.slice Ao41 y140.length co41 : Value).ownBlock ∧ some k_ ≠ (v145 : Value).ownBlock ∧ some k_ ≠ (.slice Ao44 t147.length co44 : Value).ownBlock ∧ some k_ ≠ (s_ : Value).ownBlock) (.slice Ao28 x6_1.length co28) x6_1) ∧ (Kd.R (Kd.int .u8) 5 w' w.heap.size (fun k_ => some k_ ≠ (v145 : Value).ownBlock ∧ some k_ ≠ (.slice Ao44 t147.length co44 : Value).ownBlock ∧ some k_ ≠ (s_ : Value).ownBlock) v120 y119) ∧ (Below w.heap.size w w')) ?_ ?_
                                      rotate_left
                                      · intro hJ4
                                        refine two_ (i := 0) (j := 4) (Ni := some 54) (Nj := some 58) #[true, true, false, true, false, false, false, false, false] #[false, true, false, true, true, false, false, false, false] rfl rfl rfl rfl (two_of HT_.out (by kernel_rfl)) (by decide) (by decide) (fun K hK => ?_) (fun K hK => ?_)
                                        · skip
                                          refine Kd.R_lit_step (Kd.int .u8) _ 5 ?hg (N := 54) ?hd (xs := ([] : List Int)) (inner := []) (ok := fun _ => True) (okp := fun _ => True) ?hr ?hp (fun _ hk => hk) trivial (Below.refl _ _) (Nat.le_refl _) (by simp) ?_; (case hd => rfl); (case hg => rfl); (case hr => first | (go_simp; done) | (go_simp; rfl)); (case hp => exact (Reps.none _ _))
                                          intro v152 w46 ho47 hb hg_ hnew_
                                          clear hg_ hnew_
                                          (first | rw [← Ny151.out] at ho47 | (simp only [Int.reduceToNat] at ho47; rw [← Ny151.out] at ho47))
                                          have n0_ := Aside0.mk (Kd.N_elder' (by (with_reducible repeat (first | apply Kd.N_alloc | apply Kd.N_drewN | apply Kd.N_drew)); exact HO_6.out) (Kd.R_base ho47) hb)
                                          have n1_ := Aside0.mk (Kd.R_elder' (by (with_reducible repeat (first | apply Kd.R_alloc | apply Kd.R_drewN | apply Kd.R_drew)); exact HO_7.out) (Kd.R_base ho47) hb)
                                          have n2_ := Aside0.mk (Kd.N_elder' (by (with_reducible repeat (first | apply Kd.N_alloc | apply Kd.N_drewN | apply Kd.N_drew)); exact HO139.out) (Kd.R_base ho47) hb)
                                          have n3_ := Aside0.mk (Kd.N_elder' (by (with_reducible repeat (first | apply Kd.N_alloc | apply Kd.N_drewN | apply Kd.N_drew)); exact HO142.out) (Kd.R_base ho47) hb)
                                          have n4_ := Aside0.mk (JV.elder' (by (with_reducible repeat (first | apply JV.alloc | apply JV.drewN | apply JV.drew)); exact HO146.out) (Kd.R_base ho47) hb)
                                          have n5_ := Aside0.mk (JV.elder' (by (with_reducible repeat (first | apply JV.alloc | apply JV.drewN | apply JV.drew)); exact HO150.out) (Kd.R_base ho47) hb)
                                          have n6_ := Aside0.mk (Kd.R_lower (Kd.R_new' (Kd.R_new' (Kd.R_new' ho47 (Kd.R_lt (by (with_reducible repeat (first | apply Kd.R_alloc | apply Kd.R_drewN | apply Kd.R_drew)); exact HO_7.out))) (JV.lt (by (with_reducible repeat (first | apply JV.alloc | apply JV.drewN | apply JV.drew)); exact HO146.out))) (JV.lt (by (with_reducible repeat (first | apply JV.alloc | apply JV.drewN | apply JV.drew)); exact HO150.out))) (below_size (by repeat (first | (with_reducible first | exact HB.out | apply below_alloc | apply pw_below_drewN | apply below_drew1) | exact HB.out))))
                                          have n7_ := Aside0.mk (below_step (by repeat (first | (with_reducible first | exact HB.out | apply below_alloc | apply pw_below_drewN | apply below_drew1) | exact HB.out)) hb)
                                          clear HO_6
                                          clear HO_7
                                          clear HO139
                                          clear HO142
                                          clear HO146
                                          clear HO150
                                          clear HB
                                          have HO_6 := n0_
                                          have HO_7 := n1_
                                          have HO139 := n2_
                                          have HO142 := n3_
                                          have HO146 := n4_
                                          have HO150 := n5_
                                          have HO153 := n6_
                                          have HB := n7_
                                          clear n0_ n1_ n2_ n3_ n4_ n5_ n6_ n7_
                                          clear hb ho47
                                          refine hK.out _ _ trivial (fun hHeld => ?_)
                                          clear hK K
                                          refine norm_ (a' := ?_) ?_ ?_
                                          rotate_left
                                          · show Act.put _ (some 54) _ = _
                                            simp only [Act.put, List.setIfInBounds_toArray, List.set_cons_zero, List.set_cons_succ, i64_w, i32_w]
                                            rfl
                                          exact norm_ (by first | (simp only [putAll, Act.put, List.setIfInBounds_toArray, List.set_cons_zero, List.set_cons_succ]; done) | (simp only [putAll, Act.put, List.setIfInBounds_toArray, List.set_cons_zero, List.set_cons_succ]; rfl)) (hJ0 (v152) _ ⟨(by (with_reducible repeat (first | apply Kd.N_alloc | apply Kd.N_drewN | apply Kd.N_drew)); exact Kd.N_mono HO139.out (fun _ hk => ⟨hk.1.1.1.2, ⟨hk.1.1.2, ⟨hk.1.2, ⟨hk.2, ⟨hk.1.1.1.1.1, hk.1.1.1.1.2⟩⟩⟩⟩⟩)), (by (with_reducible repeat (first | apply Kd.N_alloc | apply Kd.N_drewN | apply Kd.N_drew)); exact Kd.N_mono HO142.out (fun _ hk => ⟨hk.1.1.2, ⟨hk.1.2, hk.2⟩⟩)), (by (with_reducible repeat (first | apply JV.alloc | apply JV.drewN | apply JV.drew)); exact JV.mono HO146.out (fun _ hk => ⟨hk.1.2, ⟨hk.2, hk.1.1.2⟩⟩)), (by (with_reducible repeat (first | apply JV.alloc | apply JV.drewN | apply JV.drew)); exact JV.mono HO150.out (fun _ hk => ⟨hk.1.2, ⟨hk.2, hk.1.1.2⟩⟩)), (by (with_reducible repeat (first | apply Kd.R_alloc | apply Kd.R_drewN | apply Kd.R_drew)); exact Kd.R_mono HO153.out (fun _ hk => ⟨hk.1.2, ⟨hk.2, hk.1.1.2⟩⟩)), (by (with_reducible repeat (first | apply Kd.N_alloc | apply Kd.N_drewN | apply Kd.N_drew)); exact Kd.N_mono HO_6.out (fun _ hk => ⟨hk.1.1.1.1, ⟨hk.1.1.1.2, ⟨hk.1.1.2, ⟨hk.1.2, hk.2⟩⟩⟩⟩)), (by (with_reducible repeat (first | apply Kd.R_alloc | apply Kd.R_drewN | apply Kd.R_drew)); exact Kd.R_mono HO_7.out (fun _ hk => ⟨hk.1.1.2, ⟨hk.1.2, hk.2⟩⟩)), (by repeat (first | (with_reducible first | exact HB.out | apply below_alloc | apply pw_below_drewN | apply below_drew1) | exact HB.out))⟩)
                                        · skip
                                          refine Kd.R_make_step (Kd.int .u8) _ 5 (by rfl) (N := 58) rfl 22 _ _ rfl ji16 rfl rfl Tryd.underlying22 (.int .u8 0) 1 info5 rfl (by decide) (by omega) 0 (ok := fun _ => True) (okp := fun _ => True) rfl (fun _ hk => hk) trivial (of_decide_eq_true (by first | (with_reducible assumption) | assumption)) (Nat.le_trans (Nat.mul_le_mul_right _ (of_decide_eq_true (by first | (with_reducible assumption) | assumption) : ji16.toNat ≤ 281474976710656)) (by omega)) (Below.refl _ _) (Nat.le_refl _) ?_
                                          intro v158 w46 ho47 hb hg_ hnew_
                                          clear hg_ hnew_
                                          (first | rw [← Ny157.out] at ho47 | (simp only [Int.reduceToNat] at ho47; rw [← Ny157.out] at ho47))
                                          have n0_ := Aside0.mk (Kd.N_elder' (by (with_reducible repeat (first | apply Kd.N_alloc | apply Kd.N_drewN | apply Kd.N_drew)); exact HO_6.out) (Kd.R_base ho47) hb)
                                          have n1_ := Aside0.mk (Kd.R_elder' (by (with_reducible repeat (first | apply Kd.R_alloc | apply Kd.R_drewN | apply Kd.R_drew)); exact HO_7.out) (Kd.R_base ho47) hb)
                                          have n2_ := Aside0.mk (Kd.N_elder' (by (with_reducible repeat (first | apply Kd.N_alloc | apply Kd.N_drewN | apply Kd.N_drew)); exact HO139.out) (Kd.R_base ho47) hb)
                                          have n3_ := Aside0.mk (Kd.N_elder' (by (with_reducible repeat (first | apply Kd.N_alloc | apply Kd.N_drewN | apply Kd.N_drew)); exact HO142.out) (Kd.R_base ho47) hb)
                                          have n4_ := Aside0.mk (JV.elder' (by (with_reducible repeat (first | apply JV.alloc | apply JV.drewN | apply JV.drew)); exact HO146.out) (Kd.R_base ho47) hb)
                                          have n5_ := Aside0.mk (JV.elder' (by (with_reducible repeat (first | apply JV.alloc | apply JV.drewN | apply JV.drew)); exact HO150.out) (Kd.R_base ho47) hb)
                                          have n6_ := Aside0.mk (Kd.R_lower (Kd.R_new' (Kd.R_new' (Kd.R_new' ho47 (Kd.R_lt (by (with_reducible repeat (first | apply Kd.R_alloc | apply Kd.R_drewN | apply Kd.R_drew)); exact HO_7.out))) (JV.lt (by (with_reducible repeat (first | apply JV.alloc | apply JV.drewN | apply JV.drew)); exact HO146.out))) (JV.lt (by (with_reducible repeat (first | apply JV.alloc | apply JV.drewN | apply JV.drew)); exact HO150.out))) (below_size (by repeat (first | (with_reducible first | exact HB.out | apply below_alloc | apply pw_below_drewN | apply below_drew1) | exact HB.out))))
                                          have n7_ := Aside0.mk (below_step (by repeat (first | (with_reducible first | exact HB.out | apply below_alloc | apply pw_below_drewN | apply below_drew1) | exact HB.out)) hb)
                                          clear HO_6
                                          clear HO_7
                                          clear HO139
                                          clear HO142
                                          clear HO146
                                          clear HO150
                                          clear HB
                                          have HO_6 := n0_
                                          have HO_7 := n1_
                                          have HO139 := n2_
                                          have HO142 := n3_
                                          have HO146 := n4_
                                          have HO150 := n5_
                                          have HO159 := n6_
                                          have HB := n7_
                                          clear n0_ n1_ n2_ n3_ n4_ n5_ n6_ n7_
                                          clear hb ho47
                                          refine hK.out _ _ trivial (fun hHeld => ?_)
                                          clear hK K
                                          refine norm_ (a' := ?_) ?_ ?_
                                          rotate_left
                                          · show Act.put _ (some 58) _ = _
                                            simp only [Act.put, List.setIfInBounds_toArray, List.set_cons_zero, List.set_cons_succ, i64_w, i32_w]
                                            rfl
                                          exact norm_ (by first | (simp only [putAll, Act.put, List.setIfInBounds_toArray, List.set_cons_zero, List.set_cons_succ]; done) | (simp only [putAll, Act.put, List.setIfInBounds_toArray, List.set_cons_zero, List.set_cons_succ]; rfl)) (hJ4 (v158) _ ⟨(by (with_reducible repeat (first | apply Kd.N_alloc | apply Kd.N_drewN | apply Kd.N_drew)); exact Kd.N_mono HO139.out (fun _ hk => ⟨hk.1.1.1.2, ⟨hk.1.1.2, ⟨hk.1.2, ⟨hk.2, ⟨hk.1.1.1.1.1, hk.1.1.1.1.2⟩⟩⟩⟩⟩)), (by (with_reducible repeat (first | apply Kd.N_alloc | apply Kd.N_drewN | apply Kd.N_drew)); exact Kd.N_mono HO142.out (fun _ hk => ⟨hk.1.1.2, ⟨hk.1.2, hk.2⟩⟩)), (by (with_reducible repeat (first | apply JV.alloc | apply JV.drewN | apply JV.drew)); exact JV.mono HO146.out (fun _ hk => ⟨hk.1.2, ⟨hk.2, hk.1.1.2⟩⟩)), (by (with_reducible repeat (first | apply JV.alloc | apply JV.drewN | apply JV.drew)); exact JV.mono HO150.out (fun _ hk => ⟨hk.1.2, ⟨hk.2, hk.1.1.2⟩⟩)), (by (with_reducible repeat (first | apply Kd.R_alloc | apply Kd.R_drewN | apply Kd.R_drew)); exact Kd.R_mono HO159.out (fun _ hk => ⟨hk.1.2, ⟨hk.2, hk.1.1.2⟩⟩)), (by (with_reducible repeat (first | apply Kd.N_alloc | apply Kd.N_drewN | apply Kd.N_drew)); exact Kd.N_mono HO_6.out (fun _ hk => ⟨hk.1.1.1.1, ⟨hk.1.1.1.2, ⟨hk.1.1.2, ⟨hk.1.2, hk.2⟩⟩⟩⟩)), (by (with_reducible repeat (first | apply Kd.R_alloc | apply Kd.R_drewN | apply Kd.R_drew)); exact Kd.R_mono HO_7.out (fun _ hk => ⟨hk.1.1.2, ⟨hk.1.2, hk.2⟩⟩)), (by repeat (first | (with_reducible first | exact HB.out | apply below_alloc | apply pw_below_drewN | apply below_drew1) | exact HB.out))⟩)
                                      · skip
                                        rintro v158 w48 ⟨h0_, h1_, h2_, h3_, h4_, h5_, h6_, h7_⟩
                                        have n0_ : Aside0 (Kd.N (Kd.slice 5 (Kd.int .u8)) 22 w48 w.heap.size (fun k_ => some k_ ≠ (.slice Ao41 y140.length co41 : Value).ownBlock ∧ some k_ ≠ (v145 : Value).ownBlock ∧ some k_ ≠ (.slice Ao44 t147.length co44 : Value).ownBlock ∧ some k_ ≠ (v158 : Value).ownBlock ∧ some k_ ≠ (.slice Ao28 x6_1.length co28 : Value).ownBlock ∧ some k_ ≠ (v120 : Value).ownBlock) (.slice Ao40 y137.length co40) y137) := ⟨h0_⟩
                                        have n1_ : Aside0 (Kd.N (Kd.slice 5 (Kd.int .u8)) 22 w48 w.heap.size (fun k_ => some k_ ≠ (v145 : Value).ownBlock ∧ some k_ ≠ (.slice Ao44 t147.length co44 : Value).ownBlock ∧ some k_ ≠ (v158 : Value).ownBlock) (.slice Ao41 y140.length co41) y140) := ⟨h1_⟩
                                        have n2_ : Aside0 (JV w48 w.heap.size (fun k_ => some k_ ≠ (.slice Ao44 t147.length co44 : Value).ownBlock ∧ some k_ ≠ (v158 : Value).ownBlock ∧ some k_ ≠ (v120 : Value).ownBlock) v145 t143) := ⟨h2_⟩
                                        have n3_ : Aside0 (JV w48 w.heap.size (fun k_ => some k_ ≠ (v145 : Value).ownBlock ∧ some k_ ≠ (v158 : Value).ownBlock ∧ some k_ ≠ (v120 : Value).ownBlock) (.slice Ao44 t147.length co44) t147) := ⟨h3_⟩
                                        have n4_ : Aside0 (Kd.R (Kd.int .u8) 5 w48 w.heap.size (fun k_ => some k_ ≠ (v145 : Value).ownBlock ∧ some k_ ≠ (.slice Ao44 t147.length co44 : Value).ownBlock ∧ some k_ ≠ (v120 : Value).ownBlock) v158 y157) := ⟨h4_⟩
                                        have n5_ : Aside0 (Kd.N (Kd.slice 5 (Kd.int .u8)) 22 w48 w.heap.size (fun k_ => some k_ ≠ (.slice Ao40 y137.length co40 : Value).ownBlock ∧ some k_ ≠ (.slice Ao41 y140.length co41 : Value).ownBlock ∧ some k_ ≠ (v145 : Value).ownBlock ∧ some k_ ≠ (.slice Ao44 t147.length co44 : Value).ownBlock ∧ some k_ ≠ (v158 : Value).ownBlock) (.slice Ao28 x6_1.length co28) x6_1) := ⟨h5_⟩
                                        have n6_ : Aside0 (Kd.R (Kd.int .u8) 5 w48 w.heap.size (fun k_ => some k_ ≠ (v145 : Value).ownBlock ∧ some k_ ≠ (.slice Ao44 t147.length co44 : Value).ownBlock ∧ some k_ ≠ (v158 : Value).ownBlock) v120 y119) := ⟨h6_⟩
                                        have n7_ : Aside0 (Below w.heap.size w w48) := ⟨h7_⟩
                                        clear HO_6
                                        clear HO_7
                                        clear HO139
                                        clear HO142
                                        clear HO146
                                        clear HO150
                                        clear HB
                                        clear h0_ h1_ h2_ h3_ h4_ h5_ h6_ h7_
                                        have HO139 := n0_
                                        have HO142 := n1_
                                        have HO146 := n2_
                                        have HO150 := n3_
                                        have HO159 := n4_
                                        have HO_6 := n5_
                                        have HO_7 := n6_
                                        have HB := n7_
                                        clear n0_ n1_ n2_ n3_ n4_ n5_ n6_ n7_
                                        have hHeld := trivial
                                        refine norm_ (a' := ?_) ?_ ?_
                                        rotate_left
                                        · simp only [putAll, Act.put, List.setIfInBounds_toArray, List.set_cons_zero, List.set_cons_succ, *]
                                          rfl
                                        refine two_ (i := 0) (j := 5) (Ni := some 54) (Nj := some 59) #[true, true, false, true, true, false, false, false, false] #[false, true, false, true, true, true, false, false, false] rfl rfl rfl rfl (two_of HT_.out (by kernel_rfl)) (by decide) (by decide) (fun K hK => ?_) (fun K hK => ?_)
                                        · skip
                                          refine Kd.R_lit_step (Kd.int .u8) _ 5 ?hg (N := 54) ?hd (xs := ([] : List Int)) (inner := []) (ok := fun _ => True) (okp := fun _ => True) ?hr ?hp (fun _ hk => hk) trivial (Below.refl _ _) (Nat.le_refl _) (by simp) ?_; (case hd => rfl); (case hg => rfl); (case hr => first | (go_simp; done) | (go_simp; rfl)); (case hp => exact (Reps.none _ _))
                                          intro v152 w49 ho50 hb hg_ hnew_
                                          clear hg_ hnew_
                                          (first | rw [← Ny151.out] at ho50 | (simp only [Int.reduceToNat] at ho50; rw [← Ny151.out] at ho50))
                                          have n0_ := Aside0.mk (Kd.N_elder' (by (with_reducible repeat (first | apply Kd.N_alloc | apply Kd.N_drewN | apply Kd.N_drew)); exact HO_6.out) (Kd.R_base ho50) hb)
                                          have n1_ := Aside0.mk (Kd.R_elder' (by (with_reducible repeat (first | apply Kd.R_alloc | apply Kd.R_drewN | apply Kd.R_drew)); exact HO_7.out) (Kd.R_base ho50) hb)
                                          have n2_ := Aside0.mk (Kd.N_elder' (by (with_reducible repeat (first | apply Kd.N_alloc | apply Kd.N_drewN | apply Kd.N_drew)); exact HO139.out) (Kd.R_base ho50) hb)
                                          have n3_ := Aside0.mk (Kd.N_elder' (by (with_reducible repeat (first | apply Kd.N_alloc | apply Kd.N_drewN | apply Kd.N_drew)); exact HO142.out) (Kd.R_base ho50) hb)
                                          have n4_ := Aside0.mk (JV.elder' (by (with_reducible repeat (first | apply JV.alloc | apply JV.drewN | apply JV.drew)); exact HO146.out) (Kd.R_base ho50) hb)
                                          have n5_ := Aside0.mk (JV.elder' (by (with_reducible repeat (first | apply JV.alloc | apply JV.drewN | apply JV.drew)); exact HO150.out) (Kd.R_base ho50) hb)
                                          have n6_ := Aside0.mk (Kd.R_elder' (by (with_reducible repeat (first | apply Kd.R_alloc | apply Kd.R_drewN | apply Kd.R_drew)); exact HO159.out) (Kd.R_base ho50) hb)
                                          have n7_ := Aside0.mk (Kd.R_lower (Kd.R_new' (Kd.R_new' (Kd.R_new' (Kd.R_new' ho50 (Kd.R_lt (by (with_reducible repeat (first | apply Kd.R_alloc | apply Kd.R_drewN | apply Kd.R_drew)); exact HO_7.out))) (JV.lt (by (with_reducible repeat (first | apply JV.alloc | apply JV.drewN | apply JV.drew)); exact HO146.out))) (JV.lt (by (with_reducible repeat (first | apply JV.alloc | apply JV.drewN | apply JV.drew)); exact HO150.out))) (Kd.R_lt (by (with_reducible repeat (first | apply Kd.R_alloc | apply Kd.R_drewN | apply Kd.R_drew)); exact HO159.out))) (below_size (by repeat (first | (with_reducible first | exact HB.out | apply below_alloc | apply pw_below_drewN | apply below_drew1) | exact HB.out))))
                                          have n8_ := Aside0.mk (below_step (by repeat (first | (with_reducible first | exact HB.out | apply below_alloc | apply pw_below_drewN | apply below_drew1) | exact HB.out)) hb)
                                          clear HO_6
                                          clear HO_7
                                          clear HO139
                                          clear HO142
                                          clear HO146
                                          clear HO150
                                          clear HO159
                                          clear HB
                                          have HO_6 := n0_
                                          have HO_7 := n1_
                                          have HO139 := n2_
                                          have HO142 := n3_
                                          have HO146 := n4_
                                          have HO150 := n5_
                                          have HO159 := n6_
                                          have HO153 := n7_
                                          have HB := n8_
                                          clear n0_ n1_ n2_ n3_ n4_ n5_ n6_ n7_ n8_
                                          clear hb ho50
                                          refine hK.out _ _ trivial (fun hHeld => ?_)
                                          clear hK K
                                          refine norm_ (a' := ?_) ?_ ?_
                                          rotate_left
                                          · show Act.put _ (some 54) _ = _
                                            simp only [Act.put, List.setIfInBounds_toArray, List.set_cons_zero, List.set_cons_succ, i64_w, i32_w]
                                            rfl
                                          exact norm_ (by first | (simp only [putAll, Act.put, List.setIfInBounds_toArray, List.set_cons_zero, List.set_cons_succ]; done) | (simp only [putAll, Act.put, List.setIfInBounds_toArray, List.set_cons_zero, List.set_cons_succ]; rfl)) (hJ0_4 (v152, v158) _ ⟨(by (with_reducible repeat (first | apply Kd.N_alloc | apply Kd.N_drewN | apply Kd.N_drew)); exact Kd.N_mono HO139.out (fun _ hk => ⟨hk.1.1, ⟨hk.1.2.1, ⟨hk.1.2.2.1, ⟨hk.2, ⟨hk.1.2.2.2.1, ⟨hk.1.2.2.2.2.1, hk.1.2.2.2.2.2⟩⟩⟩⟩⟩⟩)), (by (with_reducible repeat (first | apply Kd.N_alloc | apply Kd.N_drewN | apply Kd.N_drew)); exact Kd.N_mono HO142.out (fun _ hk => ⟨hk.1.1, ⟨hk.1.2.1, ⟨hk.2, hk.1.2.2⟩⟩⟩)), (by (with_reducible repeat (first | apply JV.alloc | apply JV.drewN | apply JV.drew)); exact JV.mono HO146.out (fun _ hk => ⟨hk.1.1, ⟨hk.2, ⟨hk.1.2.1, hk.1.2.2⟩⟩⟩)), (by (with_reducible repeat (first | apply JV.alloc | apply JV.drewN | apply JV.drew)); exact JV.mono HO150.out (fun _ hk => ⟨hk.1.1, ⟨hk.2, ⟨hk.1.2.1, hk.1.2.2⟩⟩⟩)), (by (with_reducible repeat (first | apply Kd.R_alloc | apply Kd.R_drewN | apply Kd.R_drew)); exact Kd.R_mono HO153.out (fun _ hk => ⟨hk.1.1.2, ⟨hk.1.2, ⟨hk.2, hk.1.1.1.2⟩⟩⟩)), (by (with_reducible repeat (first | apply Kd.R_alloc | apply Kd.R_drewN | apply Kd.R_drew)); exact Kd.R_mono HO159.out (fun _ hk => ⟨hk.1.1, ⟨hk.1.2.1, ⟨hk.2, hk.1.2.2⟩⟩⟩)), (by (with_reducible repeat (first | apply Kd.N_alloc | apply Kd.N_drewN | apply Kd.N_drew)); exact Kd.N_mono HO_6.out (fun _ hk => ⟨hk.1.1, ⟨hk.1.2.1, ⟨hk.1.2.2.1, ⟨hk.1.2.2.2.1, ⟨hk.2, hk.1.2.2.2.2⟩⟩⟩⟩⟩)), (by (with_reducible repeat (first | apply Kd.R_alloc | apply Kd.R_drewN | apply Kd.R_drew)); exact Kd.R_mono HO_7.out (fun _ hk => ⟨hk.1.1, ⟨hk.1.2.1, ⟨hk.2, hk.1.2.2⟩⟩⟩)), (by repeat (first | (with_reducible first | exact HB.out | apply below_alloc | apply pw_below_drewN | apply below_drew1) | exact HB.out))⟩)
                                        · skip
                                          have hcv49 := own_string (P := Tryd.prog) Tryd.underlying22 Tryd.underlying5 Tryd.underlying9 (Kd.own_of_R HO159.out); (try have hcv49d := fun n_ : Nat => own_string (P := Tryd.prog) Tryd.underlying22 Tryd.underlying5 Tryd.underlying9 (Kd.own_of_R (Kd.R_drewN HO159.out n_)))
                                          refine value_ (w1 := ?_) (v := ?_) (by rfl) rfl ?_ ?_
                                          rotate_left 2
                                          · go_simp
                                            constructor
                                            · rfl
                                            · rfl
                                          clear hcv49
                                          refine hK.out _ _ trivial (fun hHeld => ?_)
                                          clear hK K
                                          refine norm_ (a' := ?_) ?_ ?_
                                          rotate_left
                                          · show Act.put _ (some 59) _ = _
                                            simp only [Act.put, List.setIfInBounds_toArray, List.set_cons_zero, List.set_cons_succ, i64_w, i32_w]
                                            rfl
                                          exact norm_ (by first | (simp only [putAll, Act.put, List.setIfInBounds_toArray, List.set_cons_zero, List.set_cons_succ]; done) | (simp only [putAll, Act.put, List.setIfInBounds_toArray, List.set_cons_zero, List.set_cons_succ]; rfl)) (hJ4_5 (v158) _ ⟨(by (with_reducible repeat (first | apply Kd.N_alloc | apply Kd.N_drewN | apply Kd.N_drew)); exact HO139.out), (by (with_reducible repeat (first | apply Kd.N_alloc | apply Kd.N_drewN | apply Kd.N_drew)); exact HO142.out), (by (with_reducible repeat (first | apply Kd.R_alloc | apply Kd.R_drewN | apply Kd.R_drew)); exact HO146.out), (by (with_reducible repeat (first | apply Kd.R_alloc | apply Kd.R_drewN | apply Kd.R_drew)); exact HO150.out), (by (with_reducible repeat (first | apply Kd.R_alloc | apply Kd.R_drewN | apply Kd.R_drew)); exact HO159.out), (by (with_reducible repeat (first | apply Kd.N_alloc | apply Kd.N_drewN | apply Kd.N_drew)); exact HO_6.out), (by (with_reducible repeat (first | apply Kd.R_alloc | apply Kd.R_drewN | apply Kd.R_drew)); exact HO_7.out), (by repeat (first | (with_reducible first | exact HB.out | apply below_alloc | apply pw_below_drewN | apply below_drew1) | exact HB.out))⟩)
                                    · skip
                                      rintro v152 w48 ⟨h0_, h1_, h2_, h3_, h4_, h5_, h6_, h7_⟩
                                      have n0_ : Aside0 (Kd.N (Kd.slice 5 (Kd.int .u8)) 22 w48 w.heap.size (fun k_ => some k_ ≠ (.slice Ao41 y140.length co41 : Value).ownBlock ∧ some k_ ≠ (v145 : Value).ownBlock ∧ some k_ ≠ (.slice Ao44 t147.length co44 : Value).ownBlock ∧ some k_ ≠ (v152 : Value).ownBlock ∧ some k_ ≠ (.slice Ao28 x6_1.length co28 : Value).ownBlock ∧ some k_ ≠ (v120 : Value).ownBlock) (.slice Ao40 y137.length co40) y137) := ⟨h0_⟩
                                      have n1_ : Aside0 (Kd.N (Kd.slice 5 (Kd.int .u8)) 22 w48 w.heap.size (fun k_ => some k_ ≠ (v145 : Value).ownBlock ∧ some k_ ≠ (.slice Ao44 t147.length co44 : Value).ownBlock ∧ some k_ ≠ (v152 : Value).ownBlock) (.slice Ao41 y140.length co41) y140) := ⟨h1_⟩
                                      have n2_ : Aside0 (JV w48 w.heap.size (fun k_ => some k_ ≠ (.slice Ao44 t147.length co44 : Value).ownBlock ∧ some k_ ≠ (v152 : Value).ownBlock ∧ some k_ ≠ (v120 : Value).ownBlock) v145 t143) := ⟨h2_⟩
                                      have n3_ : Aside0 (JV w48 w.heap.size (fun k_ => some k_ ≠ (v145 : Value).ownBlock ∧ some k_ ≠ (v152 : Value).ownBlock ∧ some k_ ≠ (v120 : Value).ownBlock) (.slice Ao44 t147.length co44) t147) := ⟨h3_⟩
                                      have n4_ : Aside0 (Kd.R (Kd.int .u8) 5 w48 w.heap.size (fun k_ => some k_ ≠ (v145 : Value).ownBlock ∧ some k_ ≠ (.slice Ao44 t147.length co44 : Value).ownBlock ∧ some k_ ≠ (v120 : Value).ownBlock) v152 y151) := ⟨h4_⟩
                                      have n5_ : Aside0 (Kd.N (Kd.slice 5 (Kd.int .u8)) 22 w48 w.heap.size (fun k_ => some k_ ≠ (.slice Ao40 y137.length co40 : Value).ownBlock ∧ some k_ ≠ (.slice Ao41 y140.length co41 : Value).ownBlock ∧ some k_ ≠ (v145 : Value).ownBlock ∧ some k_ ≠ (.slice Ao44 t147.length co44 : Value).ownBlock ∧ some k_ ≠ (v152 : Value).ownBlock) (.slice Ao28 x6_1.length co28) x6_1) := ⟨h5_⟩
                                      have n6_ : Aside0 (Kd.R (Kd.int .u8) 5 w48 w.heap.size (fun k_ => some k_ ≠ (v145 : Value).ownBlock ∧ some k_ ≠ (.slice Ao44 t147.length co44 : Value).ownBlock ∧ some k_ ≠ (v152 : Value).ownBlock) v120 y119) := ⟨h6_⟩
                                      have n7_ : Aside0 (Below w.heap.size w w48) := ⟨h7_⟩
                                      clear HO_6
                                      clear HO_7
                                      clear HO139
                                      clear HO142
                                      clear HO146
                                      clear HO150
                                      clear HB
                                      clear h0_ h1_ h2_ h3_ h4_ h5_ h6_ h7_
                                      have HO139 := n0_
                                      have HO142 := n1_
                                      have HO146 := n2_
                                      have HO150 := n3_
                                      have HO153 := n4_
                                      have HO_6 := n5_
                                      have HO_7 := n6_
                                      have HB := n7_
                                      clear n0_ n1_ n2_ n3_ n4_ n5_ n6_ n7_
                                      have hHeld := trivial
                                      refine norm_ (a' := ?_) ?_ ?_
                                      rotate_left
                                      · simp only [putAll, Act.put, List.setIfInBounds_toArray, List.set_cons_zero, List.set_cons_succ, *]
                                        rfl
                                      refine two_ (i := 2) (j := 4) (Ni := some 56) (Nj := some 58) #[true, true, true, true, false, false, false, false, false] #[true, true, false, true, true, false, false, false, false] rfl rfl rfl rfl (two_of HT_.out (by kernel_rfl)) (by decide) (by decide) (fun K hK => ?_) (fun K hK => ?_)
                                      · skip
                                        refine Kd.R_append_rows_step (Kd.int .u8) (w0 := w) w.heap.size (by rfl) (.tmp 54) (.tmp 55) 22 5 (.int .u8 0) 1 rfl Tryd.underlying22 info5 rfl (by decide) (by omega) v152 y151 t147 _ _ _ (fun k_ => some k_ ≠ (v120 : Value).ownBlock ∧ some k_ ≠ (v145 : Value).ownBlock ∧ some k_ ≠ (.slice Ao44 t147.length co44 : Value).ownBlock) (fun _ => False) rfl rfl ?aO ?aR (fun _ _ h => h) (fun _ h => h.elim) ?aF ?aB ?aS ?aL ?_
                                        (case aR => repeat (first | exact (JV.reads' HO150.out).2.2 | (with_reducible refine Kd.C_alloc ?_ _) | (with_reducible refine Kd.C_drewN ?_ _) | (with_reducible refine Kd.C_drew ?_)))
                                        (case aB => exact (by repeat (first | (with_reducible first | exact HB.out | apply below_alloc | apply pw_below_drewN | apply below_drew1) | exact HB.out)))
                                        (case aF => exact (fun k_ hk => ⟨Kd.fresh' (Kd.R_lt (by (with_reducible repeat (first | apply Kd.R_alloc | apply Kd.R_drewN | apply Kd.R_drew)); exact HO_7.out)) k_ hk, Kd.fresh' (JV.lt (by (with_reducible repeat (first | apply JV.alloc | apply JV.drewN | apply JV.drew)); exact HO146.out)) k_ hk, Kd.fresh' (JV.lt (by (with_reducible repeat (first | apply JV.alloc | apply JV.drewN | apply JV.drew)); exact HO150.out)) k_ hk⟩))
                                        (case aO => exact (by (with_reducible repeat (first | apply Kd.R_alloc | apply Kd.R_drewN | apply Kd.R_drew)); exact Kd.R_mono HO153.out (fun _ hk => ⟨hk.2.2, ⟨hk.1, hk.2.1⟩⟩)))
                                        (case aS => exact (below_size (by repeat (first | (with_reducible first | exact HB.out | apply below_alloc | apply pw_below_drewN | apply below_drew1) | exact HB.out))))
                                        (case aL => have := LMc23.out; omega)
                                        intro v155 w49 ho hb hg hat
                                        rw [← Ny154.out] at ho
                                        have n0_ := Aside0.mk (Kd.N_afterv (ok := (fun k_ => some k_ ≠ (.slice Ao40 y137.length co40 : Value).ownBlock ∧ some k_ ≠ (.slice Ao41 y140.length co41 : Value).ownBlock ∧ some k_ ≠ (v145 : Value).ownBlock ∧ some k_ ≠ (.slice Ao44 t147.length co44 : Value).ownBlock)) (by (with_reducible repeat (first | apply Kd.N_alloc | apply Kd.N_drewN | apply Kd.N_drew)); exact Kd.N_mono HO_6.out (fun _ hk => ⟨⟨hk.1, ⟨hk.2.1, ⟨hk.2.2.1, hk.2.2.2.1⟩⟩⟩, hk.2.2.2.2⟩)) hg hat)
                                        have n1_ := Aside0.mk (Kd.R_after (ok := (fun k_ => some k_ ≠ (v145 : Value).ownBlock ∧ some k_ ≠ (.slice Ao44 t147.length co44 : Value).ownBlock)) (by (with_reducible repeat (first | apply Kd.R_alloc | apply Kd.R_drewN | apply Kd.R_drew)); exact Kd.R_mono HO_7.out (fun _ hk => ⟨⟨hk.1, hk.2.1⟩, hk.2.2⟩)) hg hat)
                                        have n2_ := Aside0.mk (Kd.N_afterv (ok := (fun k_ => some k_ ≠ (.slice Ao28 x6_1.length co28 : Value).ownBlock ∧ some k_ ≠ (v120 : Value).ownBlock ∧ some k_ ≠ (.slice Ao41 y140.length co41 : Value).ownBlock ∧ some k_ ≠ (v145 : Value).ownBlock ∧ some k_ ≠ (.slice Ao44 t147.length co44 : Value).ownBlock)) (by (with_reducible repeat (first | apply Kd.N_alloc | apply Kd.N_drewN | apply Kd.N_drew)); exact Kd.N_mono HO139.out (fun _ hk => ⟨⟨hk.2.2.2.2.1, ⟨hk.2.2.2.2.2, ⟨hk.1, ⟨hk.2.1, hk.2.2.1⟩⟩⟩⟩, hk.2.2.2.1⟩)) hg hat)
                                        have n3_ := Aside0.mk (Kd.N_afterv (ok := (fun k_ => some k_ ≠ (v145 : Value).ownBlock ∧ some k_ ≠ (.slice Ao44 t147.length co44 : Value).ownBlock)) (by (with_reducible repeat (first | apply Kd.N_alloc | apply Kd.N_drewN | apply Kd.N_drew)); exact Kd.N_mono HO142.out (fun _ hk => ⟨⟨hk.1, hk.2.1⟩, hk.2.2⟩)) hg hat)
                                        have n4_ := Aside0.mk (JV.after (ok := (fun k_ => some k_ ≠ (v120 : Value).ownBlock ∧ some k_ ≠ (.slice Ao44 t147.length co44 : Value).ownBlock)) (by (with_reducible repeat (first | apply JV.alloc | apply JV.drewN | apply JV.drew)); exact JV.mono HO146.out (fun _ hk => ⟨⟨hk.2.2, hk.1⟩, hk.2.1⟩)) hg hat)
                                        have n5_ := Aside0.mk (JV.after (ok := (fun k_ => some k_ ≠ (v120 : Value).ownBlock ∧ some k_ ≠ (v145 : Value).ownBlock)) (by (with_reducible repeat (first | apply JV.alloc | apply JV.drewN | apply JV.drew)); exact JV.mono HO150.out (fun _ hk => ⟨⟨hk.2.2, hk.1⟩, hk.2.1⟩)) hg hat)
                                        have n6_ := Aside0.mk (hb)
                                        have n7_ := Aside0.mk (ho)
                                        clear HO_6
                                        clear HO_7
                                        clear HO139
                                        clear HO142
                                        clear HO146
                                        clear HO150
                                        clear HB
                                        clear HO153
                                        have HO_6 := n0_
                                        have HO_7 := n1_
                                        have HO139 := n2_
                                        have HO142 := n3_
                                        have HO146 := n4_
                                        have HO150 := n5_
                                        have HB := n6_
                                        have HO156 := n7_
                                        clear n0_ n1_ n2_ n3_ n4_ n5_ n6_ n7_
                                        clear ho hb hg hat
                                        refine hK.out _ _ trivial (fun hHeld => ?_)
                                        clear hK K
                                        refine norm_ (a' := ?_) ?_ ?_
                                        rotate_left
                                        · show Act.put _ (some 56) _ = _
                                          simp only [Act.put, List.setIfInBounds_toArray, List.set_cons_zero, List.set_cons_succ, i64_w, i32_w]
                                          rfl
                                        exact norm_ (by first | (simp only [putAll, Act.put, List.setIfInBounds_toArray, List.set_cons_zero, List.set_cons_succ]; done) | (simp only [putAll, Act.put, List.setIfInBounds_toArray, List.set_cons_zero, List.set_cons_succ]; rfl)) (hJ0_2 (v152, v155) _ ⟨(by (with_reducible repeat (first | apply Kd.N_alloc | apply Kd.N_drewN | apply Kd.N_drew)); exact Kd.N_mono HO139.out (fun _ hk => ⟨hk.1.2.2.1, ⟨hk.1.2.2.2.1, ⟨hk.1.2.2.2.2, ⟨hk.2, ⟨hk.1.1, hk.1.2.1⟩⟩⟩⟩⟩)), (by (with_reducible repeat (first | apply Kd.N_alloc | apply Kd.N_drewN | apply Kd.N_drew)); exact Kd.N_mono HO142.out (fun _ hk => ⟨hk.1.1, ⟨hk.1.2, hk.2⟩⟩)), (by (with_reducible repeat (first | apply JV.alloc | apply JV.drewN | apply JV.drew)); exact JV.mono HO146.out (fun _ hk => ⟨hk.1.2, ⟨hk.2, hk.1.1⟩⟩)), (by (with_reducible repeat (first | apply JV.alloc | apply JV.drewN | apply JV.drew)); exact JV.mono HO150.out (fun _ hk => ⟨hk.1.2, ⟨hk.2, hk.1.1⟩⟩)), (by (with_reducible repeat (first | apply Kd.R_alloc | apply Kd.R_drewN | apply Kd.R_drew)); exact Kd.R_mono HO156.out (fun _ hk => ⟨hk.2.1, ⟨hk.2.2, hk.1⟩⟩)), (by (with_reducible repeat (first | apply Kd.N_alloc | apply Kd.N_drewN | apply Kd.N_drew)); exact Kd.N_mono HO_6.out (fun _ hk => ⟨hk.1.1, ⟨hk.1.2.1, ⟨hk.1.2.2.1, ⟨hk.1.2.2.2, hk.2⟩⟩⟩⟩)), (by (with_reducible repeat (first | apply Kd.R_alloc | apply Kd.R_drewN | apply Kd.R_drew)); exact Kd.R_mono HO_7.out (fun _ hk => ⟨hk.1.1, ⟨hk.1.2, hk.2⟩⟩)), (by repeat (first | (with_reducible first | exact HB.out | apply below_alloc | apply pw_below_drewN | apply below_drew1) | exact HB.out))⟩)
                                      · skip
                                        refine Kd.R_make_step (Kd.int .u8) _ 5 (by rfl) (N := 58) rfl 22 _ _ rfl ji16 rfl rfl Tryd.underlying22 (.int .u8 0) 1 info5 rfl (by decide) (by omega) 0 (ok := fun _ => True) (okp := fun _ => True) rfl (fun _ hk => hk) trivial (of_decide_eq_true (by first | (with_reducible assumption) | assumption)) (Nat.le_trans (Nat.mul_le_mul_right _ (of_decide_eq_true (by first | (with_reducible assumption) | assumption) : ji16.toNat ≤ 281474976710656)) (by omega)) (Below.refl _ _) (Nat.le_refl _) ?_
                                        intro v158 w49 ho50 hb hg_ hnew_
                                        clear hg_ hnew_
                                        (first | rw [← Ny157.out] at ho50 | (simp only [Int.reduceToNat] at ho50; rw [← Ny157.out] at ho50))
                                        have n0_ := Aside0.mk (Kd.N_elder' (by (with_reducible repeat (first | apply Kd.N_alloc | apply Kd.N_drewN | apply Kd.N_drew)); exact HO_6.out) (Kd.R_base ho50) hb)
                                        have n1_ := Aside0.mk (Kd.R_elder' (by (with_reducible repeat (first | apply Kd.R_alloc | apply Kd.R_drewN | apply Kd.R_drew)); exact HO_7.out) (Kd.R_base ho50) hb)
                                        have n2_ := Aside0.mk (Kd.N_elder' (by (with_reducible repeat (first | apply Kd.N_alloc | apply Kd.N_drewN | apply Kd.N_drew)); exact HO139.out) (Kd.R_base ho50) hb)
                                        have n3_ := Aside0.mk (Kd.N_elder' (by (with_reducible repeat (first | apply Kd.N_alloc | apply Kd.N_drewN | apply Kd.N_drew)); exact HO142.out) (Kd.R_base ho50) hb)
                                        have n4_ := Aside0.mk (JV.elder' (by (with_reducible repeat (first | apply JV.alloc | apply JV.drewN | apply JV.drew)); exact HO146.out) (Kd.R_base ho50) hb)
                                        have n5_ := Aside0.mk (JV.elder' (by (with_reducible repeat (first | apply JV.alloc | apply JV.drewN | apply JV.drew)); exact HO150.out) (Kd.R_base ho50) hb)
                                        have n6_ := Aside0.mk (Kd.R_elder' (by (with_reducible repeat (first | apply Kd.R_alloc | apply Kd.R_drewN | apply Kd.R_drew)); exact HO153.out) (Kd.R_base ho50) hb)
                                        have n7_ := Aside0.mk (Kd.R_lower (Kd.R_new' (Kd.R_new' (Kd.R_new' (Kd.R_new' ho50 (Kd.R_lt (by (with_reducible repeat (first | apply Kd.R_alloc | apply Kd.R_drewN | apply Kd.R_drew)); exact HO_7.out))) (JV.lt (by (with_reducible repeat (first | apply JV.alloc | apply JV.drewN | apply JV.drew)); exact HO146.out))) (JV.lt (by (with_reducible repeat (first | apply JV.alloc | apply JV.drewN | apply JV.drew)); exact HO150.out))) (Kd.R_lt (by (with_reducible repeat (first | apply Kd.R_alloc | apply Kd.R_drewN | apply Kd.R_drew)); exact HO153.out))) (below_size (by repeat (first | (with_reducible first | exact HB.out | apply below_alloc | apply pw_below_drewN | apply below_drew1) | exact HB.out))))
                                        have n8_ := Aside0.mk (below_step (by repeat (first | (with_reducible first | exact HB.out | apply below_alloc | apply pw_below_drewN | apply below_drew1) | exact HB.out)) hb)
                                        clear HO_6
                                        clear HO_7
                                        clear HO139
                                        clear HO142
                                        clear HO146
                                        clear HO150
                                        clear HO153
                                        clear HB
                                        have HO_6 := n0_
                                        have HO_7 := n1_
                                        have HO139 := n2_
                                        have HO142 := n3_
                                        have HO146 := n4_
                                        have HO150 := n5_
                                        have HO153 := n6_
                                        have HO159 := n7_
                                        have HB := n8_
                                        clear n0_ n1_ n2_ n3_ n4_ n5_ n6_ n7_ n8_
                                        clear hb ho50
                                        refine hK.out _ _ trivial (fun hHeld => ?_)
                                        clear hK K
                                        refine norm_ (a' := ?_) ?_ ?_
                                        rotate_left
                                        · show Act.put _ (some 58) _ = _
                                          simp only [Act.put, List.setIfInBounds_toArray, List.set_cons_zero, List.set_cons_succ, i64_w, i32_w]
                                          rfl
                                        exact norm_ (by first | (simp only [putAll, Act.put, List.setIfInBounds_toArray, List.set_cons_zero, List.set_cons_succ]; done) | (simp only [putAll, Act.put, List.setIfInBounds_toArray, List.set_cons_zero, List.set_cons_succ]; rfl)) (hJ0_4 (v152, v158) _ ⟨(by (with_reducible repeat (first | apply Kd.N_alloc | apply Kd.N_drewN | apply Kd.N_drew)); exact Kd.N_mono HO139.out (fun _ hk => ⟨hk.1.1, ⟨hk.1.2.1, ⟨hk.1.2.2.1, ⟨hk.1.2.2.2.1, ⟨hk.2, ⟨hk.1.2.2.2.2.1, hk.1.2.2.2.2.2⟩⟩⟩⟩⟩⟩)), (by (with_reducible repeat (first | apply Kd.N_alloc | apply Kd.N_drewN | apply Kd.N_drew)); exact Kd.N_mono HO142.out (fun _ hk => ⟨hk.1.1, ⟨hk.1.2.1, ⟨hk.1.2.2, hk.2⟩⟩⟩)), (by (with_reducible repeat (first | apply JV.alloc | apply JV.drewN | apply JV.drew)); exact JV.mono HO146.out (fun _ hk => ⟨hk.1.1, ⟨hk.1.2.1, ⟨hk.2, hk.1.2.2⟩⟩⟩)), (by (with_reducible repeat (first | apply JV.alloc | apply JV.drewN | apply JV.drew)); exact JV.mono HO150.out (fun _ hk => ⟨hk.1.1, ⟨hk.1.2.1, ⟨hk.2, hk.1.2.2⟩⟩⟩)), (by (with_reducible repeat (first | apply Kd.R_alloc | apply Kd.R_drewN | apply Kd.R_drew)); exact Kd.R_mono HO153.out (fun _ hk => ⟨hk.1.1, ⟨hk.1.2.1, ⟨hk.2, hk.1.2.2⟩⟩⟩)), (by (with_reducible repeat (first | apply Kd.R_alloc | apply Kd.R_drewN | apply Kd.R_drew)); exact Kd.R_mono HO159.out (fun _ hk => ⟨hk.1.1.2, ⟨hk.1.2, ⟨hk.2, hk.1.1.1.2⟩⟩⟩)), (by (with_reducible repeat (first | apply Kd.N_alloc | apply Kd.N_drewN | apply Kd.N_drew)); exact Kd.N_mono HO_6.out (fun _ hk => ⟨hk.1.1, ⟨hk.1.2.1, ⟨hk.1.2.2.1, ⟨hk.1.2.2.2.1, ⟨hk.1.2.2.2.2, hk.2⟩⟩⟩⟩⟩)), (by (with_reducible repeat (first | apply Kd.R_alloc | apply Kd.R_drewN | apply Kd.R_drew)); exact Kd.R_mono HO_7.out (fun _ hk => ⟨hk.1.1, ⟨hk.1.2.1, ⟨hk.1.2.2, hk.2⟩⟩⟩)), (by repeat (first | (with_reducible first | exact HB.out | apply below_alloc | apply pw_below_drewN | apply below_drew1) | exact HB.out))⟩)
                                  · skip
                                    rintro v158 w49 ⟨h0_, h1_, h2_, h3_, h4_, h5_, h6_, h7_⟩
                                    have n0_ : Aside0 (Kd.N (Kd.slice 5 (Kd.int .u8)) 22 w49 w.heap.size (fun k_ => some k_ ≠ (.slice Ao41 y140.length co41 : Value).ownBlock ∧ some k_ ≠ (v145 : Value).ownBlock ∧ some k_ ≠ (.slice Ao44 t147.length co44 : Value).ownBlock ∧ some k_ ≠ (v158 : Value).ownBlock ∧ some k_ ≠ (.slice Ao28 x6_1.length co28 : Value).ownBlock ∧ some k_ ≠ (v120 : Value).ownBlock) (.slice Ao40 y137.length co40) y137) := ⟨h0_⟩
                                    have n1_ : Aside0 (Kd.N (Kd.slice 5 (Kd.int .u8)) 22 w49 w.heap.size (fun k_ => some k_ ≠ (v145 : Value).ownBlock ∧ some k_ ≠ (.slice Ao44 t147.length co44 : Value).ownBlock ∧ some k_ ≠ (v158 : Value).ownBlock) (.slice Ao41 y140.length co41) y140) := ⟨h1_⟩
                                    have n2_ : Aside0 (JV w49 w.heap.size (fun k_ => some k_ ≠ (.slice Ao44 t147.length co44 : Value).ownBlock ∧ some k_ ≠ (v158 : Value).ownBlock ∧ some k_ ≠ (v120 : Value).ownBlock) v145 t143) := ⟨h2_⟩
                                    have n3_ : Aside0 (JV w49 w.heap.size (fun k_ => some k_ ≠ (v145 : Value).ownBlock ∧ some k_ ≠ (v158 : Value).ownBlock ∧ some k_ ≠ (v120 : Value).ownBlock) (.slice Ao44 t147.length co44) t147) := ⟨h3_⟩
                                    have n4_ : Aside0 (Kd.R (Kd.int .u8) 5 w49 w.heap.size (fun k_ => some k_ ≠ (v145 : Value).ownBlock ∧ some k_ ≠ (.slice Ao44 t147.length co44 : Value).ownBlock ∧ some k_ ≠ (v120 : Value).ownBlock) v158 y157) := ⟨h4_⟩
                                    have n5_ : Aside0 (Kd.N (Kd.slice 5 (Kd.int .u8)) 22 w49 w.heap.size (fun k_ => some k_ ≠ (.slice Ao40 y137.length co40 : Value).ownBlock ∧ some k_ ≠ (.slice Ao41 y140.length co41 : Value).ownBlock ∧ some k_ ≠ (v145 : Value).ownBlock ∧ some k_ ≠ (.slice Ao44 t147.length co44 : Value).ownBlock ∧ some k_ ≠ (v158 : Value).ownBlock) (.slice Ao28 x6_1.length co28) x6_1) := ⟨h5_⟩
                                    have n6_ : Aside0 (Kd.R (Kd.int .u8) 5 w49 w.heap.size (fun k_ => some k_ ≠ (v145 : Value).ownBlock ∧ some k_ ≠ (.slice Ao44 t147.length co44 : Value).ownBlock ∧ some k_ ≠ (v158 : Value).ownBlock) v120 y119) := ⟨h6_⟩
                                    have n7_ : Aside0 (Below w.heap.size w w49) := ⟨h7_⟩
                                    clear HO_6
                                    clear HO_7
                                    clear HO139
                                    clear HO142
                                    clear HO146
                                    clear HO150
                                    clear HB
                                    clear h0_ h1_ h2_ h3_ h4_ h5_ h6_ h7_
                                    have HO139 := n0_
                                    have HO142 := n1_
                                    have HO146 := n2_
                                    have HO150 := n3_
                                    have HO159 := n4_
                                    have HO_6 := n5_
                                    have HO_7 := n6_
                                    have HB := n7_
                                    clear n0_ n1_ n2_ n3_ n4_ n5_ n6_ n7_
                                    have hHeld := trivial
                                    refine norm_ (a' := ?_) ?_ ?_
                                    rotate_left
                                    · simp only [putAll, Act.put, List.setIfInBounds_toArray, List.set_cons_zero, List.set_cons_succ, *]
                                      rfl
                                    refine one_ (i := 0) (N := some 54) #[true, true, false, true, true, true, false, false, false] rfl rfl (one_of HT_.out (by kernel_rfl)) (by decide) (fun K hK => ?_)
                                    refine Kd.R_lit_step (Kd.int .u8) _ 5 ?hg (N := 54) ?hd (xs := ([] : List Int)) (inner := []) (ok := fun _ => True) (okp := fun _ => True) ?hr ?hp (fun _ hk => hk) trivial (Below.refl _ _) (Nat.le_refl _) (by simp) ?_; (case hd => rfl); (case hg => rfl); (case hr => first | (go_simp; done) | (go_simp; rfl)); (case hp => exact (Reps.none _ _))
                                    intro v152 w50 ho51 hb hg_ hnew_
                                    clear hg_ hnew_
                                    (first | rw [← Ny151.out] at ho51 | (simp only [Int.reduceToNat] at ho51; rw [← Ny151.out] at ho51))
                                    have n0_ := Aside0.mk (Kd.N_elder' (by (with_reducible repeat (first | apply Kd.N_alloc | apply Kd.N_drewN | apply Kd.N_drew)); exact HO_6.out) (Kd.R_base ho51) hb)
                                    have n1_ := Aside0.mk (Kd.R_elder' (by (with_reducible repeat (first | apply Kd.R_alloc | apply Kd.R_drewN | apply Kd.R_drew)); exact HO_7.out) (Kd.R_base ho51) hb)
                                    have n2_ := Aside0.mk (Kd.N_elder' (by (with_reducible repeat (first | apply Kd.N_alloc | apply Kd.N_drewN | apply Kd.N_drew)); exact HO139.out) (Kd.R_base ho51) hb)
                                    have n3_ := Aside0.mk (Kd.N_elder' (by (with_reducible repeat (first | apply Kd.N_alloc | apply Kd.N_drewN | apply Kd.N_drew)); exact HO142.out) (Kd.R_base ho51) hb)
                                    have n4_ := Aside0.mk (JV.elder' (by (with_reducible repeat (first | apply JV.alloc | apply JV.drewN | apply JV.drew)); exact HO146.out) (Kd.R_base ho51) hb)
                                    have n5_ := Aside0.mk (JV.elder' (by (with_reducible repeat (first | apply JV.alloc | apply JV.drewN | apply JV.drew)); exact HO150.out) (Kd.R_base ho51) hb)
                                    have n6_ := Aside0.mk (Kd.R_elder' (by (with_reducible repeat (first | apply Kd.R_alloc | apply Kd.R_drewN | apply Kd.R_drew)); exact HO159.out) (Kd.R_base ho51) hb)
                                    have n7_ := Aside0.mk (Kd.R_lower (Kd.R_new' (Kd.R_new' (Kd.R_new' (Kd.R_new' ho51 (Kd.R_lt (by (with_reducible repeat (first | apply Kd.R_alloc | apply Kd.R_drewN | apply Kd.R_drew)); exact HO_7.out))) (JV.lt (by (with_reducible repeat (first | apply JV.alloc | apply JV.drewN | apply JV.drew)); exact HO146.out))) (JV.lt (by (with_reducible repeat (first | apply JV.alloc | apply JV.drewN | apply JV.drew)); exact HO150.out))) (Kd.R_lt (by (with_reducible repeat (first | apply Kd.R_alloc | apply Kd.R_drewN | apply Kd.R_drew)); exact HO159.out))) (below_size (by repeat (first | (with_reducible first | exact HB.out | apply below_alloc | apply pw_below_drewN | apply below_drew1) | exact HB.out))))
                                    have n8_ := Aside0.mk (below_step (by repeat (first | (with_reducible first | exact HB.out | apply below_alloc | apply pw_below_drewN | apply below_drew1) | exact HB.out)) hb)
                                    clear HO_6
                                    clear HO_7
                                    clear HO139
                                    clear HO142
                                    clear HO146
                                    clear HO150
                                    clear HO159
                                    clear HB
                                    have HO_6 := n0_
                                    have HO_7 := n1_
                                    have HO139 := n2_
                                    have HO142 := n3_
                                    have HO146 := n4_
                                    have HO150 := n5_
                                    have HO159 := n6_
                                    have HO153 := n7_
                                    have HB := n8_
                                    clear n0_ n1_ n2_ n3_ n4_ n5_ n6_ n7_ n8_
                                    clear hb ho51
                                    refine hK.out _ _ trivial (fun hHeld => ?_)
                                    clear hK K
                                    refine norm_ (a' := ?_) ?_ ?_
                                    rotate_left
                                    · show Act.put _ (some 54) _ = _
                                      simp only [Act.put, List.setIfInBounds_toArray, List.set_cons_zero, List.set_cons_succ, i64_w, i32_w]
                                      rfl
                                    exact norm_ (by first | (simp only [putAll, Act.put, List.setIfInBounds_toArray, List.set_cons_zero, List.set_cons_succ]; done) | (simp only [putAll, Act.put, List.setIfInBounds_toArray, List.set_cons_zero, List.set_cons_succ]; rfl)) (hJ0_4_5 (v152, v158) _ ⟨(by (with_reducible repeat (first | apply Kd.N_alloc | apply Kd.N_drewN | apply Kd.N_drew)); exact Kd.N_mono HO139.out (fun _ hk => ⟨hk.1.1, ⟨hk.1.2.1, ⟨hk.1.2.2.1, ⟨hk.2, ⟨hk.1.2.2.2.1, ⟨hk.1.2.2.2.2.1, hk.1.2.2.2.2.2⟩⟩⟩⟩⟩⟩)), (by (with_reducible repeat (first | apply Kd.N_alloc | apply Kd.N_drewN | apply Kd.N_drew)); exact Kd.N_mono HO142.out (fun _ hk => ⟨hk.1.1, ⟨hk.1.2.1, ⟨hk.2, hk.1.2.2⟩⟩⟩)), (by (with_reducible repeat (first | apply JV.alloc | apply JV.drewN | apply JV.drew)); exact JV.mono HO146.out (fun _ hk => ⟨hk.1.1, ⟨hk.2, ⟨hk.1.2.1, hk.1.2.2⟩⟩⟩)), (by (with_reducible repeat (first | apply JV.alloc | apply JV.drewN | apply JV.drew)); exact JV.mono HO150.out (fun _ hk => ⟨hk.1.1, ⟨hk.2, ⟨hk.1.2.1, hk.1.2.2⟩⟩⟩)), (by (with_reducible repeat (first | apply Kd.R_alloc | apply Kd.R_drewN | apply Kd.R_drew)); exact Kd.R_mono HO153.out (fun _ hk => ⟨hk.1.1.2, ⟨hk.1.2, ⟨hk.2, hk.1.1.1.2⟩⟩⟩)), (by (with_reducible repeat (first | apply Kd.R_alloc | apply Kd.R_drewN | apply Kd.R_drew)); exact Kd.R_mono HO159.out (fun _ hk => ⟨hk.1.1, ⟨hk.1.2.1, ⟨hk.2, hk.1.2.2⟩⟩⟩)), (by (with_reducible repeat (first | apply Kd.N_alloc | apply Kd.N_drewN | apply Kd.N_drew)); exact Kd.N_mono HO_6.out (fun _ hk => ⟨hk.1.1, ⟨hk.1.2.1, ⟨hk.1.2.2.1, ⟨hk.1.2.2.2.1, ⟨hk.2, hk.1.2.2.2.2⟩⟩⟩⟩⟩)), (by (with_reducible repeat (first | apply Kd.R_alloc | apply Kd.R_drewN | apply Kd.R_drew)); exact Kd.R_mono HO_7.out (fun _ hk => ⟨hk.1.1, ⟨hk.1.2.1, ⟨hk.2, hk.1.2.2⟩⟩⟩)), (by repeat (first | (with_reducible first | exact HB.out | apply below_alloc | apply pw_below_drewN | apply below_drew1) | exact HB.out))⟩)
                                · skip
                                  rintro ⟨v152, v158⟩ w50 ⟨h0_, h1_, h2_, h3_, h4_, h5_, h6_, h7_, h8_⟩
                                  have n0_ : Aside0 (Kd.N (Kd.slice 5 (Kd.int .u8)) 22 w50 w.heap.size (fun k_ => some k_ ≠ (.slice Ao41 y140.length co41 : Value).ownBlock ∧ some k_ ≠ (v145 : Value).ownBlock ∧ some k_ ≠ (.slice Ao44 t147.length co44 : Value).ownBlock ∧ some k_ ≠ (v152 : Value).ownBlock ∧ some k_ ≠ (v158 : Value).ownBlock ∧ some k_ ≠ (.slice Ao28 x6_1.length co28 : Value).ownBlock ∧ some k_ ≠ (v120 : Value).ownBlock) (.slice Ao40 y137.length co40) y137) := ⟨h0_⟩
                                  have n1_ : Aside0 (Kd.N (Kd.slice 5 (Kd.int .u8)) 22 w50 w.heap.size (fun k_ => some k_ ≠ (v145 : Value).ownBlock ∧ some k_ ≠ (.slice Ao44 t147.length co44 : Value).ownBlock ∧ some k_ ≠ (v152 : Value).ownBlock ∧ some k_ ≠ (v158 : Value).ownBlock) (.slice Ao41 y140.length co41) y140) := ⟨h1_⟩
                                  have n2_ : Aside0 (JV w50 w.heap.size (fun k_ => some k_ ≠ (.slice Ao44 t147.length co44 : Value).ownBlock ∧ some k_ ≠ (v152 : Value).ownBlock ∧ some k_ ≠ (v158 : Value).ownBlock ∧ some k_ ≠ (v120 : Value).ownBlock) v145 t143) := ⟨h2_⟩
                                  have n3_ : Aside0 (JV w50 w.heap.size (fun k_ => some k_ ≠ (v145 : Value).ownBlock ∧ some k_ ≠ (v152 : Value).ownBlock ∧ some k_ ≠ (v158 : Value).ownBlock ∧ some k_ ≠ (v120 : Value).ownBlock) (.slice Ao44 t147.length co44) t147) := ⟨h3_⟩
                                  have n4_ : Aside0 (Kd.R (Kd.int .u8) 5 w50 w.heap.size (fun k_ => some k_ ≠ (v145 : Value).ownBlock ∧ some k_ ≠ (.slice Ao44 t147.length co44 : Value).ownBlock ∧ some k_ ≠ (v158 : Value).ownBlock ∧ some k_ ≠ (v120 : Value).ownBlock) v152 y151) := ⟨h4_⟩
                                  have n5_ : Aside0 (Kd.R (Kd.int .u8) 5 w50 w.heap.size (fun k_ => some k_ ≠ (v145 : Value).ownBlock ∧ some k_ ≠ (.slice Ao44 t147.length co44 : Value).ownBlock ∧ some k_ ≠ (v152 : Value).ownBlock ∧ some k_ ≠ (v120 : Value).ownBlock) v158 y157) := ⟨h5_⟩
                                  have n6_ : Aside0 (Kd.N (Kd.slice 5 (Kd.int .u8)) 22 w50 w.heap.size (fun k_ => some k_ ≠ (.slice Ao40 y137.length co40 : Value).ownBlock ∧ some k_ ≠ (.slice Ao41 y140.length co41 : Value).ownBlock ∧ some k_ ≠ (v145 : Value).ownBlock ∧ some k_ ≠ (.slice Ao44 t147.length co44 : Value).ownBlock ∧ some k_ ≠ (v152 : Value).ownBlock ∧ some k_ ≠ (v158 : Value).ownBlock) (.slice Ao28 x6_1.length co28) x6_1) := ⟨h6_⟩
                                  have n7_ : Aside0 (Kd.R (Kd.int .u8) 5 w50 w.heap.size (fun k_ => some k_ ≠ (v145 : Value).ownBlock ∧ some k_ ≠ (.slice Ao44 t147.length co44 : Value).ownBlock ∧ some k_ ≠ (v152 : Value).ownBlock ∧ some k_ ≠ (v158 : Value).ownBlock) v120 y119) := ⟨h7_⟩
                                  have n8_ : Aside0 (Below w.heap.size w w50) := ⟨h8_⟩
                                  clear HO_6
                                  clear HO_7
                                  clear HO139
                                  clear HO142
                                  clear HO146
                                  clear HO150
                                  clear HB
                                  clear h0_ h1_ h2_ h3_ h4_ h5_ h6_ h7_ h8_
                                  have HO139 := n0_
                                  have HO142 := n1_
                                  have HO146 := n2_
                                  have HO150 := n3_
                                  have HO153 := n4_
                                  have HO159 := n5_
                                  have HO_6 := n6_
                                  have HO_7 := n7_
                                  have HB := n8_
                                  clear n0_ n1_ n2_ n3_ n4_ n5_ n6_ n7_ n8_
                                  have hHeld := trivial
                                  refine norm_ (a' := ?_) ?_ ?_
                                  rotate_left
                                  · simp only [putAll, Act.put, List.setIfInBounds_toArray, List.set_cons_zero, List.set_cons_succ, *]
                                    rfl
                                  refine two_ (i := 2) (j := 5) (Ni := some 56) (Nj := some 59) #[true, true, true, true, true, false, false, false, false] #[true, true, false, true, true, true, false, false, false] rfl rfl rfl rfl (two_of HT_.out (by kernel_rfl)) (by decide) (by decide) (fun K hK => ?_) (fun K hK => ?_)
                                  · skip
                                    refine Kd.R_append_rows_step (Kd.int .u8) (w0 := w) w.heap.size (by rfl) (.tmp 54) (.tmp 55) 22 5 (.int .u8 0) 1 rfl Tryd.underlying22 info5 rfl (by decide) (by omega) v152 y151 t147 _ _ _ (fun k_ => some k_ ≠ (v120 : Value).ownBlock ∧ some k_ ≠ (v145 : Value).ownBlock ∧ some k_ ≠ (.slice Ao44 t147.length co44 : Value).ownBlock ∧ some k_ ≠ (v158 : Value).ownBlock) (fun _ => False) rfl rfl ?aO ?aR (fun _ _ h => h) (fun _ h => h.elim) ?aF ?aB ?aS ?aL ?_
                                    (case aR => repeat (first | exact (JV.reads' HO150.out).2.2 | (with_reducible refine Kd.C_alloc ?_ _) | (with_reducible refine Kd.C_drewN ?_ _) | (with_reducible refine Kd.C_drew ?_)))
                                    (case aB => exact (by repeat (first | (with_reducible first | exact HB.out | apply below_alloc | apply pw_below_drewN | apply below_drew1) | exact HB.out)))
                                    (case aF => exact (fun k_ hk => ⟨Kd.fresh' (Kd.R_lt (by (with_reducible repeat (first | apply Kd.R_alloc | apply Kd.R_drewN | apply Kd.R_drew)); exact HO_7.out)) k_ hk, Kd.fresh' (JV.lt (by (with_reducible repeat (first | apply JV.alloc | apply JV.drewN | apply JV.drew)); exact HO146.out)) k_ hk, Kd.fresh' (JV.lt (by (with_reducible repeat (first | apply JV.alloc | apply JV.drewN | apply JV.drew)); exact HO150.out)) k_ hk, Kd.fresh' (Kd.R_lt (by (with_reducible repeat (first | apply Kd.R_alloc | apply Kd.R_drewN | apply Kd.R_drew)); exact HO159.out)) k_ hk⟩))
                                    (case aO => exact (by (with_reducible repeat (first | apply Kd.R_alloc | apply Kd.R_drewN | apply Kd.R_drew)); exact Kd.R_mono HO153.out (fun _ hk => ⟨hk.2.2.2, ⟨hk.1, ⟨hk.2.1, hk.2.2.1⟩⟩⟩)))
                                    (case aS => exact (below_size (by repeat (first | (with_reducible first | exact HB.out | apply below_alloc | apply pw_below_drewN | apply below_drew1) | exact HB.out))))
                                    (case aL => have := LMc23.out; omega)
                                    intro v155 w51 ho hb hg hat
                                    rw [← Ny154.out] at ho
                                    have n0_ := Aside0.mk (Kd.N_afterv (ok := (fun k_ => some k_ ≠ (.slice Ao40 y137.length co40 : Value).ownBlock ∧ some k_ ≠ (.slice Ao41 y140.length co41 : Value).ownBlock ∧ some k_ ≠ (v145 : Value).ownBlock ∧ some k_ ≠ (.slice Ao44 t147.length co44 : Value).ownBlock ∧ some k_ ≠ (v158 : Value).ownBlock)) (by (with_reducible repeat (first | apply Kd.N_alloc | apply Kd.N_drewN | apply Kd.N_drew)); exact Kd.N_mono HO_6.out (fun _ hk => ⟨⟨hk.1, ⟨hk.2.1, ⟨hk.2.2.1, ⟨hk.2.2.2.1, hk.2.2.2.2.2⟩⟩⟩⟩, hk.2.2.2.2.1⟩)) hg hat)
                                    have n1_ := Aside0.mk (Kd.R_after (ok := (fun k_ => some k_ ≠ (v145 : Value).ownBlock ∧ some k_ ≠ (.slice Ao44 t147.length co44 : Value).ownBlock ∧ some k_ ≠ (v158 : Value).ownBlock)) (by (with_reducible repeat (first | apply Kd.R_alloc | apply Kd.R_drewN | apply Kd.R_drew)); exact Kd.R_mono HO_7.out (fun _ hk => ⟨⟨hk.1, ⟨hk.2.1, hk.2.2.2⟩⟩, hk.2.2.1⟩)) hg hat)
                                    have n2_ := Aside0.mk (Kd.N_afterv (ok := (fun k_ => some k_ ≠ (.slice Ao28 x6_1.length co28 : Value).ownBlock ∧ some k_ ≠ (v120 : Value).ownBlock ∧ some k_ ≠ (.slice Ao41 y140.length co41 : Value).ownBlock ∧ some k_ ≠ (v145 : Value).ownBlock ∧ some k_ ≠ (.slice Ao44 t147.length co44 : Value).ownBlock ∧ some k_ ≠ (v158 : Value).ownBlock)) (by (with_reducible repeat (first | apply Kd.N_alloc | apply Kd.N_drewN | apply Kd.N_drew)); exact Kd.N_mono HO139.out (fun _ hk => ⟨⟨hk.2.2.2.2.2.1, ⟨hk.2.2.2.2.2.2, ⟨hk.1, ⟨hk.2.1, ⟨hk.2.2.1, hk.2.2.2.2.1⟩⟩⟩⟩⟩, hk.2.2.2.1⟩)) hg hat)
                                    have n3_ := Aside0.mk (Kd.N_afterv (ok := (fun k_ => some k_ ≠ (v145 : Value).ownBlock ∧ some k_ ≠ (.slice Ao44 t147.length co44 : Value).ownBlock ∧ some k_ ≠ (v158 : Value).ownBlock)) (by (with_reducible repeat (first | apply Kd.N_alloc | apply Kd.N_drewN | apply Kd.N_drew)); exact Kd.N_mono HO142.out (fun _ hk => ⟨⟨hk.1, ⟨hk.2.1, hk.2.2.2⟩⟩, hk.2.2.1⟩)) hg hat)
                                    have n4_ := Aside0.mk (JV.after (ok := (fun k_ => some k_ ≠ (v120 : Value).ownBlock ∧ some k_ ≠ (.slice Ao44 t147.length co44 : Value).ownBlock ∧ some k_ ≠ (v158 : Value).ownBlock)) (by (with_reducible repeat (first | apply JV.alloc | apply JV.drewN | apply JV.drew)); exact JV.mono HO146.out (fun _ hk => ⟨⟨hk.2.2.2, ⟨hk.1, hk.2.2.1⟩⟩, hk.2.1⟩)) hg hat)
                                    have n5_ := Aside0.mk (JV.after (ok := (fun k_ => some k_ ≠ (v120 : Value).ownBlock ∧ some k_ ≠ (v145 : Value).ownBlock ∧ some k_ ≠ (v158 : Value).ownBlock)) (by (with_reducible repeat (first | apply JV.alloc | apply JV.drewN | apply JV.drew)); exact JV.mono HO150.out (fun _ hk => ⟨⟨hk.2.2.2, ⟨hk.1, hk.2.2.1⟩⟩, hk.2.1⟩)) hg hat)
                                    have n6_ := Aside0.mk (Kd.R_after (ok := (fun k_ => some k_ ≠ (v120 : Value).ownBlock ∧ some k_ ≠ (v145 : Value).ownBlock ∧ some k_ ≠ (.slice Ao44 t147.length co44 : Value).ownBlock)) (by (with_reducible repeat (first | apply Kd.R_alloc | apply Kd.R_drewN | apply Kd.R_drew)); exact Kd.R_mono HO159.out (fun _ hk => ⟨⟨hk.2.2.2, ⟨hk.1, hk.2.1⟩⟩, hk.2.2.1⟩)) hg hat)
                                    have n7_ := Aside0.mk (hb)
                                    have n8_ := Aside0.mk (ho)
                                    clear HO_6
                                    clear HO_7
                                    clear HO139
                                    clear HO142
                                    clear HO146
                                    clear HO150
                                    clear HO159
                                    clear HB
                                    clear HO153
                                    have HO_6 := n0_
                                    have HO_7 := n1_
                                    have HO139 := n2_
                                    have HO142 := n3_
                                    have HO146 := n4_
                                    have HO150 := n5_
                                    have HO159 := n6_
                                    have HB := n7_
                                    have HO156 := n8_
                                    clear n0_ n1_ n2_ n3_ n4_ n5_ n6_ n7_ n8_
                                    clear ho hb hg hat
                                    refine hK.out _ _ trivial (fun hHeld => ?_)
                                    clear hK K
                                    refine norm_ (a' := ?_) ?_ ?_
                                    rotate_left
                                    · show Act.put _ (some 56) _ = _
                                      simp only [Act.put, List.setIfInBounds_toArray, List.set_cons_zero, List.set_cons_succ, i64_w, i32_w]
                                      rfl
                                    exact norm_ (by first | (simp only [putAll, Act.put, List.setIfInBounds_toArray, List.set_cons_zero, List.set_cons_succ]; done) | (simp only [putAll, Act.put, List.setIfInBounds_toArray, List.set_cons_zero, List.set_cons_succ]; rfl)) (hJ0_2_4 (v152, v155, v158) _ ⟨(by (with_reducible repeat (first | apply Kd.N_alloc | apply Kd.N_drewN | apply Kd.N_drew)); exact Kd.N_mono HO139.out (fun _ hk => ⟨hk.1.2.2.1, ⟨hk.1.2.2.2.1, ⟨hk.1.2.2.2.2.1, ⟨hk.2, ⟨hk.1.2.2.2.2.2, ⟨hk.1.1, hk.1.2.1⟩⟩⟩⟩⟩⟩)), (by (with_reducible repeat (first | apply Kd.N_alloc | apply Kd.N_drewN | apply Kd.N_drew)); exact Kd.N_mono HO142.out (fun _ hk => ⟨hk.1.1, ⟨hk.1.2.1, ⟨hk.2, hk.1.2.2⟩⟩⟩)), (by (with_reducible repeat (first | apply JV.alloc | apply JV.drewN | apply JV.drew)); exact JV.mono HO146.out (fun _ hk => ⟨hk.1.2.1, ⟨hk.2, ⟨hk.1.2.2, hk.1.1⟩⟩⟩)), (by (with_reducible repeat (first | apply JV.alloc | apply JV.drewN | apply JV.drew)); exact JV.mono HO150.out (fun _ hk => ⟨hk.1.2.1, ⟨hk.2, ⟨hk.1.2.2, hk.1.1⟩⟩⟩)), (by (with_reducible repeat (first | apply Kd.R_alloc | apply Kd.R_drewN | apply Kd.R_drew)); exact Kd.R_mono HO156.out (fun _ hk => ⟨hk.2.1, ⟨hk.2.2.1, ⟨hk.2.2.2, hk.1⟩⟩⟩)), (by (with_reducible repeat (first | apply Kd.R_alloc | apply Kd.R_drewN | apply Kd.R_drew)); exact Kd.R_mono HO159.out (fun _ hk => ⟨hk.1.2.1, ⟨hk.1.2.2, ⟨hk.2, hk.1.1⟩⟩⟩)), (by (with_reducible repeat (first | apply Kd.N_alloc | apply Kd.N_drewN | apply Kd.N_drew)); exact Kd.N_mono HO_6.out (fun _ hk => ⟨hk.1.1, ⟨hk.1.2.1, ⟨hk.1.2.2.1, ⟨hk.1.2.2.2.1, ⟨hk.2, hk.1.2.2.2.2⟩⟩⟩⟩⟩)), (by (with_reducible repeat (first | apply Kd.R_alloc | apply Kd.R_drewN | apply Kd.R_drew)); exact Kd.R_mono HO_7.out (fun _ hk => ⟨hk.1.1, ⟨hk.1.2.1, ⟨hk.2, hk.1.2.2⟩⟩⟩)), (by repeat (first | (with_reducible first | exact HB.out | apply below_alloc | apply pw_below_drewN | apply below_drew1) | exact HB.out))⟩)
                                  · skip
                                    have hcv51 := own_string (P := Tryd.prog) Tryd.underlying22 Tryd.underlying5 Tryd.underlying9 (Kd.own_of_R HO159.out); (try have hcv51d := fun n_ : Nat => own_string (P := Tryd.prog) Tryd.underlying22 Tryd.underlying5 Tryd.underlying9 (Kd.own_of_R (Kd.R_drewN HO159.out n_)))
                                    refine value_ (w1 := ?_) (v := ?_) (by rfl) rfl ?_ ?_
                                    rotate_left 2
                                    · go_simp
                                      constructor
                                      · rfl
                                      · rfl
                                    clear hcv51
                                    refine hK.out _ _ trivial (fun hHeld => ?_)
                                    clear hK K
                                    refine norm_ (a' := ?_) ?_ ?_
                                    rotate_left
                                    · show Act.put _ (some 59) _ = _
                                      simp only [Act.put, List.setIfInBounds_toArray, List.set_cons_zero, List.set_cons_succ, i64_w, i32_w]
                                      rfl
                                    exact norm_ (by first | (simp only [putAll, Act.put, List.setIfInBounds_toArray, List.set_cons_zero, List.set_cons_succ]; done) | (simp only [putAll, Act.put, List.setIfInBounds_toArray, List.set_cons_zero, List.set_cons_succ]; rfl)) (hJ0_4_5 (v152, v158) _ ⟨(by (with_reducible repeat (first | apply Kd.N_alloc | apply Kd.N_drewN | apply Kd.N_drew)); exact HO139.out), (by (with_reducible repeat (first | apply Kd.N_alloc | apply Kd.N_drewN | apply Kd.N_drew)); exact HO142.out), (by (with_reducible repeat (first | apply Kd.R_alloc | apply Kd.R_drewN | apply Kd.R_drew)); exact HO146.out), (by (with_reducible repeat (first | apply Kd.R_alloc | apply Kd.R_drewN | apply Kd.R_drew)); exact HO150.out), (by (with_reducible repeat (first | apply Kd.R_alloc | apply Kd.R_drewN | apply Kd.R_drew)); exact HO153.out), (by (with_reducible repeat (first | apply Kd.R_alloc | apply Kd.R_drewN | apply Kd.R_drew)); exact HO159.out), (by (with_reducible repeat (first | apply Kd.N_alloc | apply Kd.N_drewN | apply Kd.N_drew)); exact HO_6.out), (by (with_reducible repeat (first | apply Kd.R_alloc | apply Kd.R_drewN | apply Kd.R_drew)); exact HO_7.out), (by repeat (first | (with_reducible first | exact HB.out | apply below_alloc | apply pw_below_drewN | apply below_drew1) | exact HB.out))⟩)
                              · skip
                                rintro ⟨v152, v155⟩ w49 ⟨h0_, h1_, h2_, h3_, h4_, h5_, h6_, h7_⟩
                                have n0_ : Aside0 (Kd.N (Kd.slice 5 (Kd.int .u8)) 22 w49 w.heap.size (fun k_ => some k_ ≠ (.slice Ao41 y140.length co41 : Value).ownBlock ∧ some k_ ≠ (v145 : Value).ownBlock ∧ some k_ ≠ (.slice Ao44 t147.length co44 : Value).ownBlock ∧ some k_ ≠ (v155 : Value).ownBlock ∧ some k_ ≠ (.slice Ao28 x6_1.length co28 : Value).ownBlock ∧ some k_ ≠ (v120 : Value).ownBlock) (.slice Ao40 y137.length co40) y137) := ⟨h0_⟩
                                have n1_ : Aside0 (Kd.N (Kd.slice 5 (Kd.int .u8)) 22 w49 w.heap.size (fun k_ => some k_ ≠ (v145 : Value).ownBlock ∧ some k_ ≠ (.slice Ao44 t147.length co44 : Value).ownBlock ∧ some k_ ≠ (v155 : Value).ownBlock) (.slice Ao41 y140.length co41) y140) := ⟨h1_⟩
                                have n2_ : Aside0 (JV w49 w.heap.size (fun k_ => some k_ ≠ (.slice Ao44 t147.length co44 : Value).ownBlock ∧ some k_ ≠ (v155 : Value).ownBlock ∧ some k_ ≠ (v120 : Value).ownBlock) v145 t143) := ⟨h2_⟩
                                have n3_ : Aside0 (JV w49 w.heap.size (fun k_ => some k_ ≠ (v145 : Value).ownBlock ∧ some k_ ≠ (v155 : Value).ownBlock ∧ some k_ ≠ (v120 : Value).ownBlock) (.slice Ao44 t147.length co44) t147) := ⟨h3_⟩
                                have n4_ : Aside0 (Kd.R (Kd.int .u8) 5 w49 w.heap.size (fun k_ => some k_ ≠ (v145 : Value).ownBlock ∧ some k_ ≠ (.slice Ao44 t147.length co44 : Value).ownBlock ∧ some k_ ≠ (v120 : Value).ownBlock) v155 y154) := ⟨h4_⟩
                                have n5_ : Aside0 (Kd.N (Kd.slice 5 (Kd.int .u8)) 22 w49 w.heap.size (fun k_ => some k_ ≠ (.slice Ao40 y137.length co40 : Value).ownBlock ∧ some k_ ≠ (.slice Ao41 y140.length co41 : Value).ownBlock ∧ some k_ ≠ (v145 : Value).ownBlock ∧ some k_ ≠ (.slice Ao44 t147.length co44 : Value).ownBlock ∧ some k_ ≠ (v155 : Value).ownBlock) (.slice Ao28 x6_1.length co28) x6_1) := ⟨h5_⟩
                                have n6_ : Aside0 (Kd.R (Kd.int .u8) 5 w49 w.heap.size (fun k_ => some k_ ≠ (v145 : Value).ownBlock ∧ some k_ ≠ (.slice Ao44 t147.length co44 : Value).ownBlock ∧ some k_ ≠ (v155 : Value).ownBlock) v120 y119) := ⟨h6_⟩
                                have n7_ : Aside0 (Below w.heap.size w w49) := ⟨h7_⟩
                                clear HO_6
                                clear HO_7
                                clear HO139
                                clear HO142
                                clear HO146
                                clear HO150
                                clear HB
                                clear h0_ h1_ h2_ h3_ h4_ h5_ h6_ h7_
                                have HO139 := n0_
                                have HO142 := n1_
                                have HO146 := n2_
                                have HO150 := n3_
                                have HO156 := n4_
                                have HO_6 := n5_
                                have HO_7 := n6_
                                have HB := n7_
                                clear n0_ n1_ n2_ n3_ n4_ n5_ n6_ n7_
                                have hHeld := trivial
                                refine norm_ (a' := ?_) ?_ ?_
                                rotate_left
                                · simp only [putAll, Act.put, List.setIfInBounds_toArray, List.set_cons_zero, List.set_cons_succ, *]
                                  rfl
                                refine one_ (i := 4) (N := some 58) #[true, true, true, true, true, false, false, false, false] rfl rfl (one_of HT_.out (by kernel_rfl)) (by decide) (fun K hK => ?_)
                                refine Kd.R_make_step (Kd.int .u8) _ 5 (by rfl) (N := 58) rfl 22 _ _ rfl ji16 rfl rfl Tryd.underlying22 (.int .u8 0) 1 info5 rfl (by decide) (by omega) 0 (ok := fun _ => True) (okp := fun _ => True) rfl (fun _ hk => hk) trivial (of_decide_eq_true (by first | (with_reducible assumption) | assumption)) (Nat.le_trans (Nat.mul_le_mul_right _ (of_decide_eq_true (by first | (with_reducible assumption) | assumption) : ji16.toNat ≤ 281474976710656)) (by omega)) (Below.refl _ _) (Nat.le_refl _) ?_
                                intro v158 w50 ho51 hb hg_ hnew_
                                clear hg_ hnew_
                                (first | rw [← Ny157.out] at ho51 | (simp only [Int.reduceToNat] at ho51; rw [← Ny157.out] at ho51))
                                have n0_ := Aside0.mk (Kd.N_elder' (by (with_reducible repeat (first | apply Kd.N_alloc | apply Kd.N_drewN | apply Kd.N_drew)); exact HO_6.out) (Kd.R_base ho51) hb)
                                have n1_ := Aside0.mk (Kd.R_elder' (by (with_reducible repeat (first | apply Kd.R_alloc | apply Kd.R_drewN | apply Kd.R_drew)); exact HO_7.out) (Kd.R_base ho51) hb)
                                have n2_ := Aside0.mk (Kd.N_elder' (by (with_reducible repeat (first | apply Kd.N_alloc | apply Kd.N_drewN | apply Kd.N_drew)); exact HO139.out) (Kd.R_base ho51) hb)
                                have n3_ := Aside0.mk (Kd.N_elder' (by (with_reducible repeat (first | apply Kd.N_alloc | apply Kd.N_drewN | apply Kd.N_drew)); exact HO142.out) (Kd.R_base ho51) hb)
                                have n4_ := Aside0.mk (JV.elder' (by (with_reducible repeat (first | apply JV.alloc | apply JV.drewN | apply JV.drew)); exact HO146.out) (Kd.R_base ho51) hb)
                                have n5_ := Aside0.mk (JV.elder' (by (with_reducible repeat (first | apply JV.alloc | apply JV.drewN | apply JV.drew)); exact HO150.out) (Kd.R_base ho51) hb)
                                have n6_ := Aside0.mk (Kd.R_elder' (by (with_reducible repeat (first | apply Kd.R_alloc | apply Kd.R_drewN | apply Kd.R_drew)); exact HO156.out) (Kd.R_base ho51) hb)
                                have n7_ := Aside0.mk (Kd.R_lower (Kd.R_new' (Kd.R_new' (Kd.R_new' (Kd.R_new' ho51 (Kd.R_lt (by (with_reducible repeat (first | apply Kd.R_alloc | apply Kd.R_drewN | apply Kd.R_drew)); exact HO_7.out))) (JV.lt (by (with_reducible repeat (first | apply JV.alloc | apply JV.drewN | apply JV.drew)); exact HO146.out))) (JV.lt (by (with_reducible repeat (first | apply JV.alloc | apply JV.drewN | apply JV.drew)); exact HO150.out))) (Kd.R_lt (by (with_reducible repeat (first | apply Kd.R_alloc | apply Kd.R_drewN | apply Kd.R_drew)); exact HO156.out))) (below_size (by repeat (first | (with_reducible first | exact HB.out | apply below_alloc | apply pw_below_drewN | apply below_drew1) | exact HB.out))))
                                have n8_ := Aside0.mk (below_step (by repeat (first | (with_reducible first | exact HB.out | apply below_alloc | apply pw_below_drewN | apply below_drew1) | exact HB.out)) hb)
                                clear HO_6
                                clear HO_7
                                clear HO139
                                clear HO142
                                clear HO146
                                clear HO150
                                clear HO156
                                clear HB
                                have HO_6 := n0_
                                have HO_7 := n1_
                                have HO139 := n2_
                                have HO142 := n3_
                                have HO146 := n4_
                                have HO150 := n5_
                                have HO156 := n6_
                                have HO159 := n7_
                                have HB := n8_
                                clear n0_ n1_ n2_ n3_ n4_ n5_ n6_ n7_ n8_
                                clear hb ho51
                                refine hK.out _ _ trivial (fun hHeld => ?_)
                                clear hK K
                                refine norm_ (a' := ?_) ?_ ?_
                                rotate_left
                                · show Act.put _ (some 58) _ = _
                                  simp only [Act.put, List.setIfInBounds_toArray, List.set_cons_zero, List.set_cons_succ, i64_w, i32_w]
                                  rfl
                                exact norm_ (by first | (simp only [putAll, Act.put, List.setIfInBounds_toArray, List.set_cons_zero, List.set_cons_succ]; done) | (simp only [putAll, Act.put, List.setIfInBounds_toArray, List.set_cons_zero, List.set_cons_succ]; rfl)) (hJ0_2_4 (v152, v155, v158) _ ⟨(by (with_reducible repeat (first | apply Kd.N_alloc | apply Kd.N_drewN | apply Kd.N_drew)); exact Kd.N_mono HO139.out (fun _ hk => ⟨hk.1.1, ⟨hk.1.2.1, ⟨hk.1.2.2.1, ⟨hk.1.2.2.2.1, ⟨hk.2, ⟨hk.1.2.2.2.2.1, hk.1.2.2.2.2.2⟩⟩⟩⟩⟩⟩)), (by (with_reducible repeat (first | apply Kd.N_alloc | apply Kd.N_drewN | apply Kd.N_drew)); exact Kd.N_mono HO142.out (fun _ hk => ⟨hk.1.1, ⟨hk.1.2.1, ⟨hk.1.2.2, hk.2⟩⟩⟩)), (by (with_reducible repeat (first | apply JV.alloc | apply JV.drewN | apply JV.drew)); exact JV.mono HO146.out (fun _ hk => ⟨hk.1.1, ⟨hk.1.2.1, ⟨hk.2, hk.1.2.2⟩⟩⟩)), (by (with_reducible repeat (first | apply JV.alloc | apply JV.drewN | apply JV.drew)); exact JV.mono HO150.out (fun _ hk => ⟨hk.1.1, ⟨hk.1.2.1, ⟨hk.2, hk.1.2.2⟩⟩⟩)), (by (with_reducible repeat (first | apply Kd.R_alloc | apply Kd.R_drewN | apply Kd.R_drew)); exact Kd.R_mono HO156.out (fun _ hk => ⟨hk.1.1, ⟨hk.1.2.1, ⟨hk.2, hk.1.2.2⟩⟩⟩)), (by (with_reducible repeat (first | apply Kd.R_alloc | apply Kd.R_drewN | apply Kd.R_drew)); exact Kd.R_mono HO159.out (fun _ hk => ⟨hk.1.1.2, ⟨hk.1.2, ⟨hk.2, hk.1.1.1.2⟩⟩⟩)), (by (with_reducible repeat (first | apply Kd.N_alloc | apply Kd.N_drewN | apply Kd.N_drew)); exact Kd.N_mono HO_6.out (fun _ hk => ⟨hk.1.1, ⟨hk.1.2.1, ⟨hk.1.2.2.1, ⟨hk.1.2.2.2.1, ⟨hk.1.2.2.2.2, hk.2⟩⟩⟩⟩⟩)), (by (with_reducible repeat (first | apply Kd.R_alloc | apply Kd.R_drewN | apply Kd.R_drew)); exact Kd.R_mono HO_7.out (fun _ hk => ⟨hk.1.1, ⟨hk.1.2.1, ⟨hk.1.2.2, hk.2⟩⟩⟩)), (by repeat (first | (with_reducible first | exact HB.out | apply below_alloc | apply pw_below_drewN | apply below_drew1) | exact HB.out))⟩)
                            · skip
                              rintro ⟨v152, v158⟩ w51 ⟨h0_, h1_, h2_, h3_, h4_, h5_, h6_, h7_, h8_⟩
                              have n0_ : Aside0 (Kd.N (Kd.slice 5 (Kd.int .u8)) 22 w51 w.heap.size (fun k_ => some k_ ≠ (.slice Ao41 y140.length co41 : Value).ownBlock ∧ some k_ ≠ (v145 : Value).ownBlock ∧ some k_ ≠ (.slice Ao44 t147.length co44 : Value).ownBlock ∧ some k_ ≠ (v152 : Value).ownBlock ∧ some k_ ≠ (v158 : Value).ownBlock ∧ some k_ ≠ (.slice Ao28 x6_1.length co28 : Value).ownBlock ∧ some k_ ≠ (v120 : Value).ownBlock) (.slice Ao40 y137.length co40) y137) := ⟨h0_⟩
                              have n1_ : Aside0 (Kd.N (Kd.slice 5 (Kd.int .u8)) 22 w51 w.heap.size (fun k_ => some k_ ≠ (v145 : Value).ownBlock ∧ some k_ ≠ (.slice Ao44 t147.length co44 : Value).ownBlock ∧ some k_ ≠ (v152 : Value).ownBlock ∧ some k_ ≠ (v158 : Value).ownBlock) (.slice Ao41 y140.length co41) y140) := ⟨h1_⟩
                              have n2_ : Aside0 (JV w51 w.heap.size (fun k_ => some k_ ≠ (.slice Ao44 t147.length co44 : Value).ownBlock ∧ some k_ ≠ (v152 : Value).ownBlock ∧ some k_ ≠ (v158 : Value).ownBlock ∧ some k_ ≠ (v120 : Value).ownBlock) v145 t143) := ⟨h2_⟩
                              have n3_ : Aside0 (JV w51 w.heap.size (fun k_ => some k_ ≠ (v145 : Value).ownBlock ∧ some k_ ≠ (v152 : Value).ownBlock ∧ some k_ ≠ (v158 : Value).ownBlock ∧ some k_ ≠ (v120 : Value).ownBlock) (.slice Ao44 t147.length co44) t147) := ⟨h3_⟩
                              have n4_ : Aside0 (Kd.R (Kd.int .u8) 5 w51 w.heap.size (fun k_ => some k_ ≠ (v145 : Value).ownBlock ∧ some k_ ≠ (.slice Ao44 t147.length co44 : Value).ownBlock ∧ some k_ ≠ (v158 : Value).ownBlock ∧ some k_ ≠ (v120 : Value).ownBlock) v152 y151) := ⟨h4_⟩
                              have n5_ : Aside0 (Kd.R (Kd.int .u8) 5 w51 w.heap.size (fun k_ => some k_ ≠ (v145 : Value).ownBlock ∧ some k_ ≠ (.slice Ao44 t147.length co44 : Value).ownBlock ∧ some k_ ≠ (v152 : Value).ownBlock ∧ some k_ ≠ (v120 : Value).ownBlock) v158 y157) := ⟨h5_⟩
                              have n6_ : Aside0 (Kd.N (Kd.slice 5 (Kd.int .u8)) 22 w51 w.heap.size (fun k_ => some k_ ≠ (.slice Ao40 y137.length co40 : Value).ownBlock ∧ some k_ ≠ (.slice Ao41 y140.length co41 : Value).ownBlock ∧ some k_ ≠ (v145 : Value).ownBlock ∧ some k_ ≠ (.slice Ao44 t147.length co44 : Value).ownBlock ∧ some k_ ≠ (v152 : Value).ownBlock ∧ some k_ ≠ (v158 : Value).ownBlock) (.slice Ao28 x6_1.length co28) x6_1) := ⟨h6_⟩
                              have n7_ : Aside0 (Kd.R (Kd.int .u8) 5 w51 w.heap.size (fun k_ => some k_ ≠ (v145 : Value).ownBlock ∧ some k_ ≠ (.slice Ao44 t147.length co44 : Value).ownBlock ∧ some k_ ≠ (v152 : Value).ownBlock ∧ some k_ ≠ (v158 : Value).ownBlock) v120 y119) := ⟨h7_⟩
                              have n8_ : Aside0 (Below w.heap.size w w51) := ⟨h8_⟩
                              clear HO_6
                              clear HO_7
                              clear HO139
                              clear HO142
                              clear HO146
                              clear HO150
                              clear HB
                              clear h0_ h1_ h2_ h3_ h4_ h5_ h6_ h7_ h8_
                              have HO139 := n0_
                              have HO142 := n1_
                              have HO146 := n2_
                              have HO150 := n3_
                              have HO153 := n4_
                              have HO159 := n5_
                              have HO_6 := n6_
                              have HO_7 := n7_
                              have HB := n8_
                              clear n0_ n1_ n2_ n3_ n4_ n5_ n6_ n7_ n8_
                              have hHeld := trivial
                              refine norm_ (a' := ?_) ?_ ?_
                              rotate_left
                              · simp only [putAll, Act.put, List.setIfInBounds_toArray, List.set_cons_zero, List.set_cons_succ, *]
                                rfl
                              refine one_ (i := 2) (N := some 56) #[true, true, true, true, true, true, false, false, false] rfl rfl (one_of HT_.out (by kernel_rfl)) (by decide) (fun K hK => ?_)
                              refine Kd.R_append_rows_step (Kd.int .u8) (w0 := w) w.heap.size (by rfl) (.tmp 54) (.tmp 55) 22 5 (.int .u8 0) 1 rfl Tryd.underlying22 info5 rfl (by decide) (by omega) v152 y151 t147 _ _ _ (fun k_ => some k_ ≠ (v120 : Value).ownBlock ∧ some k_ ≠ (v145 : Value).ownBlock ∧ some k_ ≠ (.slice Ao44 t147.length co44 : Value).ownBlock ∧ some k_ ≠ (v158 : Value).ownBlock) (fun _ => False) rfl rfl ?aO ?aR (fun _ _ h => h) (fun _ h => h.elim) ?aF ?aB ?aS ?aL ?_
                              (case aR => repeat (first | exact (JV.reads' HO150.out).2.2 | (with_reducible refine Kd.C_alloc ?_ _) | (with_reducible refine Kd.C_drewN ?_ _) | (with_reducible refine Kd.C_drew ?_)))
                              (case aB => exact (by repeat (first | (with_reducible first | exact HB.out | apply below_alloc | apply pw_below_drewN | apply below_drew1) | exact HB.out)))
                              (case aF => exact (fun k_ hk => ⟨Kd.fresh' (Kd.R_lt (by (with_reducible repeat (first | apply Kd.R_alloc | apply Kd.R_drewN | apply Kd.R_drew)); exact HO_7.out)) k_ hk, Kd.fresh' (JV.lt (by (with_reducible repeat (first | apply JV.alloc | apply JV.drewN | apply JV.drew)); exact HO146.out)) k_ hk, Kd.fresh' (JV.lt (by (with_reducible repeat (first | apply JV.alloc | apply JV.drewN | apply JV.drew)); exact HO150.out)) k_ hk, Kd.fresh' (Kd.R_lt (by (with_reducible repeat (first | apply Kd.R_alloc | apply Kd.R_drewN | apply Kd.R_drew)); exact HO159.out)) k_ hk⟩))
                              (case aO => exact (by (with_reducible repeat (first | apply Kd.R_alloc | apply Kd.R_drewN | apply Kd.R_drew)); exact Kd.R_mono HO153.out (fun _ hk => ⟨hk.2.2.2, ⟨hk.1, ⟨hk.2.1, hk.2.2.1⟩⟩⟩)))
                              (case aS => exact (below_size (by repeat (first | (with_reducible first | exact HB.out | apply below_alloc | apply pw_below_drewN | apply below_drew1) | exact HB.out))))
                              (case aL => have := LMc23.out; omega)
                              intro v155 w52 ho hb hg hat
                              rw [← Ny154.out] at ho
                              have n0_ := Aside0.mk (Kd.N_afterv (ok := (fun k_ => some k_ ≠ (.slice Ao40 y137.length co40 : Value).ownBlock ∧ some k_ ≠ (.slice Ao41 y140.length co41 : Value).ownBlock ∧ some k_ ≠ (v145 : Value).ownBlock ∧ some k_ ≠ (.slice Ao44 t147.length co44 : Value).ownBlock ∧ some k_ ≠ (v158 : Value).ownBlock)) (by (with_reducible repeat (first | apply Kd.N_alloc | apply Kd.N_drewN | apply Kd.N_drew)); exact Kd.N_mono HO_6.out (fun _ hk => ⟨⟨hk.1, ⟨hk.2.1, ⟨hk.2.2.1, ⟨hk.2.2.2.1, hk.2.2.2.2.2⟩⟩⟩⟩, hk.2.2.2.2.1⟩)) hg hat)
                              have n1_ := Aside0.mk (Kd.R_after (ok := (fun k_ => some k_ ≠ (v145 : Value).ownBlock ∧ some k_ ≠ (.slice Ao44 t147.length co44 : Value).ownBlock ∧ some k_ ≠ (v158 : Value).ownBlock)) (by (with_reducible repeat (first | apply Kd.R_alloc | apply Kd.R_drewN | apply Kd.R_drew)); exact Kd.R_mono HO_7.out (fun _ hk => ⟨⟨hk.1, ⟨hk.2.1, hk.2.2.2⟩⟩, hk.2.2.1⟩)) hg hat)
                              have n2_ := Aside0.mk (Kd.N_afterv (ok := (fun k_ => some k_ ≠ (.slice Ao28 x6_1.length co28 : Value).ownBlock ∧ some k_ ≠ (v120 : Value).ownBlock ∧ some k_ ≠ (.slice Ao41 y140.length co41 : Value).ownBlock ∧ some k_ ≠ (v145 : Value).ownBlock ∧ some k_ ≠ (.slice Ao44 t147.length co44 : Value).ownBlock ∧ some k_ ≠ (v158 : Value).ownBlock)) (by (with_reducible repeat (first | apply Kd.N_alloc | apply Kd.N_drewN | apply Kd.N_drew)); exact Kd.N_mono HO139.out (fun _ hk => ⟨⟨hk.2.2.2.2.2.1, ⟨hk.2.2.2.2.2.2, ⟨hk.1, ⟨hk.2.1, ⟨hk.2.2.1, hk.2.2.2.2.1⟩⟩⟩⟩⟩, hk.2.2.2.1⟩)) hg hat)
                              have n3_ := Aside0.mk (Kd.N_afterv (ok := (fun k_ => some k_ ≠ (v145 : Value).ownBlock ∧ some k_ ≠ (.slice Ao44 t147.length co44 : Value).ownBlock ∧ some k_ ≠ (v158 : Value).ownBlock)) (by (with_reducible repeat (first | apply Kd.N_alloc | apply Kd.N_drewN | apply Kd.N_drew)); exact Kd.N_mono HO142.out (fun _ hk => ⟨⟨hk.1, ⟨hk.2.1, hk.2.2.2⟩⟩, hk.2.2.1⟩)) hg hat)
                              have n4_ := Aside0.mk (JV.after (ok := (fun k_ => some k_ ≠ (v120 : Value).ownBlock ∧ some k_ ≠ (.slice Ao44 t147.length co44 : Value).ownBlock ∧ some k_ ≠ (v158 : Value).ownBlock)) (by (with_reducible repeat (first | apply JV.alloc | apply JV.drewN | apply JV.drew)); exact JV.mono HO146.out (fun _ hk => ⟨⟨hk.2.2.2, ⟨hk.1, hk.2.2.1⟩⟩, hk.2.1⟩)) hg hat)
                              have n5_ := Aside0.mk (JV.after (ok := (fun k_ => some k_ ≠ (v120 : Value).ownBlock ∧ some k_ ≠ (v145 : Value).ownBlock ∧ some k_ ≠ (v158 : Value).ownBlock)) (by (with_reducible repeat (first | apply JV.alloc | apply JV.drewN | apply JV.drew)); exact JV.mono HO150.out (fun _ hk => ⟨⟨hk.2.2.2, ⟨hk.1, hk.2.2.1⟩⟩, hk.2.1⟩)) hg hat)
                              have n6_ := Aside0.mk (Kd.R_after (ok := (fun k_ => some k_ ≠ (v120 : Value).ownBlock ∧ some k_ ≠ (v145 : Value).ownBlock ∧ some k_ ≠ (.slice Ao44 t147.length co44 : Value).ownBlock)) (by (with_reducible repeat (first | apply Kd.R_alloc | apply Kd.R_drewN | apply Kd.R_drew)); exact Kd.R_mono HO159.out (fun _ hk => ⟨⟨hk.2.2.2, ⟨hk.1, hk.2.1⟩⟩, hk.2.2.1⟩)) hg hat)
                              have n7_ := Aside0.mk (hb)
                              have n8_ := Aside0.mk (ho)
                              clear HO_6
                              clear HO_7
                              clear HO139
                              clear HO142
                              clear HO146
                              clear HO150
                              clear HO159
                              clear HB
                              clear HO153
                              have HO_6 := n0_
                              have HO_7 := n1_
                              have HO139 := n2_
                              have HO142 := n3_
                              have HO146 := n4_
                              have HO150 := n5_
                              have HO159 := n6_
                              have HB := n7_
                              have HO156 := n8_
                              clear n0_ n1_ n2_ n3_ n4_ n5_ n6_ n7_ n8_
                              clear ho hb hg hat
                              refine hK.out _ _ trivial (fun hHeld => ?_)
                              clear hK K
                              refine norm_ (a' := ?_) ?_ ?_
                              rotate_left
                              · show Act.put _ (some 56) _ = _
                                simp only [Act.put, List.setIfInBounds_toArray, List.set_cons_zero, List.set_cons_succ, i64_w, i32_w]
                                rfl
                              exact norm_ (by first | (simp only [putAll, Act.put, List.setIfInBounds_toArray, List.set_cons_zero, List.set_cons_succ]; done) | (simp only [putAll, Act.put, List.setIfInBounds_toArray, List.set_cons_zero, List.set_cons_succ]; rfl)) (hJ0_2_4_5 (v152, v155, v158) _ ⟨(by (with_reducible repeat (first | apply Kd.N_alloc | apply Kd.N_drewN | apply Kd.N_drew)); exact Kd.N_mono HO139.out (fun _ hk => ⟨hk.1.2.2.1, ⟨hk.1.2.2.2.1, ⟨hk.1.2.2.2.2.1, ⟨hk.2, ⟨hk.1.2.2.2.2.2, ⟨hk.1.1, hk.1.2.1⟩⟩⟩⟩⟩⟩)), (by (with_reducible repeat (first | apply Kd.N_alloc | apply Kd.N_drewN | apply Kd.N_drew)); exact Kd.N_mono HO142.out (fun _ hk => ⟨hk.1.1, ⟨hk.1.2.1, ⟨hk.2, hk.1.2.2⟩⟩⟩)), (by (with_reducible repeat (first | apply JV.alloc | apply JV.drewN | apply JV.drew)); exact JV.mono HO146.out (fun _ hk => ⟨hk.1.2.1, ⟨hk.2, ⟨hk.1.2.2, hk.1.1⟩⟩⟩)), (by (with_reducible repeat (first | apply JV.alloc | apply JV.drewN | apply JV.drew)); exact JV.mono HO150.out (fun _ hk => ⟨hk.1.2.1, ⟨hk.2, ⟨hk.1.2.2, hk.1.1⟩⟩⟩)), (by (with_reducible repeat (first | apply Kd.R_alloc | apply Kd.R_drewN | apply Kd.R_drew)); exact Kd.R_mono HO156.out (fun _ hk => ⟨hk.2.1, ⟨hk.2.2.1, ⟨hk.2.2.2, hk.1⟩⟩⟩)), (by (with_reducible repeat (first | apply Kd.R_alloc | apply Kd.R_drewN | apply Kd.R_drew)); exact Kd.R_mono HO159.out (fun _ hk => ⟨hk.1.2.1, ⟨hk.1.2.2, ⟨hk.2, hk.1.1⟩⟩⟩)), (by (with_reducible repeat (first | apply Kd.N_alloc | apply Kd.N_drewN | apply Kd.N_drew)); exact Kd.N_mono HO_6.out (fun _ hk => ⟨hk.1.1, ⟨hk.1.2.1, ⟨hk.1.2.2.1, ⟨hk.1.2.2.2.1, ⟨hk.2, hk.1.2.2.2.2⟩⟩⟩⟩⟩)), (by (with_reducible repeat (first | apply Kd.R_alloc | apply Kd.R_drewN | apply Kd.R_drew)); exact Kd.R_mono HO_7.out (fun _ hk => ⟨hk.1.1, ⟨hk.1.2.1, ⟨hk.2, hk.1.2.2⟩⟩⟩)), (by repeat (first | (with_reducible first | exact HB.out | apply below_alloc | apply pw_below_drewN | apply below_drew1) | exact HB.out))⟩)
                          · skip
                            rintro ⟨v152, v155, v158⟩ w51 ⟨h0_, h1_, h2_, h3_, h4_, h5_, h6_, h7_, h8_⟩
                            have n0_ : Aside0 (Kd.N (Kd.slice 5 (Kd.int .u8)) 22 w51 w.heap.size (fun k_ => some k_ ≠ (.slice Ao41 y140.length co41 : Value).ownBlock ∧ some k_ ≠ (v145 : Value).ownBlock ∧ some k_ ≠ (.slice Ao44 t147.length co44 : Value).ownBlock ∧ some k_ ≠ (v155 : Value).ownBlock ∧ some k_ ≠ (v158 : Value).ownBlock ∧ some k_ ≠ (.slice Ao28 x6_1.length co28 : Value).ownBlock ∧ some k_ ≠ (v120 : Value).ownBlock) (.slice Ao40 y137.length co40) y137) := ⟨h0_⟩
                            have n1_ : Aside0 (Kd.N (Kd.slice 5 (Kd.int .u8)) 22 w51 w.heap.size (fun k_ => some k_ ≠ (v145 : Value).ownBlock ∧ some k_ ≠ (.slice Ao44 t147.length co44 : Value).ownBlock ∧ some k_ ≠ (v155 : Value).ownBlock ∧ some k_ ≠ (v158 : Value).ownBlock) (.slice Ao41 y140.length co41) y140) := ⟨h1_⟩
                            have n2_ : Aside0 (JV w51 w.heap.size (fun k_ => some k_ ≠ (.slice Ao44 t147.length co44 : Value).ownBlock ∧ some k_ ≠ (v155 : Value).ownBlock ∧ some k_ ≠ (v158 : Value).ownBlock ∧ some k_ ≠ (v120 : Value).ownBlock) v145 t143) := ⟨h2_⟩
                            have n3_ : Aside0 (JV w51 w.heap.size (fun k_ => some k_ ≠ (v145 : Value).ownBlock ∧ some k_ ≠ (v155 : Value).ownBlock ∧ some k_ ≠ (v158 : Value).ownBlock ∧ some k_ ≠ (v120 : Value).ownBlock) (.slice Ao44 t147.length co44) t147) := ⟨h3_⟩
                            have n4_ : Aside0 (Kd.R (Kd.int .u8) 5 w51 w.heap.size (fun k_ => some k_ ≠ (v145 : Value).ownBlock ∧ some k_ ≠ (.slice Ao44 t147.length co44 : Value).ownBlock ∧ some k_ ≠ (v158 : Value).ownBlock ∧ some k_ ≠ (v120 : Value).ownBlock) v155 y154) := ⟨h4_⟩
                            have n5_ : Aside0 (Kd.R (Kd.int .u8) 5 w51 w.heap.size (fun k_ => some k_ ≠ (v145 : Value).ownBlock ∧ some k_ ≠ (.slice Ao44 t147.length co44 : Value).ownBlock ∧ some k_ ≠ (v155 : Value).ownBlock ∧ some k_ ≠ (v120 : Value).ownBlock) v158 y157) := ⟨h5_⟩
                            have n6_ : Aside0 (Kd.N (Kd.slice 5 (Kd.int .u8)) 22 w51 w.heap.size (fun k_ => some k_ ≠ (.slice Ao40 y137.length co40 : Value).ownBlock ∧ some k_ ≠ (.slice Ao41 y140.length co41 : Value).ownBlock ∧ some k_ ≠ (v145 : Value).ownBlock ∧ some k_ ≠ (.slice Ao44 t147.length co44 : Value).ownBlock ∧ some k_ ≠ (v155 : Value).ownBlock ∧ some k_ ≠ (v158 : Value).ownBlock) (.slice Ao28 x6_1.length co28) x6_1) := ⟨h6_⟩
                            have n7_ : Aside0 (Kd.R (Kd.int .u8) 5 w51 w.heap.size (fun k_ => some k_ ≠ (v145 : Value).ownBlock ∧ some k_ ≠ (.slice Ao44 t147.length co44 : Value).ownBlock ∧ some k_ ≠ (v155 : Value).ownBlock ∧ some k_ ≠ (v158 : Value).ownBlock) v120 y119) := ⟨h7_⟩
                            have n8_ : Aside0 (Below w.heap.size w w51) := ⟨h8_⟩
                            clear HO_6
                            clear HO_7
                            clear HO139
                            clear HO142
                            clear HO146
                            clear HO150
                            clear HB
                            clear h0_ h1_ h2_ h3_ h4_ h5_ h6_ h7_ h8_
                            have HO139 := n0_
                            have HO142 := n1_
                            have HO146 := n2_
                            have HO150 := n3_
                            have HO156 := n4_
                            have HO159 := n5_
                            have HO_6 := n6_
                            have HO_7 := n7_
                            have HB := n8_
                            clear n0_ n1_ n2_ n3_ n4_ n5_ n6_ n7_ n8_
                            have hHeld := trivial
                            refine norm_ (a' := ?_) ?_ ?_
                            rotate_left
                            · simp only [putAll, Act.put, List.setIfInBounds_toArray, List.set_cons_zero, List.set_cons_succ, *]
                              rfl
                            refine one_ (i := 5) (N := some 59) #[true, true, true, true, true, true, false, false, false] rfl rfl (one_of HT_.out (by kernel_rfl)) (by decide) (fun K hK => ?_)
                            have hcv52 := own_string (P := Tryd.prog) Tryd.underlying22 Tryd.underlying5 Tryd.underlying9 (Kd.own_of_R HO159.out); (try have hcv52d := fun n_ : Nat => own_string (P := Tryd.prog) Tryd.underlying22 Tryd.underlying5 Tryd.underlying9 (Kd.own_of_R (Kd.R_drewN HO159.out n_)))
                            refine value_ (w1 := ?_) (v := ?_) (by rfl) rfl ?_ ?_
                            rotate_left 2
                            · go_simp
                              constructor
                              · rfl
                              · rfl
                            clear hcv52
                            refine hK.out _ _ trivial (fun hHeld => ?_)
                            clear hK K
                            refine norm_ (a' := ?_) ?_ ?_
                            rotate_left
                            · show Act.put _ (some 59) _ = _
                              simp only [Act.put, List.setIfInBounds_toArray, List.set_cons_zero, List.set_cons_succ, i64_w, i32_w]
                              rfl
                            exact norm_ (by first | (simp only [putAll, Act.put, List.setIfInBounds_toArray, List.set_cons_zero, List.set_cons_succ]; done) | (simp only [putAll, Act.put, List.setIfInBounds_toArray, List.set_cons_zero, List.set_cons_succ]; rfl)) (hJ0_2_4_5 (v152, v155, v158) _ ⟨(by (with_reducible repeat (first | apply Kd.N_alloc | apply Kd.N_drewN | apply Kd.N_drew)); exact HO139.out), (by (with_reducible repeat (first | apply Kd.N_alloc | apply Kd.N_drewN | apply Kd.N_drew)); exact HO142.out), (by (with_reducible repeat (first | apply Kd.R_alloc | apply Kd.R_drewN | apply Kd.R_drew)); exact HO146.out), (by (with_reducible repeat (first | apply Kd.R_alloc | apply Kd.R_drewN | apply Kd.R_drew)); exact HO150.out), (by (with_reducible repeat (first | apply Kd.R_alloc | apply Kd.R_drewN | apply Kd.R_drew)); exact HO156.out), (by (with_reducible repeat (first | apply Kd.R_alloc | apply Kd.R_drewN | apply Kd.R_drew)); exact HO159.out), (by (with_reducible repeat (first | apply Kd.N_alloc | apply Kd.N_drewN | apply Kd.N_drew)); exact HO_6.out), (by (with_reducible repeat (first | apply Kd.R_alloc | apply Kd.R_drewN | apply Kd.R_drew)); exact HO_7.out), (by repeat (first | (with_reducible first | exact HB.out | apply below_alloc | apply pw_below_drewN | apply below_drew1) | exact HB.out))⟩)
                        rintro ⟨v152, v155, v158⟩ w52 ⟨h0_, h1_, h2_, h3_, h4_, h5_, h6_, h7_, h8_⟩
                        have n0_ : Aside0 (Kd.N (Kd.slice 5 (Kd.int .u8)) 22 w52 w.heap.size (fun k_ => some k_ ≠ (.slice Ao41 y140.length co41 : Value).ownBlock ∧ some k_ ≠ (v145 : Value).ownBlock ∧ some k_ ≠ (.slice Ao44 t147.length co44 : Value).ownBlock ∧ some k_ ≠ (v155 : Value).ownBlock ∧ some k_ ≠ (v158 : Value).ownBlock ∧ some k_ ≠ (.slice Ao28 x6_1.length co28 : Value).ownBlock ∧ some k_ ≠ (v120 : Value).ownBlock) (.slice Ao40 y137.length co40) y137) := ⟨h0_⟩
                        have n1_ : Aside0 (Kd.N (Kd.slice 5 (Kd.int .u8)) 22 w52 w.heap.size (fun k_ => some k_ ≠ (v145 : Value).ownBlock ∧ some k_ ≠ (.slice Ao44 t147.length co44 : Value).ownBlock ∧ some k_ ≠ (v155 : Value).ownBlock ∧ some k_ ≠ (v158 : Value).ownBlock) (.slice Ao41 y140.length co41) y140) := ⟨h1_⟩
                        have n2_ : Aside0 (JV w52 w.heap.size (fun k_ => some k_ ≠ (.slice Ao44 t147.length co44 : Value).ownBlock ∧ some k_ ≠ (v155 : Value).ownBlock ∧ some k_ ≠ (v158 : Value).ownBlock ∧ some k_ ≠ (v120 : Value).ownBlock) v145 t143) := ⟨h2_⟩
                        have n3_ : Aside0 (JV w52 w.heap.size (fun k_ => some k_ ≠ (v145 : Value).ownBlock ∧ some k_ ≠ (v155 : Value).ownBlock ∧ some k_ ≠ (v158 : Value).ownBlock ∧ some k_ ≠ (v120 : Value).ownBlock) (.slice Ao44 t147.length co44) t147) := ⟨h3_⟩
                        have n4_ : Aside0 (Kd.R (Kd.int .u8) 5 w52 w.heap.size (fun k_ => some k_ ≠ (v145 : Value).ownBlock ∧ some k_ ≠ (.slice Ao44 t147.length co44 : Value).ownBlock ∧ some k_ ≠ (v158 : Value).ownBlock ∧ some k_ ≠ (v120 : Value).ownBlock) v155 y154) := ⟨h4_⟩
                        have n5_ : Aside0 (Kd.R (Kd.int .u8) 5 w52 w.heap.size (fun k_ => some k_ ≠ (v145 : Value).ownBlock ∧ some k_ ≠ (.slice Ao44 t147.length co44 : Value).ownBlock ∧ some k_ ≠ (v155 : Value).ownBlock ∧ some k_ ≠ (v120 : Value).ownBlock) v158 y157) := ⟨h5_⟩
                        have n6_ : Aside0 (Kd.N (Kd.slice 5 (Kd.int .u8)) 22 w52 w.heap.size (fun k_ => some k_ ≠ (.slice Ao40 y137.length co40 : Value).ownBlock ∧ some k_ ≠ (.slice Ao41 y140.length co41 : Value).ownBlock ∧ some k_ ≠ (v145 : Value).ownBlock ∧ some k_ ≠ (.slice Ao44 t147.length co44 : Value).ownBlock ∧ some k_ ≠ (v155 : Value).ownBlock ∧ some k_ ≠ (v158 : Value).ownBlock) (.slice Ao28 x6_1.length co28) x6_1) := ⟨h6_⟩
                        have n7_ : Aside0 (Kd.R (Kd.int .u8) 5 w52 w.heap.size (fun k_ => some k_ ≠ (v145 : Value).ownBlock ∧ some k_ ≠ (.slice Ao44 t147.length co44 : Value).ownBlock ∧ some k_ ≠ (v155 : Value).ownBlock ∧ some k_ ≠ (v158 : Value).ownBlock) v120 y119) := ⟨h7_⟩
                        have n8_ : Aside0 (Below w.heap.size w w52) := ⟨h8_⟩
                        clear HO_6
                        clear HO_7
                        clear HO139
                        clear HO142
                        clear HO146
                        clear HO150
                        clear HB
                        clear h0_ h1_ h2_ h3_ h4_ h5_ h6_ h7_ h8_
                        have HO139 := n0_
                        have HO142 := n1_
                        have HO146 := n2_
                        have HO150 := n3_
                        have HO156 := n4_
                        have HO159 := n5_
                        have HO_6 := n6_
                        have HO_7 := n7_
                        have HB := n8_
                        clear n0_ n1_ n2_ n3_ n4_ n5_ n6_ n7_ n8_
                        have hHeld := trivial
                        refine norm_ (a' := ?_) ?_ ?_
                        rotate_left
                        · simp only [putAll, Act.put, List.setIfInBounds_toArray, List.set_cons_zero, List.set_cons_succ, *]
                          rfl
                        refine one_ (i := 6) (N := some 60) #[true, true, true, true, true, true, true, false, false] rfl rfl (one_of HT_.out (by kernel_rfl)) (by decide) (fun K hK => ?_)
                        refine goes_ Tryd.func22 (by kernel_rfl) rfl #[.string (strOfNums y157)] (by rfl) rfl rfl (by (try simp only [List.map_toArray, List.map_cons, List.map_nil]); first | done | rfl | (simp only [List.length_drop, List.length_take]; rfl)) ?_
                        with_reducible refine (transeptref04_Frame.calls k1 (strOfNums y157) t160 _ A24.out).mono ?_
                        rintro e w53 ⟨rfl, hb⟩
                        refine ⟨_, rfl, ?_⟩
                        have n0_ := Aside0.mk (Kd.N_below (by (with_reducible repeat (first | apply Kd.N_alloc | apply Kd.N_drewN | apply Kd.N_drew)); exact HO_6.out) hb)
                        have n1_ := Aside0.mk (Kd.R_below (by (with_reducible repeat (first | apply Kd.R_alloc | apply Kd.R_drewN | apply Kd.R_drew)); exact HO_7.out) hb)
                        have n2_ := Aside0.mk (Kd.N_below (by (with_reducible repeat (first | apply Kd.N_alloc | apply Kd.N_drewN | apply Kd.N_drew)); exact HO139.out) hb)
                        have n3_ := Aside0.mk (Kd.N_below (by (with_reducible repeat (first | apply Kd.N_alloc | apply Kd.N_drewN | apply Kd.N_drew)); exact HO142.out) hb)
                        have n4_ := Aside0.mk (JV.below (by (with_reducible repeat (first | apply JV.alloc | apply JV.drewN | apply JV.drew)); exact HO146.out) hb)
                        have n5_ := Aside0.mk (JV.below (by (with_reducible repeat (first | apply JV.alloc | apply JV.drewN | apply JV.drew)); exact HO150.out) hb)
                        have n6_ := Aside0.mk (Kd.R_below (by (with_reducible repeat (first | apply Kd.R_alloc | apply Kd.R_drewN | apply Kd.R_drew)); exact HO156.out) hb)
                        have n7_ := Aside0.mk (Kd.R_below (by (with_reducible repeat (first | apply Kd.R_alloc | apply Kd.R_drewN | apply Kd.R_drew)); exact HO159.out) hb)
                        have n8_ := Aside0.mk (below_step (by repeat (first | (with_reducible first | exact HB.out | apply below_alloc | apply pw_below_drewN | apply below_drew1) | exact HB.out)) hb)
                        clear HO_6
                        clear HO_7
                        clear HO139
                        clear HO142
                        clear HO146
                        clear HO150
                        clear HO156
                        clear HO159
                        clear HB
                        have HO_6 := n0_
                        have HO_7 := n1_
                        have HO139 := n2_
                        have HO142 := n3_
                        have HO146 := n4_
                        have HO150 := n5_
                        have HO156 := n6_
                        have HO159 := n7_
                        have HB := n8_
                        clear n0_ n1_ n2_ n3_ n4_ n5_ n6_ n7_ n8_
                        (try clear hb)
                        (try clear hb2)
                        (try clear hk)
                        (try clear hi)
                        refine hK.out _ _ trivial (fun hHeld => ?_)
                        clear hK K
                        refine norm_ (a' := ?_) ?_ ?_
                        rotate_left
                        · show Act.put _ (some 60) _ = _
                          simp only [Act.put, List.setIfInBounds_toArray, List.set_cons_zero, List.set_cons_succ, i64_w, i32_w]
                          rfl
                        refine one_ (i := 7) (N := some 61) #[true, true, true, true, true, true, true, true, false] rfl rfl (one_of HT_.out (by kernel_rfl)) (by decide) (fun K hK => ?_)
                        refine print_append_str_step (w0 := w) w.heap.size (by rfl) (.tmp 56) _ 22 9 5 rfl Tryd.underlying22 Tryd.underlying9 info5 v155 y154 t160 rfl rfl ?aO ?aB ?aS ?aL ?_
                        (case aB => exact (by repeat (first | (with_reducible first | exact HB.out | apply below_alloc | apply pw_below_drewN | apply below_drew1) | exact HB.out)))
                        (case aO => exact (Kd.own_of_R (by (with_reducible repeat (first | apply Kd.R_alloc | apply Kd.R_drewN | apply Kd.R_drew)); exact Kd.R_mono HO156.out (fun _ hk => trivial))))
                        (case aS => exact (below_size (by repeat (first | (with_reducible first | exact HB.out | apply below_alloc | apply pw_below_drewN | apply below_drew1) | exact HB.out))))
                        (case aL => have := LMc25.out; omega)
                        intro v162 w54 ho0 hb hg
                        have ho := Kd.R_of_own (h1 := fun _ => rfl) (ok := fun _ => True) ho0 (fun _ _ => trivial)
                        clear ho0
                        have hat := True.intro
                        rw [← Ny161.out] at ho
                        change Kd.R (Kd.int .u8) 5 w54 w.heap.size (fun _ => True) v162 y161 at ho
                        have n0_ := Aside0.mk (hb)
                        have n1_ := Aside0.mk (ho)
                        clear HB
                        clear HO156
                        have HB := n0_
                        have HO163 := n1_
                        clear n0_ n1_
                        clear ho hb hg hat
                        refine hK.out _ _ trivial (fun hHeld => ?_)
                        clear hK K
                        refine norm_ (a' := ?_) ?_ ?_
                        rotate_left
                        · show Act.put _ (some 61) _ = _
                          simp only [Act.put, List.setIfInBounds_toArray, List.set_cons_zero, List.set_cons_succ, i64_w, i32_w]
                          rfl
                        refine pure_ (i := 8) (N := some 14) (v := ?_) (a' := ?_) #[true, true, true, true, true, true, true, true, true] rfl rfl (any_of HT_.out (by kernel_rfl)) (fun _ _ _ h => h) (Or.inl ⟨by rfl, ?_⟩) ?_ ?_
                        rotate_left
                        · intro w'
                          go_simp
                          with_reducible rfl
                        rotate_left
                        · simp only [Act.put, List.setIfInBounds_toArray, List.set_cons_zero, List.set_cons_succ, i64_w, i32_w]
                          rfl
                        refine done_ (done_of HT_.out (by kernel_rfl)) ?_
                        obtain ⟨Ao55, co55, eo55⟩ := Kd.R_slice HO163.out
                        subst eo55
                        go_upto_region 16 with (first | ((with_reducible refine gate_callee (f := 14) rfl ?_); refine goesL_ (some 64) rfl rfl Tryd.func14 (by kernel_rfl) rfl #[.slice Ao55 y161.length co55] rfl (by (try simp only [List.map_toArray, List.map_cons, List.map_nil]); first | done | rfl | (simp only [List.length_drop, List.length_take]; rfl)) ?_; (with_reducible refine (frame_Split.calls _ _ y161 t164 t165 t166 _ ?side3 ?side1 ?side2 A26.out).mono ?_); (case side1 => repeat (first | exact (Kd.R_reads' HO163.out).2.2 | (with_reducible refine Kd.C_alloc ?_ _) | (with_reducible refine Kd.C_drewN ?_ _) | (with_reducible refine Kd.C_drew ?_))); (case side2 => exact (Kd.R_reads' HO163.out).2.1); (case side3 => first | exact HG.out | exact Glob.below HG.out HB.out | exact Glob.drewN (Glob.below HG.out HB.out) _ | exact Glob.drewN HG.out _ | (refine Glob.below HG.out ?_; (repeat (first | (with_reducible first | exact HB.out | apply below_alloc | apply pw_below_drewN | apply below_drew1) | exact HB.out)); done) | (repeat (first | exact HG.out | (with_reducible refine Glob.drewN ?_ _) | (with_reducible refine Glob.drew ?_) | (with_reducible refine Glob.alloc ?_ _)); done)); rintro e w56 ⟨v167, rfl, ho0, hb⟩; refine ⟨_, rfl, ?_⟩; have n0_ := Aside0.mk (Kd.R_below (by (with_reducible repeat (first | apply Kd.R_alloc | apply Kd.R_drewN | apply Kd.R_drew)); exact HO163.out) hb); have n1_ := Aside0.mk (Kd.N_lower (Kd.N_mono (ok' := fun k_ => some k_ ≠ (.slice Ao55 y161.length co55 : Value).ownBlock) (Kd.S_N (Kd.S_bound ho0)) (fun k_ hk_ => (Kd.fresh' (Kd.R_lt (by (with_reducible repeat (first | apply Kd.R_alloc | apply Kd.R_drewN | apply Kd.R_drew)); exact HO163.out)) k_ hk_.2.1))) (below_size (by repeat (first | (with_reducible first | exact HB.out | apply below_alloc | apply pw_below_drewN | apply below_drew1) | exact HB.out)))); have n2_ := Aside0.mk (below_step (by repeat (first | (with_reducible first | exact HB.out | apply below_alloc | apply pw_below_drewN | apply below_drew1) | exact HB.out)) hb); clear HO163; clear HB; have HO163 := n0_; have HO168 := n1_; have HB := n2_; clear n0_ n1_ n2_; (try clear hb); (try clear hb2); (try clear hk); (try clear hi); (try clear ho0)))
                        (try simp only [Act.put, List.setIfInBounds_toArray, List.set_cons_zero, List.set_cons_succ])
                        go_cut [82] (fun v82 wc => ∃ (kq : Nat) (x82_26 : Bool), v82 = .bool x82_26 ∧ Aside0 (transeptlaw04_FrameLong.j1 kq ji16 a1 t118 8202 t144 y161 t164 t165 t166 x82_26 = some r) ∧ Aside0 (kq ≤ k1) ∧ Aside0 (Kd.R (Kd.int .u8) 5 wc w.heap.size (fun _ => True) (.slice Ao55 y161.length co55) y161) ∧ Aside0 (Kd.N (Kd.slice 5 (Kd.int .u8)) 22 wc w.heap.size (fun k_ => some k_ ≠ ((.slice Ao55 y161.length co55) : Value).ownBlock) v167 t164) ∧ Aside0 (Below w.heap.size w wc))
                        case first =>
                          have H := HC27.out
                          clear HC27
                          by_cases c57 : ((t144 == 0) != (decide ((ji16) ≤ 8202))) = true
                          · rw [if_pos c57] at H
                            have c57b0 : ((t144 == 0) != (decide ((ji16) ≤ 8202))) = true := c57
                            (try (have c57b1 : decide ((t144 == 0) = (decide ((ji16) ≤ 8202))) = false := by simpa using c57))
                            (try (have c57b2 : ((t144 == 0) == (decide ((ji16) ≤ 8202))) = false := by simpa using c57))
                            (try (have c57b3 : ¬ ((t144 == 0) = (decide ((ji16) ≤ 8202))) := by simpa using c57))
                            clear c57
                            (first | rw [c57b0] | (simp only [i64_w, i32_w]; rw [c57b0]) | skip)
                            have H' := Aside0.mk H
                            clear H
                            go_wp2
                            go_meet
                            case rel => exact ⟨_, (true), (by first | rfl | (simp; done) | (simp [*]; done)), H', ⟨by have := HK1.out; first | omega | exact Nat.le_refl _⟩, ⟨by (with_reducible repeat (first | apply Kd.R_alloc | apply Kd.R_drewN | apply Kd.R_drew)); exact HO163.out⟩, ⟨by (with_reducible repeat (first | apply Kd.N_alloc | apply Kd.N_drewN | apply Kd.N_drew)); exact HO168.out⟩, ⟨by repeat (first | (with_reducible first | exact HB.out | apply below_alloc | apply pw_below_drewN | apply below_drew1) | exact HB.out)⟩⟩
                          · rw [if_neg c57] at H
                            have c57b0 : ((t144 == 0) != (decide ((ji16) ≤ 8202))) = false := by simpa using c57
                            (try (have c57b1 : decide ((t144 == 0) = (decide ((ji16) ≤ 8202))) = true := by simpa using c57))
                            (try (have c57b2 : ((t144 == 0) == (decide ((ji16) ≤ 8202))) = true := by simpa using c57))
                            clear c57
                            (first | rw [c57b0] | (simp only [i64_w, i32_w]; rw [c57b0]) | skip)
                            have H' := Aside0.mk H
                            clear H
                            go_wp2
                            go_meet
                            case rel => exact ⟨_, (((y161.length : Int) != (wrap64 ((1048576 - 8202) + (ji16))))), (by first | rfl | (simp; done) | (simp only [← hji16] <;> (first | rfl | simp)) | (simp [*]; done)), H', ⟨by have := HK1.out; first | omega | exact Nat.le_refl _⟩, ⟨by (with_reducible repeat (first | apply Kd.R_alloc | apply Kd.R_drewN | apply Kd.R_drew)); exact HO163.out⟩, ⟨by (with_reducible repeat (first | apply Kd.N_alloc | apply Kd.N_drewN | apply Kd.N_drew)); exact HO168.out⟩, ⟨by repeat (first | (with_reducible first | exact HB.out | apply below_alloc | apply pw_below_drewN | apply below_drew1) | exact HB.out)⟩⟩
                        case rest =>
                          clear HC27
                          try clear c1
                          try clear c2
                          try clear p2
                          try clear c5
                          try clear hcv5
                          try clear p6
                          try clear c14
                          try clear c22
                          try clear c23
                          try clear c25
                          try clear hcv51
                          try clear hcv52
                          try clear c57
                          try clear c57b0
                          try clear c57b1
                          try clear c57b2
                          obtain ⟨kq, x82_26, rfl, HA, HJ26, HO_14, HO_15, HB⟩ := hcut
                          cases kq with
                          | zero => exact absurd HA.out (by simp [transeptlaw04_FrameLong.j1])
                          | succ kj26 =>
                            have H := HA.out
                            clear HA
                            simp only [transeptlaw04_FrameLong.j1] at H
                            by_cases c58 : x82_26 = true
                            · subst c58
                              have H1 : (some false) = some r := by rw [if_pos rfl] at H; exact H
                              clear H
                              have H := H1
                              clear H1
                              exact absurd HT.out (by rw [← Option.some.inj H]; decide)
                            · replace c58 := Bool.eq_false_iff.mpr c58
                              subst c58
                              have H1 : (if ji16 ≤ 8202 then (if t166 = 0 then (if t165 = (y161.length : Int) then (if (t164.length : Int) = 53 then (if 0 ≤ (Go.bits .and .i64 a1 3) then (if (Go.bits .and .i64 a1 3) < (y161.length : Int) then ((frame_Split.f (y161.set ((Go.bits .and .i64 a1 3) : Int).toNat (((rd y161 (Go.bits .and .i64 a1 3)) + 1) % 256))).bind fun bt171 => (if t118 = true then (if bt171.2.1 = (Go.bits .and .i64 a1 3) then (some (bt171.2.2 == 3)) else (some false)) else (some false))) else (none)) else (none)) else (some false)) else (some false)) else (some false)) else (if t144 = 5 then (if t166 = 5 then (if t165 = 1048576 then (if (t164.length : Int) = 52 then (if 0 ≤ (Go.bits .and .i64 a1 3) then (if (Go.bits .and .i64 a1 3) < (y161.length : Int) then ((frame_Split.f (y161.set ((Go.bits .and .i64 a1 3) : Int).toNat (((rd y161 (Go.bits .and .i64 a1 3)) + 1) % 256))).bind fun bt178 => (if t118 = true then (if bt178.2.1 = (Go.bits .and .i64 a1 3) then (some (bt178.2.2 == 3)) else (some false)) else (some false))) else (none)) else (none)) else (some false)) else (some false)) else (some false)) else (some false))) = some r := by rw [if_neg (show ¬ (false = true) by decide)] at H; exact H
                              clear H
                              have H := H1
                              clear H1
                              by_cases c59 : ji16 ≤ 8202
                              · rw [if_pos c59] at H
                                have c59b0 : decide (ji16 ≤ 8202) = true := decide_eq_true c59
                                clear c59
                                by_cases c60 : t166 = 0
                                · rw [if_pos c60] at H
                                  have c60b0 : (t166 == 0) = true := beq_iff_eq.mpr c60
                                  have c60b1 : (t166 != 0) = false := bne_eq_false_iff_eq.mpr c60
                                  clear c60
                                  by_cases c61 : t165 = (y161.length : Int)
                                  · rw [if_pos c61] at H
                                    have c61b0 : (t165 == (y161.length : Int)) = true := beq_iff_eq.mpr c61
                                    have c61b1 : (t165 != (y161.length : Int)) = false := bne_eq_false_iff_eq.mpr c61
                                    clear c61
                                    by_cases c62 : (t164.length : Int) = 53
                                    · rw [if_pos c62] at H
                                      have c62b0 : ((t164.length : Int) == 53) = true := beq_iff_eq.mpr c62
                                      have c62b1 : ((t164.length : Int) != 53) = false := bne_eq_false_iff_eq.mpr c62
                                      clear c62
                                      by_cases c63 : 0 ≤ (Go.bits .and .i64 a1 3)
                                      · rw [if_pos c63] at H
                                        have c63b0 : decide (0 ≤ (Go.bits .and .i64 a1 3)) = true := decide_eq_true c63
                                        clear c63
                                        by_cases c64 : (Go.bits .and .i64 a1 3) < (y161.length : Int)
                                        · rw [if_pos c64] at H
                                          have c64b0 : decide ((Go.bits .and .i64 a1 3) < (y161.length : Int)) = true := decide_eq_true c64
                                          clear c64
                                          obtain ⟨y170, hy170⟩ : ∃ y_ : List Int, y_ = (y161.set ((Go.bits .and .i64 a1 3) : Int).toNat (((rd y161 (Go.bits .and .i64 a1 3)) + 1) % 256)) := ⟨_, rfl⟩
                                          replace H : ((frame_Split.f y170).bind fun bt171 => (if t118 = true then (if bt171.2.1 = (Go.bits .and .i64 a1 3) then (some (bt171.2.2 == 3)) else (some false)) else (some false))) = some r := by first | (rw [hy170]; with_reducible exact H) | (have H2_ := (Option.bind_some _ _).symm.trans H; rw [hy170]; with_reducible exact H2_) | (have H2_ := (Option.bind_some _ _).symm.trans H; with_reducible exact H2_) | with_reducible exact H | (rw [hy170]; exact H) | exact H
                                          have Ny170 := Aside0.mk hy170
                                          clear hy170
                                          replace H := Option.bind_eq_some_iff.mp H
                                          obtain ⟨⟨t171, t172, t173⟩, A660, H⟩ := H
                                          replace H : (if t118 = true then (if t172 = (Go.bits .and .i64 a1 3) then (some (t173 == 3)) else (some false)) else (some false)) = some r := H
                                          have A66 := Aside0.mk A660
                                          clear A660
                                          by_cases c67 : t118 = true
                                          · subst c67
                                            have H1 : (if t172 = (Go.bits .and .i64 a1 3) then (some (t173 == 3)) else (some false)) = some r := by rw [if_pos rfl] at H; exact H
                                            clear H
                                            have H := H1
                                            clear H1
                                            by_cases c68 : t172 = (Go.bits .and .i64 a1 3)
                                            · rw [if_pos c68] at H
                                              have c68b0 : (t172 == (Go.bits .and .i64 a1 3)) = true := beq_iff_eq.mpr c68
                                              have c68b1 : (t172 != (Go.bits .and .i64 a1 3)) = false := bne_eq_false_iff_eq.mpr c68
                                              clear c68
                                              obtain rfl := Option.some.inj H
                                              obtain ⟨Ao69, co69, eo69⟩ := Kd.N_slice HO_15.out
                                              subst eo69
                                              have p169 : 0 ≤ ((Go.bits .and .i64 a1 3) : Int) := of_decide_eq_true (by first | (with_reducible assumption) | assumption)
                                              have q169 : (Go.bits .and .i64 a1 3) < (y161.length : Int) := of_decide_eq_true (by first | (with_reducible assumption) | assumption)
                                              obtain ⟨ad169, e169, hx169_0⟩ := Kd.at_int (Kd.R_reads' HO_14.out).2.2 (Go.bits .and .i64 a1 3) p169 q169
                                              cases e169
                                              replace p169 := eq_true p169
                                              replace q169 := eq_true q169
                                              try have q169m := eq_true (by have z_ := of_eq_true q169; simp only [ByteArray.size_extract, Nat.sub_zero] at z_; exact z_)
                                              have p65 : 0 ≤ ((Go.bits .and .i64 a1 3) : Int) := of_decide_eq_true (by first | (with_reducible assumption) | assumption)
                                              have q65 : ((Go.bits .and .i64 a1 3) : Int) < ((y161.length : Int) : Int) := of_decide_eq_true (by first | (with_reducible assumption) | assumption)
                                              obtain ⟨go65, co65, eo65, gb65, gl65, cl65, HG65⟩ := Kd.R_form HO_14.out (by omega)
                                              (first | cases eo65 | (injection eo65 with ea_ en_ ec_; (first | subst ea_ | (injection ea_ with ea_; subst ea_)); subst ec_; clear en_))
                                              have GB65 := Aside0.mk gb65
                                              have GG65 := Aside0.mk HG65
                                              clear gb65 gl65 HG65
                                              (first | simp only [add_plain] at hx169_0 | skip)
                                              obtain ⟨hx65_0, hf65_0⟩ := Kd.R_celln 0 HO_14.out ((Go.bits .and .i64 a1 3) : Int) p65 q65
                                              replace p65 := eq_true p65
                                              replace q65 := eq_true q65
                                              try have q65m := eq_true (by have z_ := of_eq_true q65; simp only [ByteArray.size_extract, Nat.sub_zero] at z_; exact z_)
                                              have HP70 := Kd.R_putg HO_14.out ((Go.bits .and .i64 a1 3) : Int) (((rd y161 (Go.bits .and .i64 a1 3)) + 1) % 256)
                                              go_wp2_with (first | ((with_reducible refine gate_store (t := 5) (p := 123) rfl ?_); refine store_event (t := 5) (p := 123) (v := ?vo_w71) (w1 := (wc.setCell ⟨go65, ((Go.bits .and .i64 a1 3) : Int).toNat, none⟩ (.int .u8 (((rd y161 (Go.bits .and .i64 a1 3)) + 1) % 256)))) ?hg ?ho ?hn ?hr ?_; (case ho => rfl); (case hg => rfl); (case hn => rfl); (case hr => first | (go_simp; done) | (go_simp; rfl)); intro w71 hw; have hg : wc.grownBy w71 (some go65) := (by rw [hw]; exact HP70.2); have hp_ : Kd.R (Kd.int .u8) 5 w71 w.heap.size (fun _ => True) (.slice (some ⟨go65, 0, none⟩) y161.length co55) y170 := (by rw [hw, Ny170.out]; exact HP70.1); clear HP70; have n0_ := Aside0.mk (hp_); have n1_ := Aside0.mk (Kd.N_afterv (v := (.slice (some ⟨go65, 0, none⟩) y161.length co55)) (v1 := (.slice (some ⟨go65, 0, none⟩) y161.length co55)) (ok := (fun _ => True)) (by (with_reducible repeat (first | apply Kd.N_alloc | apply Kd.N_drewN | apply Kd.N_drew)); exact Kd.N_mono HO_15.out (fun _ hk => ⟨trivial, hk⟩)) hg (.inl rfl)); have n2_ := Aside0.mk ((by rw [hw]; exact below_set (HB.out) GB65.out : Below w.heap.size w w71)); clear HO_14; clear HO_15; clear HB; have HO_14 := n0_; have HO_15 := n1_; have HB := n2_; clear n0_ n1_ n2_; clear hg hw hp_))
                                              rw [show y161.length = y170.length from (Kd.R_reads' HO_14.out).1]
                                              refine (frame_Split.calls _ _ y170 t171 t172 t173 _ ?side3 ?side1 ?side2 A66.out).mono ?_; (case side1 => repeat (first | exact (Kd.R_reads' HO_14.out).2.2 | (with_reducible refine Kd.C_alloc ?_ _) | (with_reducible refine Kd.C_drewN ?_ _) | (with_reducible refine Kd.C_drew ?_))); (case side2 => rw [show y170.length = y161.length from (Kd.R_reads' HO_14.out).1.symm]; exact (Kd.R_reads' HO_14.out).2.1); (case side3 => first | exact HG.out | exact Glob.below HG.out HB.out | exact Glob.drewN (Glob.below HG.out HB.out) _ | exact Glob.drewN HG.out _ | (refine Glob.below HG.out ?_; (repeat (first | (with_reducible first | exact HB.out | apply below_alloc | apply pw_below_drewN | apply below_drew1) | exact HB.out)); done) | (repeat (first | exact HG.out | (with_reducible refine Glob.drewN ?_ _) | (with_reducible refine Glob.drew ?_) | (with_reducible refine Glob.alloc ?_ _)); done)); rintro e w72 ⟨v174, rfl, ho0, hb⟩; have n3_ := Aside0.mk (below_step (by repeat (first | (with_reducible first | exact HB.out | apply below_alloc | apply pw_below_drewN | apply below_drew1) | exact HB.out)) hb); clear HB; have HB := n3_; clear n3_ HO_14 HO_15 ho0 hb
                                              go_wp2_with (fail)
                                              go_ret
                                              exact ⟨by first | rfl | (simp [errW_none, errW_some] <;> rfl) | (simp only [← hji16]; first | rfl | (simp [errW_none, errW_some] <;> rfl)) | (simp [*, errW_none, errW_some] <;> rfl), by repeat (first | (with_reducible first | exact HB.out | apply below_alloc | apply pw_below_drewN | apply below_drew1) | exact HB.out)⟩
                                            · rw [if_neg c68] at H
                                              have c68b0 : (t172 == (Go.bits .and .i64 a1 3)) = false := beq_eq_false_iff_ne.mpr c68
                                              have c68b1 : (t172 != (Go.bits .and .i64 a1 3)) = true := bne_iff_ne.mpr c68
                                              exact absurd HT.out (by rw [← Option.some.inj H]; decide)
                                          · replace c67 := Bool.eq_false_iff.mpr c67
                                            subst c67
                                            have H1 : (some false) = some r := by rw [if_neg (show ¬ (false = true) by decide)] at H; exact H
                                            clear H
                                            have H := H1
                                            clear H1
                                            exact absurd HT.out (by rw [← Option.some.inj H]; decide)
                                        · rw [if_neg c64] at H
                                          exact absurd H (by simp)
                                      · rw [if_neg c63] at H
                                        exact absurd H (by simp)
                                    · rw [if_neg c62] at H
                                      have c62b0 : ((t164.length : Int) == 53) = false := beq_eq_false_iff_ne.mpr c62
                                      have c62b1 : ((t164.length : Int) != 53) = true := bne_iff_ne.mpr c62
                                      exact absurd HT.out (by rw [← Option.some.inj H]; decide)
                                  · rw [if_neg c61] at H
                                    have c61b0 : (t165 == (y161.length : Int)) = false := beq_eq_false_iff_ne.mpr c61
                                    have c61b1 : (t165 != (y161.length : Int)) = true := bne_iff_ne.mpr c61
                                    exact absurd HT.out (by rw [← Option.some.inj H]; decide)
                                · rw [if_neg c60] at H
                                  have c60b0 : (t166 == 0) = false := beq_eq_false_iff_ne.mpr c60
                                  have c60b1 : (t166 != 0) = true := bne_iff_ne.mpr c60
                                  exact absurd HT.out (by rw [← Option.some.inj H]; decide)
                              · rw [if_neg c59] at H
                                have c59b0 : decide (ji16 ≤ 8202) = false := decide_eq_false c59
                                clear c59
                                by_cases c73 : t144 = 5
                                · rw [if_pos c73] at H
                                  have c73b0 : (t144 == 5) = true := beq_iff_eq.mpr c73
                                  have c73b1 : (t144 != 5) = false := bne_eq_false_iff_eq.mpr c73
                                  clear c73
                                  by_cases c74 : t166 = 5
                                  · rw [if_pos c74] at H
                                    have c74b0 : (t166 == 5) = true := beq_iff_eq.mpr c74
                                    have c74b1 : (t166 != 5) = false := bne_eq_false_iff_eq.mpr c74
                                    clear c74
                                    by_cases c75 : t165 = 1048576
                                    · rw [if_pos c75] at H
                                      have c75b0 : (t165 == 1048576) = true := beq_iff_eq.mpr c75
                                      have c75b1 : (t165 != 1048576) = false := bne_eq_false_iff_eq.mpr c75
                                      clear c75
                                      by_cases c76 : (t164.length : Int) = 52
                                      · rw [if_pos c76] at H
                                        have c76b0 : ((t164.length : Int) == 52) = true := beq_iff_eq.mpr c76
                                        have c76b1 : ((t164.length : Int) != 52) = false := bne_eq_false_iff_eq.mpr c76
                                        clear c76
                                        by_cases c77 : 0 ≤ (Go.bits .and .i64 a1 3)
                                        · rw [if_pos c77] at H
                                          have c77b0 : decide (0 ≤ (Go.bits .and .i64 a1 3)) = true := decide_eq_true c77
                                          clear c77
                                          by_cases c78 : (Go.bits .and .i64 a1 3) < (y161.length : Int)
                                          · rw [if_pos c78] at H
                                            have c78b0 : decide ((Go.bits .and .i64 a1 3) < (y161.length : Int)) = true := decide_eq_true c78
                                            clear c78
                                            obtain ⟨y177, hy177⟩ : ∃ y_ : List Int, y_ = (y161.set ((Go.bits .and .i64 a1 3) : Int).toNat (((rd y161 (Go.bits .and .i64 a1 3)) + 1) % 256)) := ⟨_, rfl⟩
                                            replace H : ((frame_Split.f y177).bind fun bt178 => (if t118 = true then (if bt178.2.1 = (Go.bits .and .i64 a1 3) then (some (bt178.2.2 == 3)) else (some false)) else (some false))) = some r := by first | (rw [hy177]; with_reducible exact H) | (have H2_ := (Option.bind_some _ _).symm.trans H; rw [hy177]; with_reducible exact H2_) | (have H2_ := (Option.bind_some _ _).symm.trans H; with_reducible exact H2_) | with_reducible exact H | (rw [hy177]; exact H) | exact H
                                            have Ny177 := Aside0.mk hy177
                                            clear hy177
                                            replace H := Option.bind_eq_some_iff.mp H
                                            obtain ⟨⟨t178, t179, t180⟩, A800, H⟩ := H
                                            replace H : (if t118 = true then (if t179 = (Go.bits .and .i64 a1 3) then (some (t180 == 3)) else (some false)) else (some false)) = some r := H
                                            have A80 := Aside0.mk A800
                                            clear A800
                                            by_cases c81 : t118 = true
                                            · subst c81
                                              have H1 : (if t179 = (Go.bits .and .i64 a1 3) then (some (t180 == 3)) else (some false)) = some r := by rw [if_pos rfl] at H; exact H
                                              clear H
                                              have H := H1
                                              clear H1
                                              by_cases c82 : t179 = (Go.bits .and .i64 a1 3)
                                              · rw [if_pos c82] at H
                                                have c82b0 : (t179 == (Go.bits .and .i64 a1 3)) = true := beq_iff_eq.mpr c82
                                                have c82b1 : (t179 != (Go.bits .and .i64 a1 3)) = false := bne_eq_false_iff_eq.mpr c82
                                                clear c82
                                                obtain rfl := Option.some.inj H
                                                obtain ⟨Ao83, co83, eo83⟩ := Kd.N_slice HO_15.out
                                                subst eo83
                                                have p176 : 0 ≤ ((Go.bits .and .i64 a1 3) : Int) := of_decide_eq_true (by first | (with_reducible assumption) | assumption)
                                                have q176 : (Go.bits .and .i64 a1 3) < (y161.length : Int) := of_decide_eq_true (by first | (with_reducible assumption) | assumption)
                                                obtain ⟨ad176, e176, hx176_0⟩ := Kd.at_int (Kd.R_reads' HO_14.out).2.2 (Go.bits .and .i64 a1 3) p176 q176
                                                cases e176
                                                replace p176 := eq_true p176
                                                replace q176 := eq_true q176
                                                try have q176m := eq_true (by have z_ := of_eq_true q176; simp only [ByteArray.size_extract, Nat.sub_zero] at z_; exact z_)
                                                have p79 : 0 ≤ ((Go.bits .and .i64 a1 3) : Int) := of_decide_eq_true (by first | (with_reducible assumption) | assumption)
                                                have q79 : ((Go.bits .and .i64 a1 3) : Int) < ((y161.length : Int) : Int) := of_decide_eq_true (by first | (with_reducible assumption) | assumption)
                                                obtain ⟨go79, co79, eo79, gb79, gl79, cl79, HG79⟩ := Kd.R_form HO_14.out (by omega)
                                                (first | cases eo79 | (injection eo79 with ea_ en_ ec_; (first | subst ea_ | (injection ea_ with ea_; subst ea_)); subst ec_; clear en_))
                                                have GB79 := Aside0.mk gb79
                                                have GG79 := Aside0.mk HG79
                                                clear gb79 gl79 HG79
                                                (first | simp only [add_plain] at hx176_0 | skip)
                                                obtain ⟨hx79_0, hf79_0⟩ := Kd.R_celln 0 HO_14.out ((Go.bits .and .i64 a1 3) : Int) p79 q79
                                                replace p79 := eq_true p79
                                                replace q79 := eq_true q79
                                                try have q79m := eq_true (by have z_ := of_eq_true q79; simp only [ByteArray.size_extract, Nat.sub_zero] at z_; exact z_)
                                                have HP84 := Kd.R_putg HO_14.out ((Go.bits .and .i64 a1 3) : Int) (((rd y161 (Go.bits .and .i64 a1 3)) + 1) % 256)
                                                go_wp2_with (first | ((with_reducible refine gate_store (t := 5) (p := 123) rfl ?_); refine store_event (t := 5) (p := 123) (v := ?vo_w85) (w1 := (wc.setCell ⟨go79, ((Go.bits .and .i64 a1 3) : Int).toNat, none⟩ (.int .u8 (((rd y161 (Go.bits .and .i64 a1 3)) + 1) % 256)))) ?hg ?ho ?hn ?hr ?_; (case ho => rfl); (case hg => rfl); (case hn => rfl); (case hr => first | (go_simp; done) | (go_simp; rfl)); intro w85 hw; have hg : wc.grownBy w85 (some go79) := (by rw [hw]; exact HP84.2); have hp_ : Kd.R (Kd.int .u8) 5 w85 w.heap.size (fun _ => True) (.slice (some ⟨go79, 0, none⟩) y161.length co55) y177 := (by rw [hw, Ny177.out]; exact HP84.1); clear HP84; have n0_ := Aside0.mk (hp_); have n1_ := Aside0.mk (Kd.N_afterv (v := (.slice (some ⟨go79, 0, none⟩) y161.length co55)) (v1 := (.slice (some ⟨go79, 0, none⟩) y161.length co55)) (ok := (fun _ => True)) (by (with_reducible repeat (first | apply Kd.N_alloc | apply Kd.N_drewN | apply Kd.N_drew)); exact Kd.N_mono HO_15.out (fun _ hk => ⟨trivial, hk⟩)) hg (.inl rfl)); have n2_ := Aside0.mk ((by rw [hw]; exact below_set (HB.out) GB79.out : Below w.heap.size w w85)); clear HO_14; clear HO_15; clear HB; have HO_14 := n0_; have HO_15 := n1_; have HB := n2_; clear n0_ n1_ n2_; clear hg hw hp_))
                                                rw [show y161.length = y177.length from (Kd.R_reads' HO_14.out).1]
                                                refine (frame_Split.calls _ _ y177 t178 t179 t180 _ ?side3 ?side1 ?side2 A80.out).mono ?_; (case side1 => repeat (first | exact (Kd.R_reads' HO_14.out).2.2 | (with_reducible refine Kd.C_alloc ?_ _) | (with_reducible refine Kd.C_drewN ?_ _) | (with_reducible refine Kd.C_drew ?_))); (case side2 => rw [show y177.length = y161.length from (Kd.R_reads' HO_14.out).1.symm]; exact (Kd.R_reads' HO_14.out).2.1); (case side3 => first | exact HG.out | exact Glob.below HG.out HB.out | exact Glob.drewN (Glob.below HG.out HB.out) _ | exact Glob.drewN HG.out _ | (refine Glob.below HG.out ?_; (repeat (first | (with_reducible first | exact HB.out | apply below_alloc | apply pw_below_drewN | apply below_drew1) | exact HB.out)); done) | (repeat (first | exact HG.out | (with_reducible refine Glob.drewN ?_ _) | (with_reducible refine Glob.drew ?_) | (with_reducible refine Glob.alloc ?_ _)); done)); rintro e w86 ⟨v181, rfl, ho0, hb⟩; have n3_ := Aside0.mk (below_step (by repeat (first | (with_reducible first | exact HB.out | apply below_alloc | apply pw_below_drewN | apply below_drew1) | exact HB.out)) hb); clear HB; have HB := n3_; clear n3_ HO_14 HO_15 ho0 hb
                                                go_wp2_with (fail)
                                                go_ret
                                                exact ⟨by first | rfl | (simp [errW_none, errW_some] <;> rfl) | (simp only [← hji16]; first | rfl | (simp [errW_none, errW_some] <;> rfl)) | (simp [*, errW_none, errW_some] <;> rfl), by repeat (first | (with_reducible first | exact HB.out | apply below_alloc | apply pw_below_drewN | apply below_drew1) | exact HB.out)⟩
                                              · rw [if_neg c82] at H
                                                have c82b0 : (t179 == (Go.bits .and .i64 a1 3)) = false := beq_eq_false_iff_ne.mpr c82
                                                have c82b1 : (t179 != (Go.bits .and .i64 a1 3)) = true := bne_iff_ne.mpr c82
                                                exact absurd HT.out (by rw [← Option.some.inj H]; decide)
                                            · replace c81 := Bool.eq_false_iff.mpr c81
                                              subst c81
                                              have H1 : (some false) = some r := by rw [if_neg (show ¬ (false = true) by decide)] at H; exact H
                                              clear H
                                              have H := H1
                                              clear H1
                                              exact absurd HT.out (by rw [← Option.some.inj H]; decide)
                                          · rw [if_neg c78] at H
                                            exact absurd H (by simp)
                                        · rw [if_neg c77] at H
                                          exact absurd H (by simp)
                                      · rw [if_neg c76] at H
                                        have c76b0 : ((t164.length : Int) == 52) = false := beq_eq_false_iff_ne.mpr c76
                                        have c76b1 : ((t164.length : Int) != 52) = true := bne_iff_ne.mpr c76
                                        exact absurd HT.out (by rw [← Option.some.inj H]; decide)
                                    · rw [if_neg c75] at H
                                      have c75b0 : (t165 == 1048576) = false := beq_eq_false_iff_ne.mpr c75
                                      have c75b1 : (t165 != 1048576) = true := bne_iff_ne.mpr c75
                                      exact absurd HT.out (by rw [← Option.some.inj H]; decide)
                                  · rw [if_neg c74] at H
                                    have c74b0 : (t166 == 5) = false := beq_eq_false_iff_ne.mpr c74
                                    have c74b1 : (t166 != 5) = true := bne_iff_ne.mpr c74
                                    exact absurd HT.out (by rw [← Option.some.inj H]; decide)
                                · rw [if_neg c73] at H
                                  have c73b0 : (t144 == 5) = false := beq_eq_false_iff_ne.mpr c73
                                  have c73b1 : (t144 != 5) = true := bne_iff_ne.mpr c73
                                  exact absurd HT.out (by rw [← Option.some.inj H]; decide)
                      · rw [if_neg c25] at H
                        exact absurd H (by simp)
                    · rw [if_neg c23] at H
                      exact absurd H (by simp)
                  · rw [if_neg c22] at H
                    have c22b0 : (t148 == 0) = false := beq_eq_false_iff_ne.mpr c22
                    have c22b1 : (t148 != 0) = true := bne_iff_ne.mpr c22
                    exact absurd HT.out (by rw [← Option.some.inj H]; decide)
                · rw [if_neg c19] at H
                  exact absurd H (by simp)
              · rw [if_neg c18] at H
                exact absurd H (by simp)
            · rw [if_neg c17] at H
              exact absurd H (by simp)
          · rw [if_neg c15] at H
            exact absurd H (by simp)
  · rw [if_neg c4] at H
    exact absurd H (by simp)

/-- THE ONE PURE STATEMENT of transeptlaw04_FrameLong: yours. -/
def transeptlaw04_FrameLong.Pure : Prop := ∀ (a0 : Int) (a1 : Int), (Lit.int .i64 a0).wf = true → (Lit.int .i64 a1).wf = true → ∃ k, transeptlaw04_FrameLong.f k a0 a1 = some true
theorem transeptlaw04_FrameLong.walk (P : transeptlaw04_FrameLong.Pure) (a0 : Int) (a1 : Int) (w : World) (hG : Glob w) (w0 : (Lit.int .i64 a0).wf = true) (w1 : (Lit.int .i64 a1).wf = true) :
    Calls Tryd.prog 9 #[.int .i64 a0, .int .i64 a1] w fun e w' => e = .returned (.bool true) ∧ Below w.heap.size w w' := by
  obtain ⟨k, h⟩ := P a0 a1 w0 w1
  refine (transeptlaw04_FrameLong.calls k a0 a1 true w hG rfl h).mono ?_
  rintro e w' ⟨rfl, hd⟩
  exact ⟨rfl, hd⟩

end Go.Proofs.YtojagnoobaleaaaDoor.Xp
