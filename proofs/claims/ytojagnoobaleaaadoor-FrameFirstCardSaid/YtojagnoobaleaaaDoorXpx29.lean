-- Written by a program of this session (wip/tools/xprint.py), in the manner of the print of the kit.
import Derived.Test.YtojagnoobaleaaaDoorXpx0
import Derived.Test.YtojagnoobaleaaaDoorStr
import Derived.Test.YtojagnoobaleaaaDoorFrZ
namespace Go.Proofs.YtojagnoobaleaaaDoor.Xp
open Go.RowKit Go.Proofs.YtojagnoobaleaaaDoor.Ext Go.Proofs.YtojagnoobaleaaaDoorW.PrintWords Go.Proofs.YtojagnoobaleaaaDoorW.PrintLast Go.Proofs.YtojagnoobaleaaaDoorW.PrintMore
attribute [local go_sem] max2_int min2_int max_two min_two max_three min_three max_four min_four   -- for this text's walks alone
set_option linter.unusedVariables false
set_option linter.unusedSimpArgs false

/-! ### transeptlaw04_FrameFirst: function 7 -/
mutual
def transeptlaw04_FrameFirst.j0 : Nat → List Int → List Int → Bool → List (List Int) → Int → Int → Bool → Option (Bool)
  | 0, _, _, _, _, _, _, _ => none
  | k + 1, x0, x1, x5, x6, x7, x8, x32 => if x32 = true then (if x5 = true then (some (x7 == (x0.length : Int))) else (some false)) else (if x7 < 0 then (transeptlaw04_FrameFirst.j1 k x0 x1 x5 x6 x7 x8 true) else (transeptlaw04_FrameFirst.j1 k x0 x1 x5 x6 x7 x8 (decide (x7 ≥ (x0.length : Int)))))
def transeptlaw04_FrameFirst.j1 : Nat → List Int → List Int → Bool → List (List Int) → Int → Int → Bool → Option (Bool)
  | 0, _, _, _, _, _, _, _ => none
  | k + 1, x0, x1, x5, x6, x7, x8, x47 => if x47 = true then (some false) else ((some (([] : List Int) : List Int)).bind fun y301 => (if 0 ≤ (wrap64 (x7 + 1)) then (if (wrap64 (x7 + 1)) ≤ (x0.length : Int) then (if y301.length + (x0.take ((wrap64 (x7 + 1)) : Int).toNat).length < 140737488355328 then ((some (y301 ++ (x0.take ((wrap64 (x7 + 1)) : Int).toNat) : List Int)).bind fun y305 => (if 0 ≤ (mn (x1.length : Int) 100) then (if (mn (x1.length : Int) 100) ≤ (x1.length : Int) then (if y305.length + (x1.take ((mn (x1.length : Int) 100) : Int).toNat).length < 140737488355328 then ((frame_Split.f (y305 ++ (x1.take ((mn (x1.length : Int) 100) : Int).toNat))).bind fun bt312 => (if 0 ≤ x7 then (if x7 ≤ (x0.length : Int) then ((frame_Split.f (x0.take (x7 : Int).toNat)).bind fun bt318 => (if x5 = true then (if bt312.2.1 = x7 then (if bt312.2.2 = x8 then (if (bt312.1.length : Int) = (x6.length : Int) then (if (bt318.1.length : Int) = (x6.length : Int) then (if bt318.2.1 = x7 then (if bt318.2.2 = 0 then (some true) else (some (bt318.2.2 == 2))) else (some false)) else (some false)) else (some false)) else (some false)) else (some false)) else (some false))) else (none)) else (none))) else (none)) else (none)) else (none))) else (none)) else (none)) else (none)))
end
def transeptlaw04_FrameFirst.f (k : Nat) (l0 : List Int) (l1 : List Int) : Option (Bool) := (transeptlaw04_shown.f).bind fun t294 => (if 0 ≤ (mn (l0.length : Int) 2000) then (if (mn (l0.length : Int) 2000) ≤ (l0.length : Int) then ((frame_Split.f (l0.take ((mn (l0.length : Int) 2000) : Int).toNat)).bind fun bt296 => (if bt296.2.2 = 0 then (transeptlaw04_FrameFirst.j0 k (l0.take ((mn (l0.length : Int) 2000) : Int).toNat) l1 t294 bt296.1 bt296.2.1 bt296.2.2 true) else (transeptlaw04_FrameFirst.j0 k (l0.take ((mn (l0.length : Int) 2000) : Int).toNat) l1 t294 bt296.1 bt296.2.1 bt296.2.2 (bt296.2.2 == 2)))) else (none)) else (none))
theorem transeptlaw04_FrameFirst.mono_l : ∀ k, (∀ y0 y1 y2 y3 y4 y5 y6, LeO (transeptlaw04_FrameFirst.j0 k y0 y1 y2 y3 y4 y5 y6) (transeptlaw04_FrameFirst.j0 (k + 1) y0 y1 y2 y3 y4 y5 y6)) ∧ (∀ y0 y1 y2 y3 y4 y5 y6, LeO (transeptlaw04_FrameFirst.j1 k y0 y1 y2 y3 y4 y5 y6) (transeptlaw04_FrameFirst.j1 (k + 1) y0 y1 y2 y3 y4 y5 y6))
  | 0 => ⟨fun _ _ _ _ _ _ _ r h => by simp [transeptlaw04_FrameFirst.j0] at h, fun _ _ _ _ _ _ _ r h => by simp [transeptlaw04_FrameFirst.j1] at h⟩
  | k + 1 => by
    obtain ⟨ih0, ih1⟩ := transeptlaw04_FrameFirst.mono_l k
    refine ⟨?_, ?_⟩
    · intro y0 y1 y2 y3 y4 y5 y6
      unfold transeptlaw04_FrameFirst.j0
      repeat' first
      | (with_reducible exact ih0 _ _ _ _ _ _ _)
      | (with_reducible exact ih1 _ _ _ _ _ _ _)
      | (with_reducible exact LeO.refl _)
      | (with_reducible exact LeO.none _)
      | (with_reducible refine LeO.ite ?_ ?_)
      | (with_reducible refine LeO.bind ?_ (fun _ => ?_))
      | exact ih0 _ _ _ _ _ _ _
      | exact ih1 _ _ _ _ _ _ _
      | exact LeO.none _
      | refine LeO.ite ?_ ?_
      | refine LeO.bind ?_ (fun _ => ?_)
    · intro y0 y1 y2 y3 y4 y5 y6
      unfold transeptlaw04_FrameFirst.j1
      repeat' first
      | (with_reducible exact ih0 _ _ _ _ _ _ _)
      | (with_reducible exact ih1 _ _ _ _ _ _ _)
      | (with_reducible exact LeO.refl _)
      | (with_reducible exact LeO.none _)
      | (with_reducible refine LeO.ite ?_ ?_)
      | (with_reducible refine LeO.bind ?_ (fun _ => ?_))
      | exact ih0 _ _ _ _ _ _ _
      | exact ih1 _ _ _ _ _ _ _
      | exact LeO.none _
      | refine LeO.ite ?_ ?_
      | refine LeO.bind ?_ (fun _ => ?_)
theorem transeptlaw04_FrameFirst.mono : ∀ a0 a1 k, LeO (transeptlaw04_FrameFirst.f k a0 a1) (transeptlaw04_FrameFirst.f (k + 1) a0 a1) := by
  intro a0 a1 k
  obtain ⟨ih0, ih1⟩ := transeptlaw04_FrameFirst.mono_l k
  unfold transeptlaw04_FrameFirst.f
  repeat' first
      | (with_reducible exact ih0 _ _ _ _ _ _ _)
      | (with_reducible exact ih1 _ _ _ _ _ _ _)
      | (with_reducible exact LeO.refl _)
      | (with_reducible exact LeO.none _)
      | (with_reducible refine LeO.ite ?_ ?_)
      | (with_reducible refine LeO.bind ?_ (fun _ => ?_))
      | exact ih0 _ _ _ _ _ _ _
      | exact ih1 _ _ _ _ _ _ _
      | exact LeO.none _
      | refine LeO.ite ?_ ?_
      | refine LeO.bind ?_ (fun _ => ?_)
def transeptlaw04_FrameFirst.T8 : Bool × List (List Nat × List Nat) := (true, [([], []), ([], []), ([], []), ([2], [2]), ([1, 3], [1, 3]), ([0, 4], [0, 4]), ([], []), ([], []), ([7], [7]), ([8], [8]), ([6, 9], [6, 9]), ([5, 10, 5], [5, 10]), ([11, 11], [11]), ([12], [12]), ([13], [13]), ([13], [13]), ([13], [13]), ([14, 12, 0, 1, 2, 3, 4, 5, 6, 7, 8, 9, 10, 11, 12, 13, 14], [14]), ([15, 17, 0, 1, 2, 3, 4, 5, 6, 7, 8, 9, 10, 11, 12, 13, 14, 15, 17], [15]), ([16, 18, 0, 1, 2, 3, 4, 5, 6, 7, 8, 9, 10, 11, 12, 13, 14, 15, 16, 17, 18], [16])])
def transeptlaw04_FrameFirst.B8 : List Nat := [0, 0, 0, 4, 14, 31, 0, 0, 128, 384, 960, 2047, 4095, 8191, 16383, 16383, 16383, 32767, 196607, 524287]
theorem transeptlaw04_FrameFirst.tab8 : rtab .any (opsOf Tryd.f7 8) = transeptlaw04_FrameFirst.T8 := by kernel_rfl
theorem transeptlaw04_FrameFirst.bits8 : waitsOk transeptlaw04_FrameFirst.T8.2 transeptlaw04_FrameFirst.B8 = true := by kernel_rfl
set_option maxHeartbeats 8000000 in
set_option maxRecDepth 100000 in
theorem transeptlaw04_FrameFirst.calls (k : Nat) (A0 : Option Addr) (c0 : Nat) (l0 : List Int) (A1 : Option Addr) (c1 : Nat) (l1 : List Int) (r : Bool) (w : World) (hG : Glob w) (hr0 : Kd.C (Kd.int .u8) w A0 l0.length l0) (hc0 : l0.length ≤ c0) (hr1 : Kd.C (Kd.int .u8) w A1 l1.length l1) (hc1 : l1.length ≤ c1) (hT_ : r = true) (h : transeptlaw04_FrameFirst.f k l0 l1 = some r) :
    Calls Tryd.prog 7 #[.slice A0 l0.length c0, .slice A1 l1.length c1] w fun e w' => e = .returned (.bool r) ∧ Below w.heap.size w w' := by
  have HG := Aside0.mk hG
  clear hG
  have HT := Aside0.mk hT_
  clear hT_
  have HR0 := Aside0.mk hr0
  have HC0 := Aside0.mk hc0
  clear hr0 hc0
  have HR1 := Aside0.mk hr1
  have HC1 := Aside0.mk hc1
  clear hr1 hc1
  have HB := Aside0.mk (Below.refl w.heap.size w)
  have H : ((transeptlaw04_shown.f).bind fun t294 => (if 0 ≤ (mn (l0.length : Int) 2000) then (if (mn (l0.length : Int) 2000) ≤ (l0.length : Int) then ((frame_Split.f (l0.take ((mn (l0.length : Int) 2000) : Int).toNat)).bind fun bt296 => (if bt296.2.2 = 0 then (transeptlaw04_FrameFirst.j0 k (l0.take ((mn (l0.length : Int) 2000) : Int).toNat) l1 t294 bt296.1 bt296.2.1 bt296.2.2 true) else (transeptlaw04_FrameFirst.j0 k (l0.take ((mn (l0.length : Int) 2000) : Int).toNat) l1 t294 bt296.1 bt296.2.1 bt296.2.2 (bt296.2.2 == 2)))) else (none)) else (none))) = some r := h
  clear h
  replace H := Option.bind_eq_some_iff.mp H
  obtain ⟨t294, A30, H⟩ := H
  replace H : (if 0 ≤ (mn (l0.length : Int) 2000) then (if (mn (l0.length : Int) 2000) ≤ (l0.length : Int) then ((frame_Split.f (l0.take ((mn (l0.length : Int) 2000) : Int).toNat)).bind fun bt296 => (if bt296.2.2 = 0 then (transeptlaw04_FrameFirst.j0 k (l0.take ((mn (l0.length : Int) 2000) : Int).toNat) l1 t294 bt296.1 bt296.2.1 bt296.2.2 true) else (transeptlaw04_FrameFirst.j0 k (l0.take ((mn (l0.length : Int) 2000) : Int).toNat) l1 t294 bt296.1 bt296.2.1 bt296.2.2 (bt296.2.2 == 2)))) else (none)) else (none)) = some r := H
  have A3 := Aside0.mk A30
  clear A30
  obtain ⟨ji4, hji4⟩ : ∃ j_ : Int, (mn (l0.length : Int) 2000) = j_ := ⟨_, rfl⟩
  replace H : (if 0 ≤ (ji4) then (if (ji4) ≤ (l0.length : Int) then ((frame_Split.f (l0.take ((ji4) : Int).toNat)).bind fun bt296 => (if bt296.2.2 = 0 then (transeptlaw04_FrameFirst.j0 k (l0.take ((ji4) : Int).toNat) l1 t294 bt296.1 bt296.2.1 bt296.2.2 true) else (transeptlaw04_FrameFirst.j0 k (l0.take ((ji4) : Int).toNat) l1 t294 bt296.1 bt296.2.1 bt296.2.2 (bt296.2.2 == 2)))) else (none)) else (none)) = some r := by first | (rw [hji4] at H; exact H) | (simp only [hji4] at H ⊢; exact H)
  (try rw [hji4] at A3)
  (try (have hji4h : ji4 ≤ 2000 := by (rw [← hji4]; unfold mn; (repeat' split) <;> omega)))
  (try (have hji4g : ji4 ≤ 64 := by omega))
  (try (have hji4l : 0 ≤ ji4 := by (rw [← hji4]; unfold mn; (repeat' split) <;> omega)))
  (try (have hji4m : 0 ≤ ji4 := by omega))
  have hji4_ : (if 2000 < (l0.length : Int) then 2000 else (l0.length : Int)) = ji4 := hji4
  by_cases c5 : 0 ≤ (ji4)
  · rw [if_pos c5] at H
    have c5b0 := eq_true c5
    have c5b1 : decide (0 ≤ (ji4)) = true := decide_eq_true c5
    clear c5
    by_cases c6 : (ji4) ≤ (l0.length : Int)
    · rw [if_pos c6] at H
      have c6b0 := eq_true c6
      have c6b1 : decide ((ji4) ≤ (l0.length : Int)) = true := decide_eq_true c6
      clear c6
      replace H := Option.bind_eq_some_iff.mp H
      obtain ⟨⟨t296, t297, t298⟩, A70, H⟩ := H
      replace H : (if t298 = 0 then (transeptlaw04_FrameFirst.j0 k (l0.take ((ji4) : Int).toNat) l1 t294 t296 t297 t298 true) else (transeptlaw04_FrameFirst.j0 k (l0.take ((ji4) : Int).toNat) l1 t294 t296 t297 t298 (t298 == 2))) = some r := H
      have A7 := Aside0.mk A70
      clear A70
      have HC8 := Aside0.mk H
      clear H
      go_enter Tryd.func7, Tryd.ntmps7
      go_upto_region 4 with (first | ((with_reducible refine gate_callee (f := 13) rfl ?_); refine goesL_ (some 15) rfl rfl Tryd.func13 (by kernel_rfl) rfl #[] rfl (by (try simp only [List.map_toArray, List.map_cons, List.map_nil]); first | done | rfl | (simp only [List.length_drop, List.length_take]; rfl)) ?_; (with_reducible refine (transeptlaw04_shown.calls  t294 _ ?side1 A3.out).mono ?_); (case side1 => first | exact HG.out | exact Glob.below HG.out HB.out | exact Glob.drewN (Glob.below HG.out HB.out) _ | exact Glob.drewN HG.out _ | (refine Glob.below HG.out ?_; (repeat (first | (with_reducible first | exact HB.out | apply below_alloc | apply pw_below_drewN | apply below_drew1) | exact HB.out)); done) | (repeat (first | exact HG.out | (with_reducible refine Glob.drewN ?_ _) | (with_reducible refine Glob.drew ?_) | (with_reducible refine Glob.alloc ?_ _)); done)); rintro e w9 ⟨rfl, hb⟩; refine ⟨_, rfl, ?_⟩; have n0_ := Aside0.mk (below_step (by repeat (first | (with_reducible first | exact HB.out | apply below_alloc | apply pw_below_drewN | apply below_drew1) | exact HB.out)) hb); clear HB; have HB := n0_; clear n0_; (try clear hb); (try clear hb2); (try clear hk); (try clear hi); obtain ⟨i010, hi010, _, hsz10, _⟩ := info_parts info5; obtain ⟨hcut10, hA10, hC10⟩ := print_take_of (P := Tryd.prog) (Value.int .u8) 0 22 5 .i64 Tryd.underlying22 hi010 hsz10 A0 c0 l0 (ji4) (of_decide_eq_true (by first | (with_reducible assumption) | assumption)) (of_decide_eq_true (by first | (with_reducible assumption) | assumption)) HC0.out; have hl10 := Aside0.mk (show (l0.take ((ji4) : Int).toNat).length = ((ji4) : Int).toNat from by have q0_ : 0 ≤ (ji4) := (of_decide_eq_true (by first | (with_reducible assumption) | assumption)); have q1_ : (ji4) ≤ (l0.length : Int) := (of_decide_eq_true (by first | (with_reducible assumption) | assumption)); (try simp only [List.length_drop, List.length_take] at q0_ q1_); (try simp only [List.length_drop, List.length_take] at q2_); simp only [List.length_drop, List.length_take]; first | done | omega); (try rw [hl10.out] at hcut10); have HR295 := Aside0.mk (Kd.C_of_reads (h1 := fun _ => rfl) (hA10 _ (Kd.reads_of_C HR0.out))); have HC295 := Aside0.mk hC10; clear hA10 hC10 hi010 hsz10) | ((with_reducible refine gate_callee (f := 14) rfl ?_); refine goesL_ (some 23) rfl rfl Tryd.func14 (by kernel_rfl) rfl #[.slice A0 (l0.take ((ji4) : Int).toNat).length c0] rfl (by (try simp only [List.map_toArray, List.map_cons, List.map_nil]); first | done | (rw [show (l0.take ((ji4) : Int).toNat).length = (ji4).toNat from (by rw [List.length_take]; have h_ : ((ji4) : Int) ≤ (l0.length : Int) := of_decide_eq_true (by first | (with_reducible assumption) | assumption); omega)] <;> rfl) | (simp only [hji4]; rfl) | rfl | (simp only [List.length_drop, List.length_take]; rfl)) ?_; (with_reducible refine (frame_Split.calls _ _ (l0.take ((ji4) : Int).toNat) t296 t297 t298 _ ?side3 ?side1 ?side2 A7.out).mono ?_); (case side1 => repeat (first | exact (Kd.C_below HR295.out HB.out) | (with_reducible refine Kd.C_alloc ?_ _) | (with_reducible refine Kd.C_drewN ?_ _) | (with_reducible refine Kd.C_drew ?_))); (case side2 => exact HC295.out); (case side3 => first | exact HG.out | exact Glob.below HG.out HB.out | exact Glob.drewN (Glob.below HG.out HB.out) _ | exact Glob.drewN HG.out _ | (refine Glob.below HG.out ?_; (repeat (first | (with_reducible first | exact HB.out | apply below_alloc | apply pw_below_drewN | apply below_drew1) | exact HB.out)); done) | (repeat (first | exact HG.out | (with_reducible refine Glob.drewN ?_ _) | (with_reducible refine Glob.drew ?_) | (with_reducible refine Glob.alloc ?_ _)); done)); rintro e w11 ⟨v299, rfl, ho0, hb⟩; refine ⟨_, rfl, ?_⟩; have n0_ := Aside0.mk (Kd.S_lower ho0 (below_size (by repeat (first | (with_reducible first | exact HB.out | apply below_alloc | apply pw_below_drewN | apply below_drew1) | exact HB.out)))); have n1_ := Aside0.mk (below_step (by repeat (first | (with_reducible first | exact HB.out | apply below_alloc | apply pw_below_drewN | apply below_drew1) | exact HB.out)) hb); clear HB; have HO300 := n0_; have HB := n1_; clear n0_ n1_; (try clear hb); (try clear hb2); (try clear hk); (try clear hi); (try clear ho0)))
      (try simp only [Act.put, List.setIfInBounds_toArray, List.set_cons_zero, List.set_cons_succ])
      go_cut [32] (fun v32 wc => ∃ (kq : Nat) (x32_7 : Bool), v32 = .bool x32_7 ∧ Aside0 (transeptlaw04_FrameFirst.j0 kq (l0.take ((ji4) : Int).toNat) l1 t294 t296 t297 t298 x32_7 = some r) ∧ Aside0 (kq ≤ k) ∧ Aside0 (Kd.S (Kd.slice 5 (Kd.int .u8)) 22 wc w.heap.size (fun _ => True) v299 t296) ∧ Aside0 (Below w.heap.size w wc))
      case first =>
        have H := HC8.out
        clear HC8
        by_cases c12 : t298 = 0
        · rw [if_pos c12] at H
          have c12b0 : (t298 == 0) = true := beq_iff_eq.mpr c12
          have c12b1 : (t298 != 0) = false := bne_eq_false_iff_eq.mpr c12
          clear c12
          (first | rw [c12b0] | (simp only [i64_w, i32_w]; rw [c12b0]) | skip)
          have H' := Aside0.mk H
          clear H
          go_wp2
          go_meet
          case rel => exact ⟨_, (true), (by first | rfl | (simp; done) | (simp [*]; done)), H', ⟨by first | omega | exact Nat.le_refl _⟩, ⟨by (with_reducible repeat (first | apply Kd.S_alloc | apply Kd.S_drewN | apply Kd.S_drew)); exact HO300.out⟩, ⟨by repeat (first | (with_reducible first | exact HB.out | apply below_alloc | apply pw_below_drewN | apply below_drew1) | exact HB.out)⟩⟩
        · rw [if_neg c12] at H
          have c12b0 : (t298 == 0) = false := beq_eq_false_iff_ne.mpr c12
          have c12b1 : (t298 != 0) = true := bne_iff_ne.mpr c12
          (first | rw [c12b0] | (simp only [i64_w, i32_w]; rw [c12b0]) | skip)
          have H' := Aside0.mk H
          clear H
          go_wp2
          go_meet
          case rel => exact ⟨_, ((t298 == 2)), (by first | rfl | (simp; done) | (simp [*]; done)), H', ⟨by first | omega | exact Nat.le_refl _⟩, ⟨by (with_reducible repeat (first | apply Kd.S_alloc | apply Kd.S_drewN | apply Kd.S_drew)); exact HO300.out⟩, ⟨by repeat (first | (with_reducible first | exact HB.out | apply below_alloc | apply pw_below_drewN | apply below_drew1) | exact HB.out)⟩⟩
      case rest =>
        clear HC8
        try clear c1
        try clear p2
        try clear c5
        try clear c5b0
        try clear c5b1
        try clear c6
        try clear c6b0
        try clear c6b1
        try clear c7
        try clear c12
        try clear c12b0
        try clear c12b1
        obtain ⟨kq, x32_7, rfl, HA, HJ7, HO_6, HB⟩ := hcut
        cases kq with
        | zero => exact absurd HA.out (by simp [transeptlaw04_FrameFirst.j0])
        | succ kj7 =>
          have H := HA.out
          clear HA
          simp only [transeptlaw04_FrameFirst.j0] at H
          by_cases c13 : x32_7 = true
          · subst c13
            have H1 : (if t294 = true then (some (t297 == ((l0.take ((ji4) : Int).toNat).length : Int))) else (some false)) = some r := by rw [if_pos rfl] at H; exact H
            clear H
            have H := H1
            clear H1
            by_cases c14 : t294 = true
            · subst c14
              have H1 : (some (t297 == ((l0.take ((ji4) : Int).toNat).length : Int))) = some r := by rw [if_pos rfl] at H; exact H
              clear H
              have H := H1
              clear H1
              obtain rfl := Option.some.inj H
              go_wp2
              go_ret
              exact ⟨by first | (have e_ : ((min ((ji4) : Int).toNat l0.length : Nat) : Int) = max ji4 0 := (by omega); (try simp only [List.length_take]); rw [e_]; rfl) | rfl | (simp [errW_none, errW_some] <;> rfl) | (simp only [← hji4]; first | rfl | (simp [errW_none, errW_some] <;> rfl)) | (simp [*, errW_none, errW_some] <;> rfl), by repeat (first | (with_reducible first | exact HB.out | apply below_alloc | apply pw_below_drewN | apply below_drew1) | exact HB.out)⟩
            · replace c14 := Bool.eq_false_iff.mpr c14
              subst c14
              have H1 : (some false) = some r := by rw [if_neg (show ¬ (false = true) by decide)] at H; exact H
              clear H
              have H := H1
              clear H1
              exact absurd HT.out (by rw [← Option.some.inj H]; decide)
          · replace c13 := Bool.eq_false_iff.mpr c13
            subst c13
            have H1 : (if t297 < 0 then (transeptlaw04_FrameFirst.j1 kj7 (l0.take ((ji4) : Int).toNat) l1 t294 t296 t297 t298 true) else (transeptlaw04_FrameFirst.j1 kj7 (l0.take ((ji4) : Int).toNat) l1 t294 t296 t297 t298 (decide (t297 ≥ ((l0.take ((ji4) : Int).toNat).length : Int))))) = some r := by rw [if_neg (show ¬ (false = true) by decide)] at H; exact H
            clear H
            have H := H1
            clear H1
            have HC15 := Aside0.mk H
            clear H
            go_upto_region 6 with (fail)
            go_cut [47] (fun v47 wc => ∃ (kq : Nat) (x47_14 : Bool), v47 = .bool x47_14 ∧ Aside0 (transeptlaw04_FrameFirst.j1 kq (l0.take ((ji4) : Int).toNat) l1 t294 t296 t297 t298 x47_14 = some r) ∧ Aside0 (kq ≤ kj7) ∧ Aside0 (Kd.S (Kd.slice 5 (Kd.int .u8)) 22 wc w.heap.size (fun _ => True) v299 t296) ∧ Aside0 (Below w.heap.size w wc))
            case first =>
              have H := HC15.out
              clear HC15
              by_cases c16 : t297 < 0
              · rw [if_pos c16] at H
                have c16b0 : decide (t297 < 0) = true := decide_eq_true c16
                clear c16
                (first | rw [c16b0] | (simp only [i64_w, i32_w]; rw [c16b0]) | skip)
                have H' := Aside0.mk H
                clear H
                go_wp2
                go_meet
                case rel => exact ⟨_, (true), (by first | rfl | (simp; done) | (simp [*]; done)), H', ⟨by have := HJ7.out; first | omega | exact Nat.le_refl _⟩, ⟨by (with_reducible repeat (first | apply Kd.S_alloc | apply Kd.S_drewN | apply Kd.S_drew)); exact HO_6.out⟩, ⟨by repeat (first | (with_reducible first | exact HB.out | apply below_alloc | apply pw_below_drewN | apply below_drew1) | exact HB.out)⟩⟩
              · rw [if_neg c16] at H
                have c16b0 : decide (t297 < 0) = false := decide_eq_false c16
                clear c16
                (first | rw [c16b0] | (simp only [i64_w, i32_w]; rw [c16b0]) | skip)
                have H' := Aside0.mk H
                clear H
                go_wp2
                go_meet
                case rel => exact ⟨_, (decide (t297 ≥ ((l0.take ((ji4) : Int).toNat).length : Int))), (by first | (have e_ : ((l0.take ((ji4) : Int).toNat).length : Int) = max ji4 0 := (by rw [List.length_take]; omega); rw [e_]; done) | (have e_ : ((l0.take ((ji4) : Int).toNat).length : Int) = max ji4 0 := (by rw [List.length_take]; omega); rw [e_]; rfl) | rfl | (simp; done) | (simp only [← hji4] <;> (first | rfl | simp)) | (simp [*]; done)), H', ⟨by have := HJ7.out; first | omega | exact Nat.le_refl _⟩, ⟨by (with_reducible repeat (first | apply Kd.S_alloc | apply Kd.S_drewN | apply Kd.S_drew)); exact HO_6.out⟩, ⟨by repeat (first | (with_reducible first | exact HB.out | apply below_alloc | apply pw_below_drewN | apply below_drew1) | exact HB.out)⟩⟩
            case rest =>
              clear HC15
              try clear c1
              try clear p2
              try clear c5
              try clear c5b0
              try clear c5b1
              try clear c6
              try clear c6b0
              try clear c6b1
              try clear c7
              try clear c12
              try clear c12b0
              try clear c12b1
              try clear c13
              try clear c14
              try clear c16
              try clear c16b0
              try clear p2
              obtain ⟨kq, x47_14, rfl, HA, HJ14, HO_6, HB⟩ := hcut
              cases kq with
              | zero => exact absurd HA.out (by simp [transeptlaw04_FrameFirst.j1])
              | succ kj14 =>
                have H := HA.out
                clear HA
                simp only [transeptlaw04_FrameFirst.j1] at H
                by_cases c17 : x47_14 = true
                · subst c17
                  have H1 : (some false) = some r := by rw [if_pos rfl] at H; exact H
                  clear H
                  have H := H1
                  clear H1
                  exact absurd HT.out (by rw [← Option.some.inj H]; decide)
                · replace c17 := Bool.eq_false_iff.mpr c17
                  subst c17
                  have H1 : ((some (([] : List Int) : List Int)).bind fun y301 => (if 0 ≤ (wrap64 (t297 + 1)) then (if (wrap64 (t297 + 1)) ≤ ((l0.take ((ji4) : Int).toNat).length : Int) then (if y301.length + ((l0.take ((ji4) : Int).toNat).take ((wrap64 (t297 + 1)) : Int).toNat).length < 140737488355328 then ((some (y301 ++ ((l0.take ((ji4) : Int).toNat).take ((wrap64 (t297 + 1)) : Int).toNat) : List Int)).bind fun y305 => (if 0 ≤ (mn (l1.length : Int) 100) then (if (mn (l1.length : Int) 100) ≤ (l1.length : Int) then (if y305.length + (l1.take ((mn (l1.length : Int) 100) : Int).toNat).length < 140737488355328 then ((frame_Split.f (y305 ++ (l1.take ((mn (l1.length : Int) 100) : Int).toNat))).bind fun bt312 => (if 0 ≤ t297 then (if t297 ≤ ((l0.take ((ji4) : Int).toNat).length : Int) then ((frame_Split.f ((l0.take ((ji4) : Int).toNat).take (t297 : Int).toNat)).bind fun bt318 => (if t294 = true then (if bt312.2.1 = t297 then (if bt312.2.2 = t298 then (if (bt312.1.length : Int) = (t296.length : Int) then (if (bt318.1.length : Int) = (t296.length : Int) then (if bt318.2.1 = t297 then (if bt318.2.2 = 0 then (some true) else (some (bt318.2.2 == 2))) else (some false)) else (some false)) else (some false)) else (some false)) else (some false)) else (some false))) else (none)) else (none))) else (none)) else (none)) else (none))) else (none)) else (none)) else (none))) = some r := by rw [if_neg (show ¬ (false = true) by decide)] at H; exact H
                  clear H
                  have H := H1
                  clear H1
                  obtain ⟨y301, hy301⟩ : ∃ y_ : List Int, y_ = (([] : List Int)) := ⟨_, rfl⟩
                  replace H : (if 0 ≤ (wrap64 (t297 + 1)) then (if (wrap64 (t297 + 1)) ≤ ((l0.take ((ji4) : Int).toNat).length : Int) then (if y301.length + ((l0.take ((ji4) : Int).toNat).take ((wrap64 (t297 + 1)) : Int).toNat).length < 140737488355328 then ((some (y301 ++ ((l0.take ((ji4) : Int).toNat).take ((wrap64 (t297 + 1)) : Int).toNat) : List Int)).bind fun y305 => (if 0 ≤ (mn (l1.length : Int) 100) then (if (mn (l1.length : Int) 100) ≤ (l1.length : Int) then (if y305.length + (l1.take ((mn (l1.length : Int) 100) : Int).toNat).length < 140737488355328 then ((frame_Split.f (y305 ++ (l1.take ((mn (l1.length : Int) 100) : Int).toNat))).bind fun bt312 => (if 0 ≤ t297 then (if t297 ≤ ((l0.take ((ji4) : Int).toNat).length : Int) then ((frame_Split.f ((l0.take ((ji4) : Int).toNat).take (t297 : Int).toNat)).bind fun bt318 => (if t294 = true then (if bt312.2.1 = t297 then (if bt312.2.2 = t298 then (if (bt312.1.length : Int) = (t296.length : Int) then (if (bt318.1.length : Int) = (t296.length : Int) then (if bt318.2.1 = t297 then (if bt318.2.2 = 0 then (some true) else (some (bt318.2.2 == 2))) else (some false)) else (some false)) else (some false)) else (some false)) else (some false)) else (some false))) else (none)) else (none))) else (none)) else (none)) else (none))) else (none)) else (none)) else (none)) = some r := by first | (rw [hy301]; with_reducible exact H) | (have H2_ := (Option.bind_some _ _).symm.trans H; rw [hy301]; with_reducible exact H2_) | (have H2_ := (Option.bind_some _ _).symm.trans H; with_reducible exact H2_) | with_reducible exact H | (rw [hy301]; exact H) | exact H
                  have Ny301 := Aside0.mk hy301
                  clear hy301
                  obtain ⟨ji18, hji18⟩ : ∃ j_ : Int, (wrap64 (t297 + 1)) = j_ := ⟨_, rfl⟩
                  replace H : (if 0 ≤ (ji18) then (if (ji18) ≤ ((l0.take ((ji4) : Int).toNat).length : Int) then (if y301.length + ((l0.take ((ji4) : Int).toNat).take ((ji18) : Int).toNat).length < 140737488355328 then ((some (y301 ++ ((l0.take ((ji4) : Int).toNat).take ((ji18) : Int).toNat) : List Int)).bind fun y305 => (if 0 ≤ (mn (l1.length : Int) 100) then (if (mn (l1.length : Int) 100) ≤ (l1.length : Int) then (if y305.length + (l1.take ((mn (l1.length : Int) 100) : Int).toNat).length < 140737488355328 then ((frame_Split.f (y305 ++ (l1.take ((mn (l1.length : Int) 100) : Int).toNat))).bind fun bt312 => (if 0 ≤ t297 then (if t297 ≤ ((l0.take ((ji4) : Int).toNat).length : Int) then ((frame_Split.f ((l0.take ((ji4) : Int).toNat).take (t297 : Int).toNat)).bind fun bt318 => (if t294 = true then (if bt312.2.1 = t297 then (if bt312.2.2 = t298 then (if (bt312.1.length : Int) = (t296.length : Int) then (if (bt318.1.length : Int) = (t296.length : Int) then (if bt318.2.1 = t297 then (if bt318.2.2 = 0 then (some true) else (some (bt318.2.2 == 2))) else (some false)) else (some false)) else (some false)) else (some false)) else (some false)) else (some false))) else (none)) else (none))) else (none)) else (none)) else (none))) else (none)) else (none)) else (none)) = some r := by first | (rw [hji18] at H; exact H) | (simp only [hji18] at H ⊢; exact H)
                  have hji18w : (IntKind.i64.wrap (t297 + 1)) = ji18 := (i64_w _).trans hji18
                  by_cases c19 : 0 ≤ (ji18)
                  · rw [if_pos c19] at H
                    have c19b0 := eq_true c19
                    have c19b1 : decide (0 ≤ (ji18)) = true := decide_eq_true c19
                    clear c19
                    by_cases c20 : (ji18) ≤ ((l0.take ((ji4) : Int).toNat).length : Int)
                    · rw [if_pos c20] at H
                      have c20b0 := eq_true c20
                      have c20b1 : decide ((ji18) ≤ ((l0.take ((ji4) : Int).toNat).length : Int)) = true := decide_eq_true c20
                      try have c20b1x : decide ((ji18) ≤ (max ji4 0)) = true := by have z_ := c20b1; rw [List.length_take, Nat.min_eq_left (by first | omega | (simp only [decide_eq_true_eq] at *; omega)), show ((ji4.toNat : Nat) : Int) = max ji4 0 by omega] at z_; exact z_
                      clear c20
                      by_cases c21 : y301.length + ((l0.take ((ji4) : Int).toNat).take ((ji18) : Int).toNat).length < 140737488355328
                      · rw [if_pos c21] at H
                        have LMc21 := Aside0.mk c21
                        clear c21
                        obtain ⟨y305, hy305⟩ : ∃ y_ : List Int, y_ = (y301 ++ ((l0.take ((ji4) : Int).toNat).take ((ji18) : Int).toNat)) := ⟨_, rfl⟩
                        replace H : (if 0 ≤ (mn (l1.length : Int) 100) then (if (mn (l1.length : Int) 100) ≤ (l1.length : Int) then (if y305.length + (l1.take ((mn (l1.length : Int) 100) : Int).toNat).length < 140737488355328 then ((frame_Split.f (y305 ++ (l1.take ((mn (l1.length : Int) 100) : Int).toNat))).bind fun bt312 => (if 0 ≤ t297 then (if t297 ≤ ((l0.take ((ji4) : Int).toNat).length : Int) then ((frame_Split.f ((l0.take ((ji4) : Int).toNat).take (t297 : Int).toNat)).bind fun bt318 => (if t294 = true then (if bt312.2.1 = t297 then (if bt312.2.2 = t298 then (if (bt312.1.length : Int) = (t296.length : Int) then (if (bt318.1.length : Int) = (t296.length : Int) then (if bt318.2.1 = t297 then (if bt318.2.2 = 0 then (some true) else (some (bt318.2.2 == 2))) else (some false)) else (some false)) else (some false)) else (some false)) else (some false)) else (some false))) else (none)) else (none))) else (none)) else (none)) else (none)) = some r := by first | (rw [hy305]; with_reducible exact H) | (have H2_ := (Option.bind_some _ _).symm.trans H; rw [hy305]; with_reducible exact H2_) | (have H2_ := (Option.bind_some _ _).symm.trans H; with_reducible exact H2_) | with_reducible exact H | (rw [hy305]; exact H) | exact H
                        have Ny305 := Aside0.mk hy305
                        clear hy305
                        obtain ⟨ji22, hji22⟩ : ∃ j_ : Int, (mn (l1.length : Int) 100) = j_ := ⟨_, rfl⟩
                        replace H : (if 0 ≤ (ji22) then (if (ji22) ≤ (l1.length : Int) then (if y305.length + (l1.take ((ji22) : Int).toNat).length < 140737488355328 then ((frame_Split.f (y305 ++ (l1.take ((ji22) : Int).toNat))).bind fun bt312 => (if 0 ≤ t297 then (if t297 ≤ ((l0.take ((ji4) : Int).toNat).length : Int) then ((frame_Split.f ((l0.take ((ji4) : Int).toNat).take (t297 : Int).toNat)).bind fun bt318 => (if t294 = true then (if bt312.2.1 = t297 then (if bt312.2.2 = t298 then (if (bt312.1.length : Int) = (t296.length : Int) then (if (bt318.1.length : Int) = (t296.length : Int) then (if bt318.2.1 = t297 then (if bt318.2.2 = 0 then (some true) else (some (bt318.2.2 == 2))) else (some false)) else (some false)) else (some false)) else (some false)) else (some false)) else (some false))) else (none)) else (none))) else (none)) else (none)) else (none)) = some r := by first | (rw [hji22] at H; exact H) | (simp only [hji22] at H ⊢; exact H)
                        have hji22_ : (if 100 < (l1.length : Int) then 100 else (l1.length : Int)) = ji22 := hji22
                        by_cases c23 : 0 ≤ (ji22)
                        · rw [if_pos c23] at H
                          have c23b0 := eq_true c23
                          have c23b1 : decide (0 ≤ (ji22)) = true := decide_eq_true c23
                          clear c23
                          by_cases c24 : (ji22) ≤ (l1.length : Int)
                          · rw [if_pos c24] at H
                            have c24b0 := eq_true c24
                            have c24b1 : decide ((ji22) ≤ (l1.length : Int)) = true := decide_eq_true c24
                            clear c24
                            by_cases c25 : y305.length + (l1.take ((ji22) : Int).toNat).length < 140737488355328
                            · rw [if_pos c25] at H
                              have LMc25 := Aside0.mk c25
                              clear c25
                              obtain ⟨y309, hy309⟩ : ∃ y_ : List Int, y_ = (y305 ++ (l1.take ((ji22) : Int).toNat)) := ⟨_, rfl⟩
                              replace H : ((frame_Split.f y309).bind fun bt312 => (if 0 ≤ t297 then (if t297 ≤ ((l0.take ((ji4) : Int).toNat).length : Int) then ((frame_Split.f ((l0.take ((ji4) : Int).toNat).take (t297 : Int).toNat)).bind fun bt318 => (if t294 = true then (if bt312.2.1 = t297 then (if bt312.2.2 = t298 then (if (bt312.1.length : Int) = (t296.length : Int) then (if (bt318.1.length : Int) = (t296.length : Int) then (if bt318.2.1 = t297 then (if bt318.2.2 = 0 then (some true) else (some (bt318.2.2 == 2))) else (some false)) else (some false)) else (some false)) else (some false)) else (some false)) else (some false))) else (none)) else (none))) = some r := by first | (rw [hy309]; with_reducible exact H) | (have H2_ := (Option.bind_some _ _).symm.trans H; rw [hy309]; with_reducible exact H2_) | (have H2_ := (Option.bind_some _ _).symm.trans H; with_reducible exact H2_) | with_reducible exact H | (rw [hy309]; exact H) | exact H
                              have Ny309 := Aside0.mk hy309
                              clear hy309
                              replace H := Option.bind_eq_some_iff.mp H
                              obtain ⟨⟨t312, t313, t314⟩, A260, H⟩ := H
                              replace H : (if 0 ≤ t297 then (if t297 ≤ ((l0.take ((ji4) : Int).toNat).length : Int) then ((frame_Split.f ((l0.take ((ji4) : Int).toNat).take (t297 : Int).toNat)).bind fun bt318 => (if t294 = true then (if t313 = t297 then (if t314 = t298 then (if (t312.length : Int) = (t296.length : Int) then (if (bt318.1.length : Int) = (t296.length : Int) then (if bt318.2.1 = t297 then (if bt318.2.2 = 0 then (some true) else (some (bt318.2.2 == 2))) else (some false)) else (some false)) else (some false)) else (some false)) else (some false)) else (some false))) else (none)) else (none)) = some r := H
                              have A26 := Aside0.mk A260
                              clear A260
                              by_cases c27 : 0 ≤ t297
                              · rw [if_pos c27] at H
                                have c27b0 := eq_true c27
                                have c27b1 : decide (0 ≤ t297) = true := decide_eq_true c27
                                clear c27
                                by_cases c28 : t297 ≤ ((l0.take ((ji4) : Int).toNat).length : Int)
                                · rw [if_pos c28] at H
                                  have c28b0 := eq_true c28
                                  have c28b1 : decide (t297 ≤ ((l0.take ((ji4) : Int).toNat).length : Int)) = true := decide_eq_true c28
                                  try have c28b1x : decide (t297 ≤ (max ji4 0)) = true := by have z_ := c28b1; rw [List.length_take, Nat.min_eq_left (by first | omega | (simp only [decide_eq_true_eq] at *; omega)), show ((ji4.toNat : Nat) : Int) = max ji4 0 by omega] at z_; exact z_
                                  clear c28
                                  replace H := Option.bind_eq_some_iff.mp H
                                  obtain ⟨⟨t318, t319, t320⟩, A290, H⟩ := H
                                  replace H : (if t294 = true then (if t313 = t297 then (if t314 = t298 then (if (t312.length : Int) = (t296.length : Int) then (if (t318.length : Int) = (t296.length : Int) then (if t319 = t297 then (if t320 = 0 then (some true) else (some (t320 == 2))) else (some false)) else (some false)) else (some false)) else (some false)) else (some false)) else (some false)) = some r := H
                                  have A29 := Aside0.mk A290
                                  clear A290
                                  by_cases c30 : t294 = true
                                  · subst c30
                                    have H1 : (if t313 = t297 then (if t314 = t298 then (if (t312.length : Int) = (t296.length : Int) then (if (t318.length : Int) = (t296.length : Int) then (if t319 = t297 then (if t320 = 0 then (some true) else (some (t320 == 2))) else (some false)) else (some false)) else (some false)) else (some false)) else (some false)) = some r := by rw [if_pos rfl] at H; exact H
                                    clear H
                                    have H := H1
                                    clear H1
                                    by_cases c31 : t313 = t297
                                    · rw [if_pos c31] at H
                                      have c31b0 : (t313 == t297) = true := beq_iff_eq.mpr c31
                                      have c31b1 : (t313 != t297) = false := bne_eq_false_iff_eq.mpr c31
                                      clear c31
                                      by_cases c32 : t314 = t298
                                      · rw [if_pos c32] at H
                                        have c32b0 : (t314 == t298) = true := beq_iff_eq.mpr c32
                                        have c32b1 : (t314 != t298) = false := bne_eq_false_iff_eq.mpr c32
                                        clear c32
                                        by_cases c33 : (t312.length : Int) = (t296.length : Int)
                                        · rw [if_pos c33] at H
                                          have c33b0 : ((t312.length : Int) == (t296.length : Int)) = true := beq_iff_eq.mpr c33
                                          have c33b1 : ((t312.length : Int) != (t296.length : Int)) = false := bne_eq_false_iff_eq.mpr c33
                                          have c33b2 : (t312.length == t296.length) = true := by first | simpa using c33 | (simp at c33 ⊢; omega)
                                          clear c33
                                          by_cases c34 : (t318.length : Int) = (t296.length : Int)
                                          · rw [if_pos c34] at H
                                            have c34b0 : ((t318.length : Int) == (t296.length : Int)) = true := beq_iff_eq.mpr c34
                                            have c34b1 : ((t318.length : Int) != (t296.length : Int)) = false := bne_eq_false_iff_eq.mpr c34
                                            have c34b2 : (t318.length == t296.length) = true := by first | simpa using c34 | (simp at c34 ⊢; omega)
                                            clear c34
                                            by_cases c35 : t319 = t297
                                            · rw [if_pos c35] at H
                                              have c35b0 : (t319 == t297) = true := beq_iff_eq.mpr c35
                                              have c35b1 : (t319 != t297) = false := bne_eq_false_iff_eq.mpr c35
                                              clear c35
                                              by_cases c36 : t320 = 0
                                              · rw [if_pos c36] at H
                                                have c36b0 : (t320 == 0) = true := beq_iff_eq.mpr c36
                                                have c36b1 : (t320 != 0) = false := bne_eq_false_iff_eq.mpr c36
                                                clear c36
                                                obtain rfl := Option.some.inj H
                                                try go_wp2
                                                have n0_ := Aside0.mk (Kd.S_drew HO_6.out)
                                                have n1_ := Aside0.mk (below_drew1 HB.out)
                                                clear HO_6
                                                clear HB
                                                have HO_6 := n0_
                                                have HB := n1_
                                                clear n0_ n1_
                                                obtain ⟨i038, hi038, _, hsz38, _⟩ := info_parts info5
                                                obtain ⟨hcut38, hA38, hC38⟩ := print_take_of (P := Tryd.prog) (Value.int .u8) 0 22 5 .i64 Tryd.underlying22 hi038 hsz38 A0 c0 (l0.take ((ji4) : Int).toNat) (ji18) (of_decide_eq_true (by first | (with_reducible assumption) | assumption)) (of_decide_eq_true (by first | (with_reducible assumption) | assumption)) HC295.out
                                                have hl38 := Aside0.mk (show ((l0.take ((ji4) : Int).toNat).take ((ji18) : Int).toNat).length = ((ji18) : Int).toNat from by have q0_ : 0 ≤ (ji18) := (of_decide_eq_true (by first | (with_reducible assumption) | assumption)); have q1_ : (ji18) ≤ ((l0.take ((ji4) : Int).toNat).length : Int) := (of_decide_eq_true (by first | (with_reducible assumption) | assumption)); have z_ := hl10.out; (try rw [List.length_drop] at z_); (try rw [List.length_take] at z_); (try simp only [List.length_drop, List.length_take] at q0_ q1_); (try simp only [List.length_drop, List.length_take] at q2_); simp only [List.length_drop, List.length_take]; first | done | omega)
                                                (try rw [hl10.out] at hcut38)
                                                (try rw [hl38.out] at hcut38)
                                                have HR304 := Aside0.mk (Kd.C_of_reads (h1 := fun _ => rfl) (hA38 _ (Kd.reads_of_C HR295.out)))
                                                have HC304 := Aside0.mk hC38
                                                clear hA38 hC38 hi038 hsz38
                                                obtain ⟨i039, hi039, _, hsz39, _⟩ := info_parts info5
                                                obtain ⟨hcut39, hA39, hC39⟩ := print_take_of (P := Tryd.prog) (Value.int .u8) 0 22 5 .i64 Tryd.underlying22 hi039 hsz39 A1 c1 l1 (ji22) (of_decide_eq_true (by first | (with_reducible assumption) | assumption)) (of_decide_eq_true (by first | (with_reducible assumption) | assumption)) HC1.out
                                                have hl39 := Aside0.mk (show (l1.take ((ji22) : Int).toNat).length = ((ji22) : Int).toNat from by have q0_ : 0 ≤ (ji22) := (of_decide_eq_true (by first | (with_reducible assumption) | assumption)); have q1_ : (ji22) ≤ (l1.length : Int) := (of_decide_eq_true (by first | (with_reducible assumption) | assumption)); (try simp only [List.length_drop, List.length_take] at q0_ q1_); (try simp only [List.length_drop, List.length_take] at q2_); simp only [List.length_drop, List.length_take]; first | done | omega)
                                                (try rw [hl39.out] at hcut39)
                                                have HR308 := Aside0.mk (Kd.C_of_reads (h1 := fun _ => rfl) (hA39 _ (Kd.reads_of_C HR1.out)))
                                                have HC308 := Aside0.mk hC39
                                                clear hA39 hC39 hi039 hsz39
                                                refine start_ (n := 20) (S := fun w' => True) (ds := []) #[false, false, false, false, false, false, false, false, false, false, false, false, false, false, false, false, false, false, false, false] (by kernel_rfl) rfl rfl trivial (fun hHeld => ?_); refine with_tabW transeptlaw04_FrameFirst.tab8 transeptlaw04_FrameFirst.bits8 (fun HT_ HW_ => ?_)
                                                generalize wc.drew = w37 at HO_6 HB HR304 HR308 hHeld ⊢
                                                refine pure_ (i := 1) (N := some 50) (v := ?_) (a' := ?_) #[false, true, false, false, false, false, false, false, false, false, false, false, false, false, false, false, false, false, false, false] rfl rfl (any_of HT_.out (by kernel_rfl)) (fun _ _ _ h => h) (Or.inl ⟨by rfl, ?_⟩) ?_ ?_
                                                rotate_left
                                                · intro w'
                                                  go_simp
                                                  with_reducible rfl
                                                rotate_left
                                                · simp only [Act.put, List.setIfInBounds_toArray, List.set_cons_zero, List.set_cons_succ, i64_w, i32_w]
                                                  rfl
                                                refine pure_ (i := 2) (N := some 51) (v := ?_) (a' := ?_) #[false, true, true, false, false, false, false, false, false, false, false, false, false, false, false, false, false, false, false, false] rfl rfl (any_of HT_.out (by kernel_rfl)) (fun _ _ _ h => h) (Or.inl ⟨by rfl, ?_⟩) ?_ ?_
                                                rotate_left
                                                · intro w'
                                                  go_simp
                                                  with_reducible rfl
                                                rotate_left
                                                · simp only [Act.put, List.setIfInBounds_toArray, List.set_cons_zero, List.set_cons_succ, i64_w, i32_w]
                                                  rfl
                                                refine pure_ (i := 3) (N := some 52) (v := ?_) (a' := ?_) #[false, true, true, true, false, false, false, false, false, false, false, false, false, false, false, false, false, false, false, false] rfl rfl (any_of HT_.out (by kernel_rfl)) (fun _ _ _ h => h) (Or.inl ⟨by rfl, ?_⟩) ?_ ?_
                                                rotate_left
                                                · intro w'
                                                  go_simp
                                                  with_reducible rfl
                                                rotate_left
                                                · simp only [Act.put, List.setIfInBounds_toArray, List.set_cons_zero, List.set_cons_succ, i64_w, i32_w]
                                                  rfl
                                                refine pure_ (i := 4) (N := some 53) (v := ?_) (a' := ?_) #[false, true, true, true, true, false, false, false, false, false, false, false, false, false, false, false, false, false, false, false] rfl rfl (any_of HT_.out (by kernel_rfl)) (fun _ _ _ h => h) (Or.inl ⟨by rfl, ?_⟩) ?_ ?_
                                                rotate_left
                                                · intro w'
                                                  go_simp
                                                  with_reducible rfl
                                                rotate_left
                                                · simp only [Act.put, List.setIfInBounds_toArray, List.set_cons_zero, List.set_cons_succ, i64_w, i32_w]
                                                  rfl
                                                refine pure_ (i := 6) (N := some 55) (v := ?_) (a' := ?_) #[false, true, true, true, true, false, true, false, false, false, false, false, false, false, false, false, false, false, false, false] rfl rfl (any_of HT_.out (by kernel_rfl)) (fun _ _ _ h => h) (Or.inl ⟨by rfl, ?_⟩) ?_ ?_
                                                rotate_left
                                                · intro w'
                                                  go_simp
                                                  with_reducible rfl
                                                rotate_left
                                                · simp only [Act.put, List.setIfInBounds_toArray, List.set_cons_zero, List.set_cons_succ, i64_w, i32_w]
                                                  rfl
                                                refine pure_ (i := 7) (N := some 56) (v := ?_) (a' := ?_) #[false, true, true, true, true, false, true, true, false, false, false, false, false, false, false, false, false, false, false, false] rfl rfl (any_of HT_.out (by kernel_rfl)) (fun _ _ _ h => h) (Or.inl ⟨by rfl, ?_⟩) ?_ ?_
                                                rotate_left
                                                · intro w'
                                                  go_simp
                                                  with_reducible rfl
                                                rotate_left
                                                · simp only [Act.put, List.setIfInBounds_toArray, List.set_cons_zero, List.set_cons_succ, i64_w, i32_w]
                                                  rfl
                                                refine pure_ (i := 8) (N := some 57) (v := ?_) (a' := ?_) #[false, true, true, true, true, false, true, true, true, false, false, false, false, false, false, false, false, false, false, false] rfl rfl (any_of HT_.out (by kernel_rfl)) (fun _ _ _ h => h) (Or.inl ⟨by rfl, ?_⟩) ?_ ?_
                                                rotate_left
                                                · intro w'
                                                  go_simp
                                                  with_reducible rfl
                                                rotate_left
                                                · simp only [Act.put, List.setIfInBounds_toArray, List.set_cons_zero, List.set_cons_succ, i64_w, i32_w]
                                                  rfl
                                                refine pure_ (i := 9) (N := some 58) (v := ?_) (a' := ?_) #[false, true, true, true, true, false, true, true, true, true, false, false, false, false, false, false, false, false, false, false] rfl rfl (any_of HT_.out (by kernel_rfl)) (fun _ _ _ h => h) (Or.inl ⟨by rfl, ?_⟩) ?_ ?_
                                                rotate_left
                                                · intro w'
                                                  go_simp
                                                  with_reducible rfl
                                                rotate_left
                                                · simp only [Act.put, List.setIfInBounds_toArray, List.set_cons_zero, List.set_cons_succ, i64_w, i32_w]
                                                  rfl
                                                refine pure_ (i := 10) (N := some 59) (v := ?_) (a' := ?_) #[false, true, true, true, true, false, true, true, true, true, true, false, false, false, false, false, false, false, false, false] rfl rfl (any_of HT_.out (by kernel_rfl)) (fun _ _ _ h => h) (Or.inl ⟨by rfl, ?_⟩) ?_ ?_
                                                rotate_left
                                                · intro w'
                                                  go_simp
                                                  with_reducible rfl
                                                rotate_left
                                                · simp only [Act.put, List.setIfInBounds_toArray, List.set_cons_zero, List.set_cons_succ, i64_w, i32_w]
                                                  rfl
                                                refine one_ (i := 0) (N := some 49) #[true, true, true, true, true, false, true, true, true, true, true, false, false, false, false, false, false, false, false, false] rfl rfl (one_of HT_.out (by kernel_rfl)) (by decide) (fun K hK => ?_)
                                                refine Kd.R_lit_step (Kd.int .u8) _ 5 ?hg (N := 49) ?hd (xs := ([] : List Int)) (inner := []) (ok := fun _ => True) (okp := fun _ => True) ?hr ?hp (fun _ hk => hk) trivial (Below.refl _ _) (Nat.le_refl _) (by simp) ?_; (case hd => rfl); (case hg => rfl); (case hr => first | (go_simp; done) | (go_simp; rfl)); (case hp => exact (Reps.none _ _))
                                                intro v302 w40 ho41 hb hg_ hnew_
                                                clear hg_ hnew_
                                                (first | rw [← Ny301.out] at ho41 | (simp only [Int.reduceToNat] at ho41; rw [← Ny301.out] at ho41))
                                                have n0_ := Aside0.mk (Kd.S_elder' (by (with_reducible repeat (first | apply Kd.S_alloc | apply Kd.S_drewN | apply Kd.S_drew)); exact HO_6.out) (Kd.R_base ho41) hb)
                                                have n1_ := Aside0.mk (Kd.R_lower ho41 (below_size (by repeat (first | (with_reducible first | exact HB.out | apply below_alloc | apply pw_below_drewN | apply below_drew1) | exact HB.out))))
                                                have n2_ := Aside0.mk (below_step (by repeat (first | (with_reducible first | exact HB.out | apply below_alloc | apply pw_below_drewN | apply below_drew1) | exact HB.out)) hb)
                                                clear HO_6
                                                clear HB
                                                have HO_6 := n0_
                                                have HO303 := n1_
                                                have HB := n2_
                                                clear n0_ n1_ n2_
                                                clear hb ho41
                                                refine hK.out _ _ trivial (fun hHeld => ?_)
                                                clear hK K
                                                refine norm_ (a' := ?_) ?_ ?_
                                                rotate_left
                                                · show Act.put _ (some 49) _ = _
                                                  simp only [Act.put, List.setIfInBounds_toArray, List.set_cons_zero, List.set_cons_succ, i64_w, i32_w]
                                                  rfl
                                                refine one_ (i := 5) (N := some 54) #[true, true, true, true, true, true, true, true, true, true, true, false, false, false, false, false, false, false, false, false] rfl rfl (one_of HT_.out (by kernel_rfl)) (by decide) (fun K hK => ?_)
                                                refine Kd.R_append_rows_step (Kd.int .u8) (w0 := w) w.heap.size (by rfl) (.tmp 49) (.tmp 53) 22 5 (.int .u8 0) 1 rfl Tryd.underlying22 info5 rfl (by decide) (by omega) v302 y301 ((l0.take ((ji4) : Int).toNat).take ((ji18) : Int).toNat) _ _ _ (fun _ => True) (fun _ => False) rfl rfl ?aO ?aR (fun _ _ h => h) (fun _ h => h.elim) ?aF ?aB ?aS ?aL ?_
                                                (case aR => first | (refine Kd_C_len (show ((l0.take ((ji4) : Int).toNat).take ((ji18) : Int).toNat).length = (ji18).toNat from (by rw [List.length_take]; have h_ : ((ji18) : Int) ≤ ((l0.take ((ji4) : Int).toNat).length : Int) := of_decide_eq_true (by first | (with_reducible assumption) | assumption); omega)) ?_; repeat (first | exact (Kd.C_below HR304.out HB.out) | (with_reducible refine Kd.C_alloc ?_ _) | (with_reducible refine Kd.C_drewN ?_ _) | (with_reducible refine Kd.C_drew ?_))) | (repeat (first | exact (Kd.C_below HR304.out HB.out) | (with_reducible refine Kd.C_alloc ?_ _) | (with_reducible refine Kd.C_drewN ?_ _) | (with_reducible refine Kd.C_drew ?_))))
                                                (case aB => exact (by repeat (first | (with_reducible first | exact HB.out | apply below_alloc | apply pw_below_drewN | apply below_drew1) | exact HB.out)))
                                                (case aF => exact (fun _ _ => trivial))
                                                (case aO => exact (by (with_reducible repeat (first | apply Kd.R_alloc | apply Kd.R_drewN | apply Kd.R_drew)); exact HO303.out))
                                                (case aS => exact (below_size (by repeat (first | (with_reducible first | exact HB.out | apply below_alloc | apply pw_below_drewN | apply below_drew1) | exact HB.out))))
                                                (case aL => have := LMc21.out; have hlx_ := (show ((l0.take ((ji4) : Int).toNat).take ((ji18) : Int).toNat).length = (ji18).toNat from (by rw [List.length_take]; have h_ : ((ji18) : Int) ≤ ((l0.take ((ji4) : Int).toNat).length : Int) := of_decide_eq_true (by first | (with_reducible assumption) | assumption); omega)); omega)
                                                intro v306 w42 ho hb hg hat
                                                rw [← Ny305.out] at ho
                                                have n0_ := Aside0.mk (Kd.S_after (ok := (fun _ => True)) (by (with_reducible repeat (first | apply Kd.S_alloc | apply Kd.S_drewN | apply Kd.S_drew)); exact HO_6.out) hg hat)
                                                have n1_ := Aside0.mk (hb)
                                                have n2_ := Aside0.mk (ho)
                                                clear HO_6
                                                clear HB
                                                clear HO303
                                                have HO_6 := n0_
                                                have HB := n1_
                                                have HO307 := n2_
                                                clear n0_ n1_ n2_
                                                clear ho hb hg hat
                                                refine hK.out _ _ trivial (fun hHeld => ?_)
                                                clear hK K
                                                refine norm_ (a' := ?_) ?_ ?_
                                                rotate_left
                                                · show Act.put _ (some 54) _ = _
                                                  simp only [Act.put, List.setIfInBounds_toArray, List.set_cons_zero, List.set_cons_succ, i64_w, i32_w]
                                                  rfl
                                                refine one_ (i := 11) (N := some 60) #[true, true, true, true, true, true, true, true, true, true, true, true, false, false, false, false, false, false, false, false] rfl rfl (one_of HT_.out (by kernel_rfl)) (by decide) (fun K hK => ?_)
                                                refine Kd.R_append_rows_step (Kd.int .u8) (w0 := w) w.heap.size (by rfl) (.tmp 54) (.tmp 59) 22 5 (.int .u8 0) 1 rfl Tryd.underlying22 info5 rfl (by decide) (by omega) v306 y305 (l1.take ((ji22) : Int).toNat) _ _ _ (fun _ => True) (fun _ => False) rfl rfl ?aO ?aR (fun _ _ h => h) (fun _ h => h.elim) ?aF ?aB ?aS ?aL ?_
                                                (case aR => first | (refine Kd_C_len (show (l1.take ((ji22) : Int).toNat).length = (ji22).toNat from (by rw [List.length_take]; have h_ : ((ji22) : Int) ≤ (l1.length : Int) := of_decide_eq_true (by first | (with_reducible assumption) | assumption); omega)) ?_; repeat (first | exact (Kd.C_below HR308.out HB.out) | (with_reducible refine Kd.C_alloc ?_ _) | (with_reducible refine Kd.C_drewN ?_ _) | (with_reducible refine Kd.C_drew ?_))) | (repeat (first | exact (Kd.C_below HR308.out HB.out) | (with_reducible refine Kd.C_alloc ?_ _) | (with_reducible refine Kd.C_drewN ?_ _) | (with_reducible refine Kd.C_drew ?_))))
                                                (case aB => exact (by repeat (first | (with_reducible first | exact HB.out | apply below_alloc | apply pw_below_drewN | apply below_drew1) | exact HB.out)))
                                                (case aF => exact (fun _ _ => trivial))
                                                (case aO => exact (by (with_reducible repeat (first | apply Kd.R_alloc | apply Kd.R_drewN | apply Kd.R_drew)); exact HO307.out))
                                                (case aS => exact (below_size (by repeat (first | (with_reducible first | exact HB.out | apply below_alloc | apply pw_below_drewN | apply below_drew1) | exact HB.out))))
                                                (case aL => have := LMc25.out; have hlx_ := (show (l1.take ((ji22) : Int).toNat).length = (ji22).toNat from (by rw [List.length_take]; have h_ : ((ji22) : Int) ≤ (l1.length : Int) := of_decide_eq_true (by first | (with_reducible assumption) | assumption); omega)); omega)
                                                intro v310 w43 ho hb hg hat
                                                rw [← Ny309.out] at ho
                                                have n0_ := Aside0.mk (Kd.S_after (ok := (fun _ => True)) (by (with_reducible repeat (first | apply Kd.S_alloc | apply Kd.S_drewN | apply Kd.S_drew)); exact HO_6.out) hg hat)
                                                have n1_ := Aside0.mk (hb)
                                                have n2_ := Aside0.mk (ho)
                                                clear HO_6
                                                clear HB
                                                clear HO307
                                                have HO_6 := n0_
                                                have HB := n1_
                                                have HO311 := n2_
                                                clear n0_ n1_ n2_
                                                clear ho hb hg hat
                                                obtain ⟨Ao44, co44, eo44⟩ := Kd.R_slice HO311.out
                                                (first | subst eo44 | (injection eo44 with f1_ f2_ f3_; have f4_ := f1_.symm; have f5_ := f3_.symm; clear f1_ f2_ f3_; subst f4_; subst f5_))
                                                refine hK.out _ _ trivial (fun hHeld => ?_)
                                                clear hK K
                                                refine norm_ (a' := ?_) ?_ ?_
                                                rotate_left
                                                · show Act.put _ (some 60) _ = _
                                                  simp only [Act.put, List.setIfInBounds_toArray, List.set_cons_zero, List.set_cons_succ, i64_w, i32_w]
                                                  rfl
                                                refine one_ (i := 12) (N := some 61) #[true, true, true, true, true, true, true, true, true, true, true, true, true, false, false, false, false, false, false, false] rfl rfl (one_of HT_.out (by kernel_rfl)) (by decide) (fun K hK => ?_)
                                                refine goes_ Tryd.func14 (by kernel_rfl) rfl #[.slice Ao44 y309.length co44] (by rfl) rfl rfl (by (try simp only [List.map_toArray, List.map_cons, List.map_nil]); first | done | rfl | (simp only [List.length_drop, List.length_take]; rfl)) ?_
                                                with_reducible refine (frame_Split.calls _ _ y309 t312 t313 t314 _ ?side3 ?side1 ?side2 A26.out).mono ?_
                                                (case side1 => repeat (first | exact (Kd.R_reads' HO311.out).2.2 | (with_reducible refine Kd.C_alloc ?_ _) | (with_reducible refine Kd.C_drewN ?_ _) | (with_reducible refine Kd.C_drew ?_)))
                                                (case side2 => exact (Kd.R_reads' HO311.out).2.1)
                                                (case side3 => first | exact HG.out | exact Glob.below HG.out HB.out | exact Glob.drewN (Glob.below HG.out HB.out) _ | exact Glob.drewN HG.out _ | (refine Glob.below HG.out ?_; (repeat (first | (with_reducible first | exact HB.out | apply below_alloc | apply pw_below_drewN | apply below_drew1) | exact HB.out)); done) | (repeat (first | exact HG.out | (with_reducible refine Glob.drewN ?_ _) | (with_reducible refine Glob.drew ?_) | (with_reducible refine Glob.alloc ?_ _)); done))
                                                rintro e w45 ⟨v315, rfl, ho0, hb⟩
                                                refine ⟨_, rfl, ?_⟩
                                                have n0_ := Aside0.mk (Kd.S_elder' (by (with_reducible repeat (first | apply Kd.S_alloc | apply Kd.S_drewN | apply Kd.S_drew)); exact HO_6.out) (Kd.S_base ho0) hb)
                                                have n1_ := Aside0.mk (Kd.R_below (by (with_reducible repeat (first | apply Kd.R_alloc | apply Kd.R_drewN | apply Kd.R_drew)); exact HO311.out) hb)
                                                have n2_ := Aside0.mk (Kd.S_lower (Kd.S_new' (Kd.S_new' ho0 (Kd.S_lt (by (with_reducible repeat (first | apply Kd.S_alloc | apply Kd.S_drewN | apply Kd.S_drew)); exact HO_6.out))) (Kd.R_lt (by (with_reducible repeat (first | apply Kd.R_alloc | apply Kd.R_drewN | apply Kd.R_drew)); exact HO311.out))) (below_size (by repeat (first | (with_reducible first | exact HB.out | apply below_alloc | apply pw_below_drewN | apply below_drew1) | exact HB.out))))
                                                have n3_ := Aside0.mk (below_step (by repeat (first | (with_reducible first | exact HB.out | apply below_alloc | apply pw_below_drewN | apply below_drew1) | exact HB.out)) hb)
                                                clear HO_6
                                                clear HO311
                                                clear HB
                                                have HO_6 := n0_
                                                have HO311 := n1_
                                                have HO316 := n2_
                                                have HB := n3_
                                                clear n0_ n1_ n2_ n3_
                                                (try clear hb)
                                                (try clear hb2)
                                                (try clear hk)
                                                (try clear hi)
                                                (try clear ho0)
                                                refine hK.out _ _ trivial (fun hHeld => ?_)
                                                clear hK K
                                                refine norm_ (a' := ?_) ?_ ?_
                                                rotate_left
                                                · show Act.put _ (some 61) _ = _
                                                  simp only [Act.put, List.setIfInBounds_toArray, List.set_cons_zero, List.set_cons_succ, i64_w, i32_w]
                                                  rfl
                                                refine pure_ (i := 13) (N := some 48) (v := ?_) (a' := ?_) #[true, true, true, true, true, true, true, true, true, true, true, true, true, true, false, false, false, false, false, false] rfl rfl (any_of HT_.out (by kernel_rfl)) (fun _ _ _ h => h) (Or.inl ⟨by rfl, ?_⟩) ?_ ?_
                                                rotate_left
                                                · intro w'
                                                  go_simp
                                                  with_reducible rfl
                                                rotate_left
                                                · simp only [Act.put, List.setIfInBounds_toArray, List.set_cons_zero, List.set_cons_succ, i64_w, i32_w]
                                                  rfl
                                                refine pure_ (i := 14) (N := some 62) (v := ?_) (a' := ?_) #[true, true, true, true, true, true, true, true, true, true, true, true, true, true, true, false, false, false, false, false] rfl rfl (any_of HT_.out (by kernel_rfl)) (fun _ _ _ h => h) (Or.inl ⟨by rfl, ?_⟩) ?_ ?_
                                                rotate_left
                                                · intro w'
                                                  go_simp
                                                  with_reducible rfl
                                                rotate_left
                                                · simp only [Act.put, List.setIfInBounds_toArray, List.set_cons_zero, List.set_cons_succ, i64_w, i32_w]
                                                  rfl
                                                refine pure_ (i := 15) (N := some 63) (v := ?_) (a' := ?_) #[true, true, true, true, true, true, true, true, true, true, true, true, true, true, true, true, false, false, false, false] rfl rfl (any_of HT_.out (by kernel_rfl)) (fun _ _ _ h => h) (Or.inl ⟨by rfl, ?_⟩) ?_ ?_
                                                rotate_left
                                                · intro w'
                                                  go_simp
                                                  with_reducible rfl
                                                rotate_left
                                                · simp only [Act.put, List.setIfInBounds_toArray, List.set_cons_zero, List.set_cons_succ, i64_w, i32_w]
                                                  rfl
                                                refine pure_ (i := 16) (N := some 64) (v := ?_) (a' := ?_) #[true, true, true, true, true, true, true, true, true, true, true, true, true, true, true, true, true, false, false, false] rfl rfl (any_of HT_.out (by kernel_rfl)) (fun _ _ _ h => h) (Or.inl ⟨by rfl, ?_⟩) ?_ ?_
                                                rotate_left
                                                · intro w'
                                                  go_simp
                                                  with_reducible rfl
                                                rotate_left
                                                · simp only [Act.put, List.setIfInBounds_toArray, List.set_cons_zero, List.set_cons_succ, i64_w, i32_w]
                                                  rfl
                                                refine pure_ (i := 17) (N := some 9) (v := ?_) (a' := ?_) #[true, true, true, true, true, true, true, true, true, true, true, true, true, true, true, true, true, true, false, false] rfl rfl (any_of HT_.out (by kernel_rfl)) (fun _ _ _ h => h) (Or.inl ⟨by rfl, ?_⟩) ?_ ?_
                                                rotate_left
                                                · intro w'
                                                  go_simp
                                                  with_reducible rfl
                                                rotate_left
                                                · simp only [Act.put, List.setIfInBounds_toArray, List.set_cons_zero, List.set_cons_succ, i64_w, i32_w]
                                                  rfl
                                                refine pure_ (i := 18) (N := some 10) (v := ?_) (a' := ?_) #[true, true, true, true, true, true, true, true, true, true, true, true, true, true, true, true, true, true, true, false] rfl rfl (any_of HT_.out (by kernel_rfl)) (fun _ _ _ h => h) (Or.inl ⟨by rfl, ?_⟩) ?_ ?_
                                                rotate_left
                                                · intro w'
                                                  go_simp
                                                  with_reducible rfl
                                                rotate_left
                                                · simp only [Act.put, List.setIfInBounds_toArray, List.set_cons_zero, List.set_cons_succ, i64_w, i32_w]
                                                  rfl
                                                refine pure_ (i := 19) (N := some 11) (v := ?_) (a' := ?_) #[true, true, true, true, true, true, true, true, true, true, true, true, true, true, true, true, true, true, true, true] rfl rfl (any_of HT_.out (by kernel_rfl)) (fun _ _ _ h => h) (Or.inl ⟨by rfl, ?_⟩) ?_ ?_
                                                rotate_left
                                                · intro w'
                                                  go_simp
                                                  with_reducible rfl
                                                rotate_left
                                                · simp only [Act.put, List.setIfInBounds_toArray, List.set_cons_zero, List.set_cons_succ, i64_w, i32_w]
                                                  rfl
                                                refine done_ (done_of HT_.out (by kernel_rfl)) ?_
                                                obtain ⟨i046, hi046, _, hsz46, _⟩ := info_parts info5
                                                obtain ⟨hcut46, hA46, hC46⟩ := print_take_of (P := Tryd.prog) (Value.int .u8) 0 22 5 .i64 Tryd.underlying22 hi046 hsz46 A0 c0 (l0.take ((ji4) : Int).toNat) t297 (of_decide_eq_true (by first | (with_reducible assumption) | assumption)) (of_decide_eq_true (by first | (with_reducible assumption) | assumption)) HC295.out
                                                have hl46 := Aside0.mk (show ((l0.take ((ji4) : Int).toNat).take (t297 : Int).toNat).length = (t297 : Int).toNat from by have q0_ : 0 ≤ t297 := (of_decide_eq_true (by first | (with_reducible assumption) | assumption)); have q1_ : t297 ≤ ((l0.take ((ji4) : Int).toNat).length : Int) := (of_decide_eq_true (by first | (with_reducible assumption) | assumption)); have z_ := hl10.out; (try rw [List.length_drop] at z_); (try rw [List.length_take] at z_); (try simp only [List.length_drop, List.length_take] at q0_ q1_); (try simp only [List.length_drop, List.length_take] at q2_); simp only [List.length_drop, List.length_take]; first | done | omega)
                                                (try rw [hl10.out] at hcut46)
                                                (try rw [hl46.out] at hcut46)
                                                have HR317 := Aside0.mk (Kd.C_of_reads (h1 := fun _ => rfl) (hA46 _ (Kd.reads_of_C HR295.out)))
                                                have HC317 := Aside0.mk hC46
                                                clear hA46 hC46 hi046 hsz46
                                                try go_wp2_with (first | ((with_reducible refine gate_callee (f := 14) rfl ?_); refine goesL_ (some 69) rfl rfl Tryd.func14 (by kernel_rfl) rfl #[.slice A0 ((l0.take ((ji4) : Int).toNat).take (t297 : Int).toNat).length c0] rfl (by (try simp only [List.map_toArray, List.map_cons, List.map_nil]); first | done | (rw [show ((l0.take ((ji4) : Int).toNat).take (t297 : Int).toNat).length = t297.toNat from (by rw [List.length_take]; have h_ : (t297 : Int) ≤ ((l0.take ((ji4) : Int).toNat).length : Int) := of_decide_eq_true (by first | (with_reducible assumption) | assumption); omega)] <;> rfl) | (simp only [hji4]; rfl) | rfl | (simp only [List.length_drop, List.length_take]; rfl)) ?_; (with_reducible refine (frame_Split.calls _ _ ((l0.take ((ji4) : Int).toNat).take (t297 : Int).toNat) t318 t319 t320 _ ?side3 ?side1 ?side2 A29.out).mono ?_); (case side1 => repeat (first | exact (Kd.C_below HR317.out HB.out) | (with_reducible refine Kd.C_alloc ?_ _) | (with_reducible refine Kd.C_drewN ?_ _) | (with_reducible refine Kd.C_drew ?_))); (case side2 => exact HC317.out); (case side3 => first | exact HG.out | exact Glob.below HG.out HB.out | exact Glob.drewN (Glob.below HG.out HB.out) _ | exact Glob.drewN HG.out _ | (refine Glob.below HG.out ?_; (repeat (first | (with_reducible first | exact HB.out | apply below_alloc | apply pw_below_drewN | apply below_drew1) | exact HB.out)); done) | (repeat (first | exact HG.out | (with_reducible refine Glob.drewN ?_ _) | (with_reducible refine Glob.drew ?_) | (with_reducible refine Glob.alloc ?_ _)); done)); rintro e w47 ⟨v321, rfl, ho0, hb⟩; refine ⟨_, rfl, ?_⟩; have n0_ := Aside0.mk (Kd.S_elder' (by (with_reducible repeat (first | apply Kd.S_alloc | apply Kd.S_drewN | apply Kd.S_drew)); exact HO_6.out) (Kd.S_base ho0) hb); have n1_ := Aside0.mk (Kd.R_below (by (with_reducible repeat (first | apply Kd.R_alloc | apply Kd.R_drewN | apply Kd.R_drew)); exact HO311.out) hb); have n2_ := Aside0.mk (Kd.S_elder' (by (with_reducible repeat (first | apply Kd.S_alloc | apply Kd.S_drewN | apply Kd.S_drew)); exact HO316.out) (Kd.S_base ho0) hb); have n3_ := Aside0.mk (Kd.S_lower (Kd.S_new' (Kd.S_new' (Kd.S_new' ho0 (Kd.S_lt (by (with_reducible repeat (first | apply Kd.S_alloc | apply Kd.S_drewN | apply Kd.S_drew)); exact HO_6.out))) (Kd.R_lt (by (with_reducible repeat (first | apply Kd.R_alloc | apply Kd.R_drewN | apply Kd.R_drew)); exact HO311.out))) (Kd.S_lt (by (with_reducible repeat (first | apply Kd.S_alloc | apply Kd.S_drewN | apply Kd.S_drew)); exact HO316.out))) (below_size (by repeat (first | (with_reducible first | exact HB.out | apply below_alloc | apply pw_below_drewN | apply below_drew1) | exact HB.out)))); have n4_ := Aside0.mk (below_step (by repeat (first | (with_reducible first | exact HB.out | apply below_alloc | apply pw_below_drewN | apply below_drew1) | exact HB.out)) hb); clear HO_6; clear HO311; clear HO316; clear HB; have HO_6 := n0_; have HO311 := n1_; have HO316 := n2_; have HO322 := n3_; have HB := n4_; clear n0_ n1_ n2_ n3_ n4_; (try clear hb); (try clear hb2); (try clear hk); (try clear hi); (try clear ho0); obtain ⟨Ao48, co48, eo48⟩ := Kd.S_slice HO316.out; subst eo48; obtain ⟨Ao49, co49, eo49⟩ := Kd.S_slice HO_6.out; subst eo49; obtain ⟨Ao50, co50, eo50⟩ := Kd.S_slice HO322.out; subst eo50))
                                                go_ret
                                                exact ⟨by first | rfl | (simp [errW_none, errW_some] <;> rfl) | (simp only [← hji4, ← hji18, ← hji22]; first | rfl | (simp [errW_none, errW_some] <;> rfl)) | (simp [*, errW_none, errW_some] <;> rfl), by repeat (first | (with_reducible first | exact HB.out | apply below_alloc | apply pw_below_drewN | apply below_drew1) | exact HB.out)⟩
                                              · rw [if_neg c36] at H
                                                have c36b0 : (t320 == 0) = false := beq_eq_false_iff_ne.mpr c36
                                                have c36b1 : (t320 != 0) = true := bne_iff_ne.mpr c36
                                                obtain rfl := Option.some.inj H
                                                try go_wp2
                                                have n0_ := Aside0.mk (Kd.S_drew HO_6.out)
                                                have n1_ := Aside0.mk (below_drew1 HB.out)
                                                clear HO_6
                                                clear HB
                                                have HO_6 := n0_
                                                have HB := n1_
                                                clear n0_ n1_
                                                obtain ⟨i052, hi052, _, hsz52, _⟩ := info_parts info5
                                                obtain ⟨hcut52, hA52, hC52⟩ := print_take_of (P := Tryd.prog) (Value.int .u8) 0 22 5 .i64 Tryd.underlying22 hi052 hsz52 A0 c0 (l0.take ((ji4) : Int).toNat) (ji18) (of_decide_eq_true (by first | (with_reducible assumption) | assumption)) (of_decide_eq_true (by first | (with_reducible assumption) | assumption)) HC295.out
                                                have hl52 := Aside0.mk (show ((l0.take ((ji4) : Int).toNat).take ((ji18) : Int).toNat).length = ((ji18) : Int).toNat from by have q0_ : 0 ≤ (ji18) := (of_decide_eq_true (by first | (with_reducible assumption) | assumption)); have q1_ : (ji18) ≤ ((l0.take ((ji4) : Int).toNat).length : Int) := (of_decide_eq_true (by first | (with_reducible assumption) | assumption)); have z_ := hl10.out; (try rw [List.length_drop] at z_); (try rw [List.length_take] at z_); (try simp only [List.length_drop, List.length_take] at q0_ q1_); (try simp only [List.length_drop, List.length_take] at q2_); simp only [List.length_drop, List.length_take]; first | done | omega)
                                                (try rw [hl10.out] at hcut52)
                                                (try rw [hl52.out] at hcut52)
                                                have HR304 := Aside0.mk (Kd.C_of_reads (h1 := fun _ => rfl) (hA52 _ (Kd.reads_of_C HR295.out)))
                                                have HC304 := Aside0.mk hC52
                                                clear hA52 hC52 hi052 hsz52
                                                obtain ⟨i053, hi053, _, hsz53, _⟩ := info_parts info5
                                                obtain ⟨hcut53, hA53, hC53⟩ := print_take_of (P := Tryd.prog) (Value.int .u8) 0 22 5 .i64 Tryd.underlying22 hi053 hsz53 A1 c1 l1 (ji22) (of_decide_eq_true (by first | (with_reducible assumption) | assumption)) (of_decide_eq_true (by first | (with_reducible assumption) | assumption)) HC1.out
                                                have hl53 := Aside0.mk (show (l1.take ((ji22) : Int).toNat).length = ((ji22) : Int).toNat from by have q0_ : 0 ≤ (ji22) := (of_decide_eq_true (by first | (with_reducible assumption) | assumption)); have q1_ : (ji22) ≤ (l1.length : Int) := (of_decide_eq_true (by first | (with_reducible assumption) | assumption)); (try simp only [List.length_drop, List.length_take] at q0_ q1_); (try simp only [List.length_drop, List.length_take] at q2_); simp only [List.length_drop, List.length_take]; first | done | omega)
                                                (try rw [hl53.out] at hcut53)
                                                have HR308 := Aside0.mk (Kd.C_of_reads (h1 := fun _ => rfl) (hA53 _ (Kd.reads_of_C HR1.out)))
                                                have HC308 := Aside0.mk hC53
                                                clear hA53 hC53 hi053 hsz53
                                                refine start_ (n := 20) (S := fun w' => True) (ds := []) #[false, false, false, false, false, false, false, false, false, false, false, false, false, false, false, false, false, false, false, false] (by kernel_rfl) rfl rfl trivial (fun hHeld => ?_); refine with_tabW transeptlaw04_FrameFirst.tab8 transeptlaw04_FrameFirst.bits8 (fun HT_ HW_ => ?_)
                                                generalize wc.drew = w51 at HO_6 HB HR304 HR308 hHeld ⊢
                                                refine pure_ (i := 1) (N := some 50) (v := ?_) (a' := ?_) #[false, true, false, false, false, false, false, false, false, false, false, false, false, false, false, false, false, false, false, false] rfl rfl (any_of HT_.out (by kernel_rfl)) (fun _ _ _ h => h) (Or.inl ⟨by rfl, ?_⟩) ?_ ?_
                                                rotate_left
                                                · intro w'
                                                  go_simp
                                                  with_reducible rfl
                                                rotate_left
                                                · simp only [Act.put, List.setIfInBounds_toArray, List.set_cons_zero, List.set_cons_succ, i64_w, i32_w]
                                                  rfl
                                                refine pure_ (i := 2) (N := some 51) (v := ?_) (a' := ?_) #[false, true, true, false, false, false, false, false, false, false, false, false, false, false, false, false, false, false, false, false] rfl rfl (any_of HT_.out (by kernel_rfl)) (fun _ _ _ h => h) (Or.inl ⟨by rfl, ?_⟩) ?_ ?_
                                                rotate_left
                                                · intro w'
                                                  go_simp
                                                  with_reducible rfl
                                                rotate_left
                                                · simp only [Act.put, List.setIfInBounds_toArray, List.set_cons_zero, List.set_cons_succ, i64_w, i32_w]
                                                  rfl
                                                refine pure_ (i := 3) (N := some 52) (v := ?_) (a' := ?_) #[false, true, true, true, false, false, false, false, false, false, false, false, false, false, false, false, false, false, false, false] rfl rfl (any_of HT_.out (by kernel_rfl)) (fun _ _ _ h => h) (Or.inl ⟨by rfl, ?_⟩) ?_ ?_
                                                rotate_left
                                                · intro w'
                                                  go_simp
                                                  with_reducible rfl
                                                rotate_left
                                                · simp only [Act.put, List.setIfInBounds_toArray, List.set_cons_zero, List.set_cons_succ, i64_w, i32_w]
                                                  rfl
                                                refine pure_ (i := 4) (N := some 53) (v := ?_) (a' := ?_) #[false, true, true, true, true, false, false, false, false, false, false, false, false, false, false, false, false, false, false, false] rfl rfl (any_of HT_.out (by kernel_rfl)) (fun _ _ _ h => h) (Or.inl ⟨by rfl, ?_⟩) ?_ ?_
                                                rotate_left
                                                · intro w'
                                                  go_simp
                                                  with_reducible rfl
                                                rotate_left
                                                · simp only [Act.put, List.setIfInBounds_toArray, List.set_cons_zero, List.set_cons_succ, i64_w, i32_w]
                                                  rfl
                                                refine pure_ (i := 6) (N := some 55) (v := ?_) (a' := ?_) #[false, true, true, true, true, false, true, false, false, false, false, false, false, false, false, false, false, false, false, false] rfl rfl (any_of HT_.out (by kernel_rfl)) (fun _ _ _ h => h) (Or.inl ⟨by rfl, ?_⟩) ?_ ?_
                                                rotate_left
                                                · intro w'
                                                  go_simp
                                                  with_reducible rfl
                                                rotate_left
                                                · simp only [Act.put, List.setIfInBounds_toArray, List.set_cons_zero, List.set_cons_succ, i64_w, i32_w]
                                                  rfl
                                                refine pure_ (i := 7) (N := some 56) (v := ?_) (a' := ?_) #[false, true, true, true, true, false, true, true, false, false, false, false, false, false, false, false, false, false, false, false] rfl rfl (any_of HT_.out (by kernel_rfl)) (fun _ _ _ h => h) (Or.inl ⟨by rfl, ?_⟩) ?_ ?_
                                                rotate_left
                                                · intro w'
                                                  go_simp
                                                  with_reducible rfl
                                                rotate_left
                                                · simp only [Act.put, List.setIfInBounds_toArray, List.set_cons_zero, List.set_cons_succ, i64_w, i32_w]
                                                  rfl
                                                refine pure_ (i := 8) (N := some 57) (v := ?_) (a' := ?_) #[false, true, true, true, true, false, true, true, true, false, false, false, false, false, false, false, false, false, false, false] rfl rfl (any_of HT_.out (by kernel_rfl)) (fun _ _ _ h => h) (Or.inl ⟨by rfl, ?_⟩) ?_ ?_
                                                rotate_left
                                                · intro w'
                                                  go_simp
                                                  with_reducible rfl
                                                rotate_left
                                                · simp only [Act.put, List.setIfInBounds_toArray, List.set_cons_zero, List.set_cons_succ, i64_w, i32_w]
                                                  rfl
                                                refine pure_ (i := 9) (N := some 58) (v := ?_) (a' := ?_) #[false, true, true, true, true, false, true, true, true, true, false, false, false, false, false, false, false, false, false, false] rfl rfl (any_of HT_.out (by kernel_rfl)) (fun _ _ _ h => h) (Or.inl ⟨by rfl, ?_⟩) ?_ ?_
                                                rotate_left
                                                · intro w'
                                                  go_simp
                                                  with_reducible rfl
                                                rotate_left
                                                · simp only [Act.put, List.setIfInBounds_toArray, List.set_cons_zero, List.set_cons_succ, i64_w, i32_w]
                                                  rfl
                                                refine pure_ (i := 10) (N := some 59) (v := ?_) (a' := ?_) #[false, true, true, true, true, false, true, true, true, true, true, false, false, false, false, false, false, false, false, false] rfl rfl (any_of HT_.out (by kernel_rfl)) (fun _ _ _ h => h) (Or.inl ⟨by rfl, ?_⟩) ?_ ?_
                                                rotate_left
                                                · intro w'
                                                  go_simp
                                                  with_reducible rfl
                                                rotate_left
                                                · simp only [Act.put, List.setIfInBounds_toArray, List.set_cons_zero, List.set_cons_succ, i64_w, i32_w]
                                                  rfl
                                                refine one_ (i := 0) (N := some 49) #[true, true, true, true, true, false, true, true, true, true, true, false, false, false, false, false, false, false, false, false] rfl rfl (one_of HT_.out (by kernel_rfl)) (by decide) (fun K hK => ?_)
                                                refine Kd.R_lit_step (Kd.int .u8) _ 5 ?hg (N := 49) ?hd (xs := ([] : List Int)) (inner := []) (ok := fun _ => True) (okp := fun _ => True) ?hr ?hp (fun _ hk => hk) trivial (Below.refl _ _) (Nat.le_refl _) (by simp) ?_; (case hd => rfl); (case hg => rfl); (case hr => first | (go_simp; done) | (go_simp; rfl)); (case hp => exact (Reps.none _ _))
                                                intro v302 w54 ho55 hb hg_ hnew_
                                                clear hg_ hnew_
                                                (first | rw [← Ny301.out] at ho55 | (simp only [Int.reduceToNat] at ho55; rw [← Ny301.out] at ho55))
                                                have n0_ := Aside0.mk (Kd.S_elder' (by (with_reducible repeat (first | apply Kd.S_alloc | apply Kd.S_drewN | apply Kd.S_drew)); exact HO_6.out) (Kd.R_base ho55) hb)
                                                have n1_ := Aside0.mk (Kd.R_lower ho55 (below_size (by repeat (first | (with_reducible first | exact HB.out | apply below_alloc | apply pw_below_drewN | apply below_drew1) | exact HB.out))))
                                                have n2_ := Aside0.mk (below_step (by repeat (first | (with_reducible first | exact HB.out | apply below_alloc | apply pw_below_drewN | apply below_drew1) | exact HB.out)) hb)
                                                clear HO_6
                                                clear HB
                                                have HO_6 := n0_
                                                have HO303 := n1_
                                                have HB := n2_
                                                clear n0_ n1_ n2_
                                                clear hb ho55
                                                refine hK.out _ _ trivial (fun hHeld => ?_)
                                                clear hK K
                                                refine norm_ (a' := ?_) ?_ ?_
                                                rotate_left
                                                · show Act.put _ (some 49) _ = _
                                                  simp only [Act.put, List.setIfInBounds_toArray, List.set_cons_zero, List.set_cons_succ, i64_w, i32_w]
                                                  rfl
                                                refine one_ (i := 5) (N := some 54) #[true, true, true, true, true, true, true, true, true, true, true, false, false, false, false, false, false, false, false, false] rfl rfl (one_of HT_.out (by kernel_rfl)) (by decide) (fun K hK => ?_)
                                                refine Kd.R_append_rows_step (Kd.int .u8) (w0 := w) w.heap.size (by rfl) (.tmp 49) (.tmp 53) 22 5 (.int .u8 0) 1 rfl Tryd.underlying22 info5 rfl (by decide) (by omega) v302 y301 ((l0.take ((ji4) : Int).toNat).take ((ji18) : Int).toNat) _ _ _ (fun _ => True) (fun _ => False) rfl rfl ?aO ?aR (fun _ _ h => h) (fun _ h => h.elim) ?aF ?aB ?aS ?aL ?_
                                                (case aR => first | (refine Kd_C_len (show ((l0.take ((ji4) : Int).toNat).take ((ji18) : Int).toNat).length = (ji18).toNat from (by rw [List.length_take]; have h_ : ((ji18) : Int) ≤ ((l0.take ((ji4) : Int).toNat).length : Int) := of_decide_eq_true (by first | (with_reducible assumption) | assumption); omega)) ?_; repeat (first | exact (Kd.C_below HR304.out HB.out) | (with_reducible refine Kd.C_alloc ?_ _) | (with_reducible refine Kd.C_drewN ?_ _) | (with_reducible refine Kd.C_drew ?_))) | (repeat (first | exact (Kd.C_below HR304.out HB.out) | (with_reducible refine Kd.C_alloc ?_ _) | (with_reducible refine Kd.C_drewN ?_ _) | (with_reducible refine Kd.C_drew ?_))))
                                                (case aB => exact (by repeat (first | (with_reducible first | exact HB.out | apply below_alloc | apply pw_below_drewN | apply below_drew1) | exact HB.out)))
                                                (case aF => exact (fun _ _ => trivial))
                                                (case aO => exact (by (with_reducible repeat (first | apply Kd.R_alloc | apply Kd.R_drewN | apply Kd.R_drew)); exact HO303.out))
                                                (case aS => exact (below_size (by repeat (first | (with_reducible first | exact HB.out | apply below_alloc | apply pw_below_drewN | apply below_drew1) | exact HB.out))))
                                                (case aL => have := LMc21.out; have hlx_ := (show ((l0.take ((ji4) : Int).toNat).take ((ji18) : Int).toNat).length = (ji18).toNat from (by rw [List.length_take]; have h_ : ((ji18) : Int) ≤ ((l0.take ((ji4) : Int).toNat).length : Int) := of_decide_eq_true (by first | (with_reducible assumption) | assumption); omega)); omega)
                                                intro v306 w56 ho hb hg hat
                                                rw [← Ny305.out] at ho
                                                have n0_ := Aside0.mk (Kd.S_after (ok := (fun _ => True)) (by (with_reducible repeat (first | apply Kd.S_alloc | apply Kd.S_drewN | apply Kd.S_drew)); exact HO_6.out) hg hat)
                                                have n1_ := Aside0.mk (hb)
                                                have n2_ := Aside0.mk (ho)
                                                clear HO_6
                                                clear HB
                                                clear HO303
                                                have HO_6 := n0_
                                                have HB := n1_
                                                have HO307 := n2_
                                                clear n0_ n1_ n2_
                                                clear ho hb hg hat
                                                refine hK.out _ _ trivial (fun hHeld => ?_)
                                                clear hK K
                                                refine norm_ (a' := ?_) ?_ ?_
                                                rotate_left
                                                · show Act.put _ (some 54) _ = _
                                                  simp only [Act.put, List.setIfInBounds_toArray, List.set_cons_zero, List.set_cons_succ, i64_w, i32_w]
                                                  rfl
                                                refine one_ (i := 11) (N := some 60) #[true, true, true, true, true, true, true, true, true, true, true, true, false, false, false, false, false, false, false, false] rfl rfl (one_of HT_.out (by kernel_rfl)) (by decide) (fun K hK => ?_)
                                                refine Kd.R_append_rows_step (Kd.int .u8) (w0 := w) w.heap.size (by rfl) (.tmp 54) (.tmp 59) 22 5 (.int .u8 0) 1 rfl Tryd.underlying22 info5 rfl (by decide) (by omega) v306 y305 (l1.take ((ji22) : Int).toNat) _ _ _ (fun _ => True) (fun _ => False) rfl rfl ?aO ?aR (fun _ _ h => h) (fun _ h => h.elim) ?aF ?aB ?aS ?aL ?_
                                                (case aR => first | (refine Kd_C_len (show (l1.take ((ji22) : Int).toNat).length = (ji22).toNat from (by rw [List.length_take]; have h_ : ((ji22) : Int) ≤ (l1.length : Int) := of_decide_eq_true (by first | (with_reducible assumption) | assumption); omega)) ?_; repeat (first | exact (Kd.C_below HR308.out HB.out) | (with_reducible refine Kd.C_alloc ?_ _) | (with_reducible refine Kd.C_drewN ?_ _) | (with_reducible refine Kd.C_drew ?_))) | (repeat (first | exact (Kd.C_below HR308.out HB.out) | (with_reducible refine Kd.C_alloc ?_ _) | (with_reducible refine Kd.C_drewN ?_ _) | (with_reducible refine Kd.C_drew ?_))))
                                                (case aB => exact (by repeat (first | (with_reducible first | exact HB.out | apply below_alloc | apply pw_below_drewN | apply below_drew1) | exact HB.out)))
                                                (case aF => exact (fun _ _ => trivial))
                                                (case aO => exact (by (with_reducible repeat (first | apply Kd.R_alloc | apply Kd.R_drewN | apply Kd.R_drew)); exact HO307.out))
                                                (case aS => exact (below_size (by repeat (first | (with_reducible first | exact HB.out | apply below_alloc | apply pw_below_drewN | apply below_drew1) | exact HB.out))))
                                                (case aL => have := LMc25.out; have hlx_ := (show (l1.take ((ji22) : Int).toNat).length = (ji22).toNat from (by rw [List.length_take]; have h_ : ((ji22) : Int) ≤ (l1.length : Int) := of_decide_eq_true (by first | (with_reducible assumption) | assumption); omega)); omega)
                                                intro v310 w57 ho hb hg hat
                                                rw [← Ny309.out] at ho
                                                have n0_ := Aside0.mk (Kd.S_after (ok := (fun _ => True)) (by (with_reducible repeat (first | apply Kd.S_alloc | apply Kd.S_drewN | apply Kd.S_drew)); exact HO_6.out) hg hat)
                                                have n1_ := Aside0.mk (hb)
                                                have n2_ := Aside0.mk (ho)
                                                clear HO_6
                                                clear HB
                                                clear HO307
                                                have HO_6 := n0_
                                                have HB := n1_
                                                have HO311 := n2_
                                                clear n0_ n1_ n2_
                                                clear ho hb hg hat
                                                obtain ⟨Ao58, co58, eo58⟩ := Kd.R_slice HO311.out
                                                (first | subst eo58 | (injection eo58 with f1_ f2_ f3_; have f4_ := f1_.symm; have f5_ := f3_.symm; clear f1_ f2_ f3_; subst f4_; subst f5_))
                                                refine hK.out _ _ trivial (fun hHeld => ?_)
                                                clear hK K
                                                refine norm_ (a' := ?_) ?_ ?_
                                                rotate_left
                                                · show Act.put _ (some 60) _ = _
                                                  simp only [Act.put, List.setIfInBounds_toArray, List.set_cons_zero, List.set_cons_succ, i64_w, i32_w]
                                                  rfl
                                                refine one_ (i := 12) (N := some 61) #[true, true, true, true, true, true, true, true, true, true, true, true, true, false, false, false, false, false, false, false] rfl rfl (one_of HT_.out (by kernel_rfl)) (by decide) (fun K hK => ?_)
                                                refine goes_ Tryd.func14 (by kernel_rfl) rfl #[.slice Ao58 y309.length co58] (by rfl) rfl rfl (by (try simp only [List.map_toArray, List.map_cons, List.map_nil]); first | done | rfl | (simp only [List.length_drop, List.length_take]; rfl)) ?_
                                                with_reducible refine (frame_Split.calls _ _ y309 t312 t313 t314 _ ?side3 ?side1 ?side2 A26.out).mono ?_
                                                (case side1 => repeat (first | exact (Kd.R_reads' HO311.out).2.2 | (with_reducible refine Kd.C_alloc ?_ _) | (with_reducible refine Kd.C_drewN ?_ _) | (with_reducible refine Kd.C_drew ?_)))
                                                (case side2 => exact (Kd.R_reads' HO311.out).2.1)
                                                (case side3 => first | exact HG.out | exact Glob.below HG.out HB.out | exact Glob.drewN (Glob.below HG.out HB.out) _ | exact Glob.drewN HG.out _ | (refine Glob.below HG.out ?_; (repeat (first | (with_reducible first | exact HB.out | apply below_alloc | apply pw_below_drewN | apply below_drew1) | exact HB.out)); done) | (repeat (first | exact HG.out | (with_reducible refine Glob.drewN ?_ _) | (with_reducible refine Glob.drew ?_) | (with_reducible refine Glob.alloc ?_ _)); done))
                                                rintro e w59 ⟨v315, rfl, ho0, hb⟩
                                                refine ⟨_, rfl, ?_⟩
                                                have n0_ := Aside0.mk (Kd.S_elder' (by (with_reducible repeat (first | apply Kd.S_alloc | apply Kd.S_drewN | apply Kd.S_drew)); exact HO_6.out) (Kd.S_base ho0) hb)
                                                have n1_ := Aside0.mk (Kd.R_below (by (with_reducible repeat (first | apply Kd.R_alloc | apply Kd.R_drewN | apply Kd.R_drew)); exact HO311.out) hb)
                                                have n2_ := Aside0.mk (Kd.S_lower (Kd.S_new' (Kd.S_new' ho0 (Kd.S_lt (by (with_reducible repeat (first | apply Kd.S_alloc | apply Kd.S_drewN | apply Kd.S_drew)); exact HO_6.out))) (Kd.R_lt (by (with_reducible repeat (first | apply Kd.R_alloc | apply Kd.R_drewN | apply Kd.R_drew)); exact HO311.out))) (below_size (by repeat (first | (with_reducible first | exact HB.out | apply below_alloc | apply pw_below_drewN | apply below_drew1) | exact HB.out))))
                                                have n3_ := Aside0.mk (below_step (by repeat (first | (with_reducible first | exact HB.out | apply below_alloc | apply pw_below_drewN | apply below_drew1) | exact HB.out)) hb)
                                                clear HO_6
                                                clear HO311
                                                clear HB
                                                have HO_6 := n0_
                                                have HO311 := n1_
                                                have HO316 := n2_
                                                have HB := n3_
                                                clear n0_ n1_ n2_ n3_
                                                (try clear hb)
                                                (try clear hb2)
                                                (try clear hk)
                                                (try clear hi)
                                                (try clear ho0)
                                                refine hK.out _ _ trivial (fun hHeld => ?_)
                                                clear hK K
                                                refine norm_ (a' := ?_) ?_ ?_
                                                rotate_left
                                                · show Act.put _ (some 61) _ = _
                                                  simp only [Act.put, List.setIfInBounds_toArray, List.set_cons_zero, List.set_cons_succ, i64_w, i32_w]
                                                  rfl
                                                refine pure_ (i := 13) (N := some 48) (v := ?_) (a' := ?_) #[true, true, true, true, true, true, true, true, true, true, true, true, true, true, false, false, false, false, false, false] rfl rfl (any_of HT_.out (by kernel_rfl)) (fun _ _ _ h => h) (Or.inl ⟨by rfl, ?_⟩) ?_ ?_
                                                rotate_left
                                                · intro w'
                                                  go_simp
                                                  with_reducible rfl
                                                rotate_left
                                                · simp only [Act.put, List.setIfInBounds_toArray, List.set_cons_zero, List.set_cons_succ, i64_w, i32_w]
                                                  rfl
                                                refine pure_ (i := 14) (N := some 62) (v := ?_) (a' := ?_) #[true, true, true, true, true, true, true, true, true, true, true, true, true, true, true, false, false, false, false, false] rfl rfl (any_of HT_.out (by kernel_rfl)) (fun _ _ _ h => h) (Or.inl ⟨by rfl, ?_⟩) ?_ ?_
                                                rotate_left
                                                · intro w'
                                                  go_simp
                                                  with_reducible rfl
                                                rotate_left
                                                · simp only [Act.put, List.setIfInBounds_toArray, List.set_cons_zero, List.set_cons_succ, i64_w, i32_w]
                                                  rfl
                                                refine pure_ (i := 15) (N := some 63) (v := ?_) (a' := ?_) #[true, true, true, true, true, true, true, true, true, true, true, true, true, true, true, true, false, false, false, false] rfl rfl (any_of HT_.out (by kernel_rfl)) (fun _ _ _ h => h) (Or.inl ⟨by rfl, ?_⟩) ?_ ?_
                                                rotate_left
                                                · intro w'
                                                  go_simp
                                                  with_reducible rfl
                                                rotate_left
                                                · simp only [Act.put, List.setIfInBounds_toArray, List.set_cons_zero, List.set_cons_succ, i64_w, i32_w]
                                                  rfl
                                                refine pure_ (i := 16) (N := some 64) (v := ?_) (a' := ?_) #[true, true, true, true, true, true, true, true, true, true, true, true, true, true, true, true, true, false, false, false] rfl rfl (any_of HT_.out (by kernel_rfl)) (fun _ _ _ h => h) (Or.inl ⟨by rfl, ?_⟩) ?_ ?_
                                                rotate_left
                                                · intro w'
                                                  go_simp
                                                  with_reducible rfl
                                                rotate_left
                                                · simp only [Act.put, List.setIfInBounds_toArray, List.set_cons_zero, List.set_cons_succ, i64_w, i32_w]
                                                  rfl
                                                refine pure_ (i := 17) (N := some 9) (v := ?_) (a' := ?_) #[true, true, true, true, true, true, true, true, true, true, true, true, true, true, true, true, true, true, false, false] rfl rfl (any_of HT_.out (by kernel_rfl)) (fun _ _ _ h => h) (Or.inl ⟨by rfl, ?_⟩) ?_ ?_
                                                rotate_left
                                                · intro w'
                                                  go_simp
                                                  with_reducible rfl
                                                rotate_left
                                                · simp only [Act.put, List.setIfInBounds_toArray, List.set_cons_zero, List.set_cons_succ, i64_w, i32_w]
                                                  rfl
                                                refine pure_ (i := 18) (N := some 10) (v := ?_) (a' := ?_) #[true, true, true, true, true, true, true, true, true, true, true, true, true, true, true, true, true, true, true, false] rfl rfl (any_of HT_.out (by kernel_rfl)) (fun _ _ _ h => h) (Or.inl ⟨by rfl, ?_⟩) ?_ ?_
                                                rotate_left
                                                · intro w'
                                                  go_simp
                                                  with_reducible rfl
                                                rotate_left
                                                · simp only [Act.put, List.setIfInBounds_toArray, List.set_cons_zero, List.set_cons_succ, i64_w, i32_w]
                                                  rfl
                                                refine pure_ (i := 19) (N := some 11) (v := ?_) (a' := ?_) #[true, true, true, true, true, true, true, true, true, true, true, true, true, true, true, true, true, true, true, true] rfl rfl (any_of HT_.out (by kernel_rfl)) (fun _ _ _ h => h) (Or.inl ⟨by rfl, ?_⟩) ?_ ?_
                                                rotate_left
                                                · intro w'
                                                  go_simp
                                                  with_reducible rfl
                                                rotate_left
                                                · simp only [Act.put, List.setIfInBounds_toArray, List.set_cons_zero, List.set_cons_succ, i64_w, i32_w]
                                                  rfl
                                                refine done_ (done_of HT_.out (by kernel_rfl)) ?_
                                                obtain ⟨i060, hi060, _, hsz60, _⟩ := info_parts info5
                                                obtain ⟨hcut60, hA60, hC60⟩ := print_take_of (P := Tryd.prog) (Value.int .u8) 0 22 5 .i64 Tryd.underlying22 hi060 hsz60 A0 c0 (l0.take ((ji4) : Int).toNat) t297 (of_decide_eq_true (by first | (with_reducible assumption) | assumption)) (of_decide_eq_true (by first | (with_reducible assumption) | assumption)) HC295.out
                                                have hl60 := Aside0.mk (show ((l0.take ((ji4) : Int).toNat).take (t297 : Int).toNat).length = (t297 : Int).toNat from by have q0_ : 0 ≤ t297 := (of_decide_eq_true (by first | (with_reducible assumption) | assumption)); have q1_ : t297 ≤ ((l0.take ((ji4) : Int).toNat).length : Int) := (of_decide_eq_true (by first | (with_reducible assumption) | assumption)); have z_ := hl10.out; (try rw [List.length_drop] at z_); (try rw [List.length_take] at z_); (try simp only [List.length_drop, List.length_take] at q0_ q1_); (try simp only [List.length_drop, List.length_take] at q2_); simp only [List.length_drop, List.length_take]; first | done | omega)
                                                (try rw [hl10.out] at hcut60)
                                                (try rw [hl60.out] at hcut60)
                                                have HR317 := Aside0.mk (Kd.C_of_reads (h1 := fun _ => rfl) (hA60 _ (Kd.reads_of_C HR295.out)))
                                                have HC317 := Aside0.mk hC60
                                                clear hA60 hC60 hi060 hsz60
                                                try go_wp2_with (first | ((with_reducible refine gate_callee (f := 14) rfl ?_); refine goesL_ (some 69) rfl rfl Tryd.func14 (by kernel_rfl) rfl #[.slice A0 ((l0.take ((ji4) : Int).toNat).take (t297 : Int).toNat).length c0] rfl (by (try simp only [List.map_toArray, List.map_cons, List.map_nil]); first | done | (rw [show ((l0.take ((ji4) : Int).toNat).take (t297 : Int).toNat).length = t297.toNat from (by rw [List.length_take]; have h_ : (t297 : Int) ≤ ((l0.take ((ji4) : Int).toNat).length : Int) := of_decide_eq_true (by first | (with_reducible assumption) | assumption); omega)] <;> rfl) | (simp only [hji4]; rfl) | rfl | (simp only [List.length_drop, List.length_take]; rfl)) ?_; (with_reducible refine (frame_Split.calls _ _ ((l0.take ((ji4) : Int).toNat).take (t297 : Int).toNat) t318 t319 t320 _ ?side3 ?side1 ?side2 A29.out).mono ?_); (case side1 => repeat (first | exact (Kd.C_below HR317.out HB.out) | (with_reducible refine Kd.C_alloc ?_ _) | (with_reducible refine Kd.C_drewN ?_ _) | (with_reducible refine Kd.C_drew ?_))); (case side2 => exact HC317.out); (case side3 => first | exact HG.out | exact Glob.below HG.out HB.out | exact Glob.drewN (Glob.below HG.out HB.out) _ | exact Glob.drewN HG.out _ | (refine Glob.below HG.out ?_; (repeat (first | (with_reducible first | exact HB.out | apply below_alloc | apply pw_below_drewN | apply below_drew1) | exact HB.out)); done) | (repeat (first | exact HG.out | (with_reducible refine Glob.drewN ?_ _) | (with_reducible refine Glob.drew ?_) | (with_reducible refine Glob.alloc ?_ _)); done)); rintro e w61 ⟨v321, rfl, ho0, hb⟩; refine ⟨_, rfl, ?_⟩; have n0_ := Aside0.mk (Kd.S_elder' (by (with_reducible repeat (first | apply Kd.S_alloc | apply Kd.S_drewN | apply Kd.S_drew)); exact HO_6.out) (Kd.S_base ho0) hb); have n1_ := Aside0.mk (Kd.R_below (by (with_reducible repeat (first | apply Kd.R_alloc | apply Kd.R_drewN | apply Kd.R_drew)); exact HO311.out) hb); have n2_ := Aside0.mk (Kd.S_elder' (by (with_reducible repeat (first | apply Kd.S_alloc | apply Kd.S_drewN | apply Kd.S_drew)); exact HO316.out) (Kd.S_base ho0) hb); have n3_ := Aside0.mk (Kd.S_lower (Kd.S_new' (Kd.S_new' (Kd.S_new' ho0 (Kd.S_lt (by (with_reducible repeat (first | apply Kd.S_alloc | apply Kd.S_drewN | apply Kd.S_drew)); exact HO_6.out))) (Kd.R_lt (by (with_reducible repeat (first | apply Kd.R_alloc | apply Kd.R_drewN | apply Kd.R_drew)); exact HO311.out))) (Kd.S_lt (by (with_reducible repeat (first | apply Kd.S_alloc | apply Kd.S_drewN | apply Kd.S_drew)); exact HO316.out))) (below_size (by repeat (first | (with_reducible first | exact HB.out | apply below_alloc | apply pw_below_drewN | apply below_drew1) | exact HB.out)))); have n4_ := Aside0.mk (below_step (by repeat (first | (with_reducible first | exact HB.out | apply below_alloc | apply pw_below_drewN | apply below_drew1) | exact HB.out)) hb); clear HO_6; clear HO311; clear HO316; clear HB; have HO_6 := n0_; have HO311 := n1_; have HO316 := n2_; have HO322 := n3_; have HB := n4_; clear n0_ n1_ n2_ n3_ n4_; (try clear hb); (try clear hb2); (try clear hk); (try clear hi); (try clear ho0); obtain ⟨Ao62, co62, eo62⟩ := Kd.S_slice HO316.out; subst eo62; obtain ⟨Ao63, co63, eo63⟩ := Kd.S_slice HO_6.out; subst eo63; obtain ⟨Ao64, co64, eo64⟩ := Kd.S_slice HO322.out; subst eo64))
                                                go_ret
                                                exact ⟨by first | rfl | (simp [errW_none, errW_some] <;> rfl) | (simp only [← hji4, ← hji18, ← hji22]; first | rfl | (simp [errW_none, errW_some] <;> rfl)) | (simp [*, errW_none, errW_some] <;> rfl), by repeat (first | (with_reducible first | exact HB.out | apply below_alloc | apply pw_below_drewN | apply below_drew1) | exact HB.out)⟩
                                            · rw [if_neg c35] at H
                                              have c35b0 : (t319 == t297) = false := beq_eq_false_iff_ne.mpr c35
                                              have c35b1 : (t319 != t297) = true := bne_iff_ne.mpr c35
                                              exact absurd HT.out (by rw [← Option.some.inj H]; decide)
                                          · rw [if_neg c34] at H
                                            have c34b0 : ((t318.length : Int) == (t296.length : Int)) = false := beq_eq_false_iff_ne.mpr c34
                                            have c34b1 : ((t318.length : Int) != (t296.length : Int)) = true := bne_iff_ne.mpr c34
                                            have c34b2 : (t318.length == t296.length) = false := by first | simpa using c34 | (simp at c34 ⊢; omega)
                                            exact absurd HT.out (by rw [← Option.some.inj H]; decide)
                                        · rw [if_neg c33] at H
                                          have c33b0 : ((t312.length : Int) == (t296.length : Int)) = false := beq_eq_false_iff_ne.mpr c33
                                          have c33b1 : ((t312.length : Int) != (t296.length : Int)) = true := bne_iff_ne.mpr c33
                                          have c33b2 : (t312.length == t296.length) = false := by first | simpa using c33 | (simp at c33 ⊢; omega)
                                          exact absurd HT.out (by rw [← Option.some.inj H]; decide)
                                      · rw [if_neg c32] at H
                                        have c32b0 : (t314 == t298) = false := beq_eq_false_iff_ne.mpr c32
                                        have c32b1 : (t314 != t298) = true := bne_iff_ne.mpr c32
                                        exact absurd HT.out (by rw [← Option.some.inj H]; decide)
                                    · rw [if_neg c31] at H
                                      have c31b0 : (t313 == t297) = false := beq_eq_false_iff_ne.mpr c31
                                      have c31b1 : (t313 != t297) = true := bne_iff_ne.mpr c31
                                      exact absurd HT.out (by rw [← Option.some.inj H]; decide)
                                  · replace c30 := Bool.eq_false_iff.mpr c30
                                    subst c30
                                    have H1 : (some false) = some r := by rw [if_neg (show ¬ (false = true) by decide)] at H; exact H
                                    clear H
                                    have H := H1
                                    clear H1
                                    exact absurd HT.out (by rw [← Option.some.inj H]; decide)
                                · rw [if_neg c28] at H
                                  exact absurd H (by simp)
                              · rw [if_neg c27] at H
                                exact absurd H (by simp)
                            · rw [if_neg c25] at H
                              exact absurd H (by simp)
                          · rw [if_neg c24] at H
                            exact absurd H (by simp)
                        · rw [if_neg c23] at H
                          exact absurd H (by simp)
                      · rw [if_neg c21] at H
                        exact absurd H (by simp)
                    · rw [if_neg c20] at H
                      exact absurd H (by simp)
                  · rw [if_neg c19] at H
                    exact absurd H (by simp)
    · rw [if_neg c6] at H
      exact absurd H (by simp)
  · rw [if_neg c5] at H
    exact absurd H (by simp)

/-- THE ONE PURE STATEMENT of transeptlaw04_FrameFirst: yours. -/
def transeptlaw04_FrameFirst.Pure : Prop := ∀ (l0 : List Int) (l1 : List Int), l0.length ≤ maxLen → l0.length * 1 ≤ 140737488351232 → (∀ x ∈ l0, (Lit.int .u8 x).wf = true) → l1.length ≤ maxLen → l1.length * 1 ≤ 140737488351232 → (∀ x ∈ l1, (Lit.int .u8 x).wf = true) → ∃ k, transeptlaw04_FrameFirst.f k l0 l1 = some true
theorem transeptlaw04_FrameFirst.walk (P : transeptlaw04_FrameFirst.Pure) (a0 : Option Addr) (len0 cap0 : Nat) (z0 : List Int) (a1 : Option Addr) (len1 cap1 : Nat) (z1 : List Int) (w : World) (hG : Glob w) (w0 : (a0 = none ∧ len0 = 0 ∧ cap0 = 0 ∧ z0 = []) ∨ ∃ x, a0 = some x ∧ len0 ≤ cap0 ∧ cap0 ≤ maxLen ∧ z0.length = cap0 ∧ (∀ i, i < z0.length → w.cell? (x.add i) = some (.int .u8 (z0.getD i 0))) ∧ ∀ n ∈ z0, (Lit.int .u8 n).wf = true) (y0 : len0 * 1 ≤ 140737488351232) (w1 : (a1 = none ∧ len1 = 0 ∧ cap1 = 0 ∧ z1 = []) ∨ ∃ x, a1 = some x ∧ len1 ≤ cap1 ∧ cap1 ≤ maxLen ∧ z1.length = cap1 ∧ (∀ i, i < z1.length → w.cell? (x.add i) = some (.int .u8 (z1.getD i 0))) ∧ ∀ n ∈ z1, (Lit.int .u8 n).wf = true) (y1 : len1 * 1 ≤ 140737488351232) :
    Calls Tryd.prog 7 #[.slice a0 len0 cap0, .slice a1 len1 cap1] w fun e w' => e = .returned (.bool true) ∧ Below w.heap.size w w' := by
  obtain ⟨l0, rfl, hr0, hm0, hw0, hc0⟩ := ReadsInt.ofRowC w0
  obtain ⟨l1, rfl, hr1, hm1, hw1, hc1⟩ := ReadsInt.ofRowC w1
  obtain ⟨k, h⟩ := P l0 l1 hm0 y0 hw0 hm1 y1 hw1
  refine (transeptlaw04_FrameFirst.calls k _ _ l0 _ _ l1 true w hG (Kd.C_of_reads (d := (0 : Int)) (h1 := fun _ => rfl) hr0) hc0 (Kd.C_of_reads (d := (0 : Int)) (h1 := fun _ => rfl) hr1) hc1 rfl h).mono ?_
  rintro e w' ⟨rfl, hd⟩
  exact ⟨rfl, hd⟩

end Go.Proofs.YtojagnoobaleaaaDoor.Xp
