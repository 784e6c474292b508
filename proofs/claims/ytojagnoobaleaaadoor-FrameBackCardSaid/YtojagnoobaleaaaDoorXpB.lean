-- Written by a program of this session (wip/tools/xprint.py), in the manner of the print of the kit.
import Derived.Test.YtojagnoobaleaaaDoorXpx0
import Derived.Test.YtojagnoobaleaaaDoorXpm
import Derived.Test.YtojagnoobaleaaaDoorStr
import Derived.Test.YtojagnoobaleaaaDoorFrZ
namespace Go.Proofs.YtojagnoobaleaaaDoor.Xp
open Go.RowKit Go.Proofs.YtojagnoobaleaaaDoor.Ext Go.Proofs.YtojagnoobaleaaaDoorW.PrintWords Go.Proofs.YtojagnoobaleaaaDoorW.PrintLast Go.Proofs.YtojagnoobaleaaaDoorW.PrintMore
attribute [local go_sem] max2_int min2_int max_two min_two max_three min_three max_four min_four   -- for this text's walks alone
set_option linter.unusedVariables false
set_option linter.unusedSimpArgs false

/-! ### transeptlaw04_FrameBack: function 5 -/
def transeptlaw04_FrameBack.j0 : Nat → List Int → Bool → Bool → Option (Bool)
  | 0, _, _, _ => none
  | k + 1, x1, x5, x52 => if x52 = true then (some false) else (if 0 ≤ (mn (x1.length : Int) 3000) then (if (mn (x1.length : Int) 3000) ≤ (x1.length : Int) then ((frame_Split.f (x1.take ((mn (x1.length : Int) 3000) : Int).toNat)).bind fun bt228 => (if bt228.2.2 = 0 then ((frame_Join.f bt228.1).bind fun bt233 => (if x5 = true then (if bt233.2 = 0 then (some ((strOfNums bt233.1).toList == (strOfNums (x1.take ((mn (x1.length : Int) 3000) : Int).toNat)).toList)) else (some false)) else (some false))) else (some x5))) else (none)) else (none))
def transeptlaw04_FrameBack.f (k : Nat) (l0 : List (List Int)) (l1 : List Int) : Option (Bool) := (transeptlaw04_shown.f).bind fun t210 => ((transeptlaw04_few.f k l0).bind fun bt211 => ((frame_Join.f bt211.1).bind fun bt217 => ((frame_Split.f bt217.1).bind fun bt221 => (if bt217.2 = 0 then (if bt221.2.2 = 0 then (if bt221.2.1 = (bt217.1.length : Int) then ((transeptlaw04_same.f k bt221.1 bt211.2).bind fun t226 => (transeptlaw04_FrameBack.j0 k l1 t210 (!t226))) else (transeptlaw04_FrameBack.j0 k l1 t210 true)) else (transeptlaw04_FrameBack.j0 k l1 t210 true)) else (transeptlaw04_FrameBack.j0 k l1 t210 true)))))
theorem transeptlaw04_FrameBack.mono_l : ∀ k, (∀ y0 y1 y2, LeO (transeptlaw04_FrameBack.j0 k y0 y1 y2) (transeptlaw04_FrameBack.j0 (k + 1) y0 y1 y2))
  | 0 => fun _ _ _ r h => by simp [transeptlaw04_FrameBack.j0] at h
  | k + 1 => by
    have ih0 := transeptlaw04_FrameBack.mono_l k
    · intro y0 y1 y2
      unfold transeptlaw04_FrameBack.j0
      repeat' first
      | (with_reducible exact ih0 _ _ _)
      | (with_reducible exact transeptlaw04_few.mono _ _)
      | (with_reducible exact transeptlaw04_same.mono _ _ _)
      | (with_reducible exact LeO.refl _)
      | (with_reducible exact LeO.none _)
      | (with_reducible refine LeO.ite ?_ ?_)
      | (with_reducible refine LeO.bind ?_ (fun _ => ?_))
      | exact ih0 _ _ _
      | exact transeptlaw04_few.mono _ _
      | exact transeptlaw04_same.mono _ _ _
      | exact LeO.none _
      | refine LeO.ite ?_ ?_
      | refine LeO.bind ?_ (fun _ => ?_)
theorem transeptlaw04_FrameBack.mono : ∀ a0 a1 k, LeO (transeptlaw04_FrameBack.f k a0 a1) (transeptlaw04_FrameBack.f (k + 1) a0 a1) := by
  intro a0 a1 k
  have ih0 := transeptlaw04_FrameBack.mono_l k
  unfold transeptlaw04_FrameBack.f
  repeat' first
      | (with_reducible exact ih0 _ _ _)
      | (with_reducible exact transeptlaw04_few.mono _ _)
      | (with_reducible exact transeptlaw04_same.mono _ _ _)
      | (with_reducible exact LeO.refl _)
      | (with_reducible exact LeO.none _)
      | (with_reducible refine LeO.ite ?_ ?_)
      | (with_reducible refine LeO.bind ?_ (fun _ => ?_))
      | exact ih0 _ _ _
      | exact transeptlaw04_few.mono _ _
      | exact transeptlaw04_same.mono _ _ _
      | exact LeO.none _
      | refine LeO.ite ?_ ?_
      | refine LeO.bind ?_ (fun _ => ?_)
set_option maxHeartbeats 8000000 in
set_option maxRecDepth 100000 in
theorem transeptlaw04_FrameBack.calls (k : Nat) (A0 : Option Addr) (c0 : Nat) (l0 : List (List Int)) (A1 : Option Addr) (c1 : Nat) (l1 : List Int) (r : Bool) (w : World) (hG : Glob w) (hr0 : Kd.C (Kd.slice 5 (Kd.int .u8)) w A0 l0.length l0) (hc0 : l0.length ≤ c0) (hr1 : Kd.C (Kd.int .u8) w A1 l1.length l1) (hc1 : l1.length ≤ c1) (hT_ : r = true) (h : transeptlaw04_FrameBack.f k l0 l1 = some r) :
    Calls Tryd.prog 5 #[.slice A0 l0.length c0, .slice A1 l1.length c1] w fun e w' => e = .returned (.bool r) ∧ Below w.heap.size w w' := by
  have HG := Aside0.mk hG
  clear hG
  have HT := Aside0.mk hT_
  clear hT_
  have HR0 := Aside0.mk hr0
  have HC0 := Aside0.mk hc0
  clear hr0 hc0
  have HR1 := Aside0.mk hr1
  have HC1 := Aside0.mk hc1
  clear hr1 hc1
  have HB := Aside0.mk (Below.refl w.heap.size w)
  have H : ((transeptlaw04_shown.f).bind fun t210 => ((transeptlaw04_few.f k l0).bind fun bt211 => ((frame_Join.f bt211.1).bind fun bt217 => ((frame_Split.f bt217.1).bind fun bt221 => (if bt217.2 = 0 then (if bt221.2.2 = 0 then (if bt221.2.1 = (bt217.1.length : Int) then ((transeptlaw04_same.f k bt221.1 bt211.2).bind fun t226 => (transeptlaw04_FrameBack.j0 k l1 t210 (!t226))) else (transeptlaw04_FrameBack.j0 k l1 t210 true)) else (transeptlaw04_FrameBack.j0 k l1 t210 true)) else (transeptlaw04_FrameBack.j0 k l1 t210 true)))))) = some r := h
  clear h
  replace H := Option.bind_eq_some_iff.mp H
  obtain ⟨t210, A30, H⟩ := H
  replace H : ((transeptlaw04_few.f k l0).bind fun bt211 => ((frame_Join.f bt211.1).bind fun bt217 => ((frame_Split.f bt217.1).bind fun bt221 => (if bt217.2 = 0 then (if bt221.2.2 = 0 then (if bt221.2.1 = (bt217.1.length : Int) then ((transeptlaw04_same.f k bt221.1 bt211.2).bind fun t226 => (transeptlaw04_FrameBack.j0 k l1 t210 (!t226))) else (transeptlaw04_FrameBack.j0 k l1 t210 true)) else (transeptlaw04_FrameBack.j0 k l1 t210 true)) else (transeptlaw04_FrameBack.j0 k l1 t210 true))))) = some r := H
  have A3 := Aside0.mk A30
  clear A30
  replace H := Option.bind_eq_some_iff.mp H
  obtain ⟨⟨t211, t212⟩, A40, H⟩ := H
  replace H : ((frame_Join.f t211).bind fun bt217 => ((frame_Split.f bt217.1).bind fun bt221 => (if bt217.2 = 0 then (if bt221.2.2 = 0 then (if bt221.2.1 = (bt217.1.length : Int) then ((transeptlaw04_same.f k bt221.1 t212).bind fun t226 => (transeptlaw04_FrameBack.j0 k l1 t210 (!t226))) else (transeptlaw04_FrameBack.j0 k l1 t210 true)) else (transeptlaw04_FrameBack.j0 k l1 t210 true)) else (transeptlaw04_FrameBack.j0 k l1 t210 true)))) = some r := H
  have A4 := Aside0.mk A40
  clear A40
  replace H := Option.bind_eq_some_iff.mp H
  obtain ⟨⟨t217, t218⟩, A50, H⟩ := H
  replace H : ((frame_Split.f t217).bind fun bt221 => (if t218 = 0 then (if bt221.2.2 = 0 then (if bt221.2.1 = (t217.length : Int) then ((transeptlaw04_same.f k bt221.1 t212).bind fun t226 => (transeptlaw04_FrameBack.j0 k l1 t210 (!t226))) else (transeptlaw04_FrameBack.j0 k l1 t210 true)) else (transeptlaw04_FrameBack.j0 k l1 t210 true)) else (transeptlaw04_FrameBack.j0 k l1 t210 true))) = some r := H
  have A5 := Aside0.mk A50
  clear A50
  replace H := Option.bind_eq_some_iff.mp H
  obtain ⟨⟨t221, t222, t223⟩, A60, H⟩ := H
  replace H : (if t218 = 0 then (if t223 = 0 then (if t222 = (t217.length : Int) then ((transeptlaw04_same.f k t221 t212).bind fun t226 => (transeptlaw04_FrameBack.j0 k l1 t210 (!t226))) else (transeptlaw04_FrameBack.j0 k l1 t210 true)) else (transeptlaw04_FrameBack.j0 k l1 t210 true)) else (transeptlaw04_FrameBack.j0 k l1 t210 true)) = some r := H
  have A6 := Aside0.mk A60
  clear A60
  have HC7 := Aside0.mk H
  clear H
  go_enter Tryd.func5, Tryd.ntmps5
  go_upto_region 5 with (first | ((with_reducible refine gate_callee (f := 13) rfl ?_); refine goesL_ (some 18) rfl rfl Tryd.func13 (by kernel_rfl) rfl #[] rfl (by (try simp only [List.map_toArray, List.map_cons, List.map_nil]); first | done | rfl | (simp only [List.length_drop, List.length_take]; rfl)) ?_; (with_reducible refine (transeptlaw04_shown.calls  t210 _ ?side1 A3.out).mono ?_); (case side1 => first | exact HG.out | exact Glob.below HG.out HB.out | exact Glob.drewN (Glob.below HG.out HB.out) _ | exact Glob.drewN HG.out _ | (refine Glob.below HG.out ?_; (repeat (first | (with_reducible first | exact HB.out | apply below_alloc | apply pw_below_drewN | apply below_drew1) | exact HB.out)); done) | (repeat (first | exact HG.out | (with_reducible refine Glob.drewN ?_ _) | (with_reducible refine Glob.drew ?_) | (with_reducible refine Glob.alloc ?_ _)); done)); rintro e w8 ⟨rfl, hb⟩; refine ⟨_, rfl, ?_⟩; have n0_ := Aside0.mk (below_step (by repeat (first | (with_reducible first | exact HB.out | apply below_alloc | apply pw_below_drewN | apply below_drew1) | exact HB.out)) hb); clear HB; have HB := n0_; clear n0_; (try clear hb); (try clear hb2); (try clear hk); (try clear hi)) | ((with_reducible refine gate_callee (f := 17) rfl ?_); refine goesL_ (some 21) rfl rfl Tryd.func17 (by kernel_rfl) rfl #[.slice A0 l0.length c0] rfl (by (try simp only [List.map_toArray, List.map_cons, List.map_nil]); first | done | rfl | (simp only [List.length_drop, List.length_take]; rfl)) ?_; (with_reducible refine (transeptlaw04_few.calls k _ _ l0 t211 t212 _ ?side1 ?side2 A4.out).mono ?_); (case side1 => repeat (first | exact (Kd.C_below HR0.out HB.out) | (with_reducible refine Kd.C_alloc ?_ _) | (with_reducible refine Kd.C_drewN ?_ _) | (with_reducible refine Kd.C_drew ?_))); (case side2 => exact HC0.out); rintro e w9 ⟨v213, v215, rfl, ho0, ho1, hb⟩; refine ⟨_, rfl, ?_⟩; have n0_ := Aside0.mk (Kd.S_lower ho0 (below_size (by repeat (first | (with_reducible first | exact HB.out | apply below_alloc | apply pw_below_drewN | apply below_drew1) | exact HB.out)))); have n1_ := Aside0.mk (Kd.R_lower ho1 (below_size (by repeat (first | (with_reducible first | exact HB.out | apply below_alloc | apply pw_below_drewN | apply below_drew1) | exact HB.out)))); have n2_ := Aside0.mk (below_step (by repeat (first | (with_reducible first | exact HB.out | apply below_alloc | apply pw_below_drewN | apply below_drew1) | exact HB.out)) hb); clear HB; have HO214 := n0_; have HO216 := n1_; have HB := n2_; clear n0_ n1_ n2_; (try clear hb); (try clear hb2); (try clear hk); (try clear hi); (try clear ho0); (try clear ho1); obtain ⟨Ao10, co10, eo10⟩ := Kd.S_slice HO214.out; subst eo10) | ((with_reducible refine gate_callee (f := 18) rfl ?_); refine goesL_ (some 26) rfl rfl Tryd.func18 (by kernel_rfl) rfl #[.slice Ao10 t211.length co10] rfl (by (try simp only [List.map_toArray, List.map_cons, List.map_nil]); first | done | rfl | (simp only [List.length_drop, List.length_take]; rfl)) ?_; (with_reducible refine (frame_Join.calls _ _ t211 t217 t218 _ ?side3 ?side1 ?side2 A5.out).mono ?_); (case side1 => repeat (first | exact (Kd.S_reads' HO214.out).2.2 | (with_reducible refine Kd.C_alloc ?_ _) | (with_reducible refine Kd.C_drewN ?_ _) | (with_reducible refine Kd.C_drew ?_))); (case side2 => exact (Kd.S_reads' HO214.out).2.1); (case side3 => first | exact HG.out | exact Glob.below HG.out HB.out | exact Glob.drewN (Glob.below HG.out HB.out) _ | exact Glob.drewN HG.out _ | (refine Glob.below HG.out ?_; (repeat (first | (with_reducible first | exact HB.out | apply below_alloc | apply pw_below_drewN | apply below_drew1) | exact HB.out)); done) | (repeat (first | exact HG.out | (with_reducible refine Glob.drewN ?_ _) | (with_reducible refine Glob.drew ?_) | (with_reducible refine Glob.alloc ?_ _)); done)); rintro e w11 ⟨v219, rfl, ho0, hb⟩; refine ⟨_, rfl, ?_⟩; have n0_ := Aside0.mk (Kd.S_elder' (by (with_reducible repeat (first | apply Kd.S_alloc | apply Kd.S_drewN | apply Kd.S_drew)); exact HO214.out) (JV.base ho0) hb); have n1_ := Aside0.mk (Kd.R_below (by (with_reducible repeat (first | apply Kd.R_alloc | apply Kd.R_drewN | apply Kd.R_drew)); exact HO216.out) hb); have n2_ := Aside0.mk (JV.lower ho0 (below_size (by repeat (first | (with_reducible first | exact HB.out | apply below_alloc | apply pw_below_drewN | apply below_drew1) | exact HB.out)))); have n3_ := Aside0.mk (below_step (by repeat (first | (with_reducible first | exact HB.out | apply below_alloc | apply pw_below_drewN | apply below_drew1) | exact HB.out)) hb); clear HO214; clear HO216; clear HB; have HO214 := n0_; have HO216 := n1_; have HO220 := n2_; have HB := n3_; clear n0_ n1_ n2_ n3_; (try clear hb); (try clear hb2); (try clear hk); (try clear hi); (try clear ho0); obtain ⟨Ao12, co12, eo12⟩ := JV.slice HO220.out; subst eo12) | ((with_reducible refine gate_callee (f := 14) rfl ?_); refine goesL_ (some 31) rfl rfl Tryd.func14 (by kernel_rfl) rfl #[.slice Ao12 t217.length co12] rfl (by (try simp only [List.map_toArray, List.map_cons, List.map_nil]); first | done | rfl | (simp only [List.length_drop, List.length_take]; rfl)) ?_; (with_reducible refine (frame_Split.calls _ _ t217 t221 t222 t223 _ ?side3 ?side1 ?side2 A6.out).mono ?_); (case side1 => repeat (first | exact (JV.reads' HO220.out).2.2 | (with_reducible refine Kd.C_alloc ?_ _) | (with_reducible refine Kd.C_drewN ?_ _) | (with_reducible refine Kd.C_drew ?_))); (case side2 => exact (JV.reads' HO220.out).2.1); (case side3 => first | exact HG.out | exact Glob.below HG.out HB.out | exact Glob.drewN (Glob.below HG.out HB.out) _ | exact Glob.drewN HG.out _ | (refine Glob.below HG.out ?_; (repeat (first | (with_reducible first | exact HB.out | apply below_alloc | apply pw_below_drewN | apply below_drew1) | exact HB.out)); done) | (repeat (first | exact HG.out | (with_reducible refine Glob.drewN ?_ _) | (with_reducible refine Glob.drew ?_) | (with_reducible refine Glob.alloc ?_ _)); done)); rintro e w13 ⟨v224, rfl, ho0, hb⟩; refine ⟨_, rfl, ?_⟩; have n0_ := Aside0.mk (Kd.S_elder' (by (with_reducible repeat (first | apply Kd.S_alloc | apply Kd.S_drewN | apply Kd.S_drew)); exact HO214.out) (Kd.S_base ho0) hb); have n1_ := Aside0.mk (Kd.R_below (by (with_reducible repeat (first | apply Kd.R_alloc | apply Kd.R_drewN | apply Kd.R_drew)); exact HO216.out) hb); have n2_ := Aside0.mk (JV.below (by (with_reducible repeat (first | apply JV.alloc | apply JV.drewN | apply JV.drew)); exact HO220.out) hb); have n3_ := Aside0.mk (Kd.S_lower (Kd.S_new' (Kd.S_new' ho0 (Kd.S_lt (by (with_reducible repeat (first | apply Kd.S_alloc | apply Kd.S_drewN | apply Kd.S_drew)); exact HO214.out))) (JV.lt (by (with_reducible repeat (first | apply JV.alloc | apply JV.drewN | apply JV.drew)); exact HO220.out))) (below_size (by repeat (first | (with_reducible first | exact HB.out | apply below_alloc | apply pw_below_drewN | apply below_drew1) | exact HB.out)))); have n4_ := Aside0.mk (below_step (by repeat (first | (with_reducible first | exact HB.out | apply below_alloc | apply pw_below_drewN | apply below_drew1) | exact HB.out)) hb); clear HO214; clear HO216; clear HO220; clear HB; have HO214 := n0_; have HO216 := n1_; have HO220 := n2_; have HO225 := n3_; have HB := n4_; clear n0_ n1_ n2_ n3_ n4_; (try clear hb); (try clear hb2); (try clear hk); (try clear hi); (try clear ho0)))
  (try simp only [Act.put, List.setIfInBounds_toArray, List.set_cons_zero, List.set_cons_succ])
  go_cut [52] (fun v52 wc => ∃ (kq : Nat) (x52_6 : Bool), v52 = .bool x52_6 ∧ Aside0 (transeptlaw04_FrameBack.j0 kq l1 t210 x52_6 = some r) ∧ Aside0 (kq ≤ k) ∧ Aside0 (Below w.heap.size w wc))
  case first =>
    have H := HC7.out
    clear HC7
    by_cases c14 : t218 = 0
    · rw [if_pos c14] at H
      have c14b0 : (t218 == 0) = true := beq_iff_eq.mpr c14
      have c14b1 : (t218 != 0) = false := bne_eq_false_iff_eq.mpr c14
      clear c14
      (first | rw [c14b0] | (simp only [i64_w, i32_w]; rw [c14b0]) | skip)
      by_cases c15 : t223 = 0
      · rw [if_pos c15] at H
        have c15b0 : (t223 == 0) = true := beq_iff_eq.mpr c15
        have c15b1 : (t223 != 0) = false := bne_eq_false_iff_eq.mpr c15
        clear c15
        by_cases c16 : t222 = (t217.length : Int)
        · rw [if_pos c16] at H
          have c16b0 : (t222 == (t217.length : Int)) = true := beq_iff_eq.mpr c16
          have c16b1 : (t222 != (t217.length : Int)) = false := bne_eq_false_iff_eq.mpr c16
          clear c16
          replace H := Option.bind_eq_some_iff.mp H
          obtain ⟨t226, A170, H⟩ := H
          replace H : (transeptlaw04_FrameBack.j0 k l1 t210 (!t226)) = some r := H
          have A17 := Aside0.mk A170
          clear A170
          have H' := Aside0.mk H
          clear H
          obtain ⟨Ao18, co18, eo18⟩ := Kd.S_slice HO225.out
          subst eo18
          obtain ⟨Ao19, co19, eo19⟩ := Kd.R_slice HO216.out
          subst eo19
          go_wp2_with (first | (go_at_call 16; (with_reducible refine (transeptlaw04_same.calls k _ _ t221 _ _ t212 t226 _ ?side1 ?side2 ?side3 ?side4 A17.out).mono ?_); (case side1 => repeat (first | exact (Kd.S_reads' HO225.out).2.2 | (with_reducible refine Kd.C_alloc ?_ _) | (with_reducible refine Kd.C_drewN ?_ _) | (with_reducible refine Kd.C_drew ?_))); (case side2 => exact (Kd.S_reads' HO225.out).2.1); (case side3 => repeat (first | exact (Kd.R_reads' HO216.out).2.2 | (with_reducible refine Kd.C_alloc ?_ _) | (with_reducible refine Kd.C_drewN ?_ _) | (with_reducible refine Kd.C_drew ?_))); (case side4 => exact (Kd.R_reads' HO216.out).2.1); rintro e w' ⟨rfl, ⟨nd, rfl⟩⟩))
          go_meet
          case rel => exact ⟨_, (!t226), (by first | rfl | (simp; done) | (simp [*]; done)), H', ⟨by first | omega | exact Nat.le_refl _⟩, ⟨by repeat (first | (with_reducible first | exact HB.out | apply below_alloc | apply pw_below_drewN | apply below_drew1) | exact HB.out)⟩⟩
        · rw [if_neg c16] at H
          have c16b0 : (t222 == (t217.length : Int)) = false := beq_eq_false_iff_ne.mpr c16
          have c16b1 : (t222 != (t217.length : Int)) = true := bne_iff_ne.mpr c16
          have H' := Aside0.mk H
          clear H
          go_wp2
          go_meet
          case rel => exact ⟨_, (true), (by first | rfl | (simp; done) | (simp [*]; done)), H', ⟨by first | omega | exact Nat.le_refl _⟩, ⟨by repeat (first | (with_reducible first | exact HB.out | apply below_alloc | apply pw_below_drewN | apply below_drew1) | exact HB.out)⟩⟩
      · rw [if_neg c15] at H
        have c15b0 : (t223 == 0) = false := beq_eq_false_iff_ne.mpr c15
        have c15b1 : (t223 != 0) = true := bne_iff_ne.mpr c15
        have H' := Aside0.mk H
        clear H
        go_wp2
        go_meet
        case rel => exact ⟨_, (true), (by first | rfl | (simp; done) | (simp [*]; done)), H', ⟨by first | omega | exact Nat.le_refl _⟩, ⟨by repeat (first | (with_reducible first | exact HB.out | apply below_alloc | apply pw_below_drewN | apply below_drew1) | exact HB.out)⟩⟩
    · rw [if_neg c14] at H
      have c14b0 : (t218 == 0) = false := beq_eq_false_iff_ne.mpr c14
      have c14b1 : (t218 != 0) = true := bne_iff_ne.mpr c14
      (first | rw [c14b0] | (simp only [i64_w, i32_w]; rw [c14b0]) | skip)
      have H' := Aside0.mk H
      clear H
      go_wp2
      go_meet
      case rel => exact ⟨_, (true), (by first | rfl | (simp; done) | (simp [*]; done)), H', ⟨by first | omega | exact Nat.le_refl _⟩, ⟨by repeat (first | (with_reducible first | exact HB.out | apply below_alloc | apply pw_below_drewN | apply below_drew1) | exact HB.out)⟩⟩
  case rest =>
    clear HC7
    try clear c1
    try clear p2
    try clear c5
    try clear c13
    try clear c14
    try clear c14b0
    try clear c14b1
    try clear c15
    try clear c15b0
    try clear c15b1
    try clear c16
    try clear c16b0
    try clear c16b1
    try clear c17
    try clear c18
    obtain ⟨kq, x52_6, rfl, HA, HJ6, HB⟩ := hcut
    cases kq with
    | zero => exact absurd HA.out (by simp [transeptlaw04_FrameBack.j0])
    | succ kj6 =>
      have H := HA.out
      clear HA
      simp only [transeptlaw04_FrameBack.j0] at H
      by_cases c20 : x52_6 = true
      · subst c20
        have H1 : (some false) = some r := by rw [if_pos rfl] at H; exact H
        clear H
        have H := H1
        clear H1
        exact absurd HT.out (by rw [← Option.some.inj H]; decide)
      · replace c20 := Bool.eq_false_iff.mpr c20
        subst c20
        have H1 : (if 0 ≤ (mn (l1.length : Int) 3000) then (if (mn (l1.length : Int) 3000) ≤ (l1.length : Int) then ((frame_Split.f (l1.take ((mn (l1.length : Int) 3000) : Int).toNat)).bind fun bt228 => (if bt228.2.2 = 0 then ((frame_Join.f bt228.1).bind fun bt233 => (if t210 = true then (if bt233.2 = 0 then (some ((strOfNums bt233.1).toList == (strOfNums (l1.take ((mn (l1.length : Int) 3000) : Int).toNat)).toList)) else (some false)) else (some false))) else (some t210))) else (none)) else (none)) = some r := by rw [if_neg (show ¬ (false = true) by decide)] at H; exact H
        clear H
        have H := H1
        clear H1
        obtain ⟨ji21, hji21⟩ : ∃ j_ : Int, (mn (l1.length : Int) 3000) = j_ := ⟨_, rfl⟩
        replace H : (if 0 ≤ (ji21) then (if (ji21) ≤ (l1.length : Int) then ((frame_Split.f (l1.take ((ji21) : Int).toNat)).bind fun bt228 => (if bt228.2.2 = 0 then ((frame_Join.f bt228.1).bind fun bt233 => (if t210 = true then (if bt233.2 = 0 then (some ((strOfNums bt233.1).toList == (strOfNums (l1.take ((ji21) : Int).toNat)).toList)) else (some false)) else (some false))) else (some t210))) else (none)) else (none)) = some r := by first | (rw [hji21] at H; exact H) | (simp only [hji21] at H ⊢; exact H)
        have hji21_ : (if 3000 < (l1.length : Int) then 3000 else (l1.length : Int)) = ji21 := hji21
        by_cases c22 : 0 ≤ (ji21)
        · rw [if_pos c22] at H
          have c22b0 := eq_true c22
          have c22b1 : decide (0 ≤ (ji21)) = true := decide_eq_true c22
          clear c22
          by_cases c23 : (ji21) ≤ (l1.length : Int)
          · rw [if_pos c23] at H
            have c23b0 := eq_true c23
            have c23b1 : decide ((ji21) ≤ (l1.length : Int)) = true := decide_eq_true c23
            clear c23
            replace H := Option.bind_eq_some_iff.mp H
            obtain ⟨⟨t228, t229, t230⟩, A240, H⟩ := H
            replace H : (if t230 = 0 then ((frame_Join.f t228).bind fun bt233 => (if t210 = true then (if bt233.2 = 0 then (some ((strOfNums bt233.1).toList == (strOfNums (l1.take ((ji21) : Int).toNat)).toList)) else (some false)) else (some false))) else (some t210)) = some r := H
            have A24 := Aside0.mk A240
            clear A240
            by_cases c25 : t230 = 0
            · rw [if_pos c25] at H
              have c25b0 : (t230 == 0) = true := beq_iff_eq.mpr c25
              have c25b1 : (t230 != 0) = false := bne_eq_false_iff_eq.mpr c25
              clear c25
              replace H := Option.bind_eq_some_iff.mp H
              obtain ⟨⟨t233, t234⟩, A260, H⟩ := H
              replace H : (if t210 = true then (if t234 = 0 then (some ((strOfNums t233).toList == (strOfNums (l1.take ((ji21) : Int).toNat)).toList)) else (some false)) else (some false)) = some r := H
              have A26 := Aside0.mk A260
              clear A260
              by_cases c27 : t210 = true
              · subst c27
                have H1 : (if t234 = 0 then (some ((strOfNums t233).toList == (strOfNums (l1.take ((ji21) : Int).toNat)).toList)) else (some false)) = some r := by rw [if_pos rfl] at H; exact H
                clear H
                have H := H1
                clear H1
                by_cases c28 : t234 = 0
                · rw [if_pos c28] at H
                  have c28b0 : (t234 == 0) = true := beq_iff_eq.mpr c28
                  have c28b1 : (t234 != 0) = false := bne_eq_false_iff_eq.mpr c28
                  clear c28
                  obtain rfl := Option.some.inj H
                  obtain ⟨i029, hi029, _, hsz29, _⟩ := info_parts info5
                  obtain ⟨hcut29, hA29, hC29⟩ := print_take_of (P := Tryd.prog) (Value.int .u8) 0 22 5 .i64 Tryd.underlying22 hi029 hsz29 A1 c1 l1 (ji21) (of_decide_eq_true (by first | (with_reducible assumption) | assumption)) (of_decide_eq_true (by first | (with_reducible assumption) | assumption)) HC1.out
                  have hl29 := Aside0.mk (show (l1.take ((ji21) : Int).toNat).length = ((ji21) : Int).toNat from by have q0_ : 0 ≤ (ji21) := (of_decide_eq_true (by first | (with_reducible assumption) | assumption)); have q1_ : (ji21) ≤ (l1.length : Int) := (of_decide_eq_true (by first | (with_reducible assumption) | assumption)); (try simp only [List.length_drop, List.length_take] at q0_ q1_); (try simp only [List.length_drop, List.length_take] at q2_); simp only [List.length_drop, List.length_take]; first | done | omega)
                  (try rw [hl29.out] at hcut29)
                  have HR227 := Aside0.mk (Kd.C_of_reads (h1 := fun _ => rfl) (hA29 _ (Kd.reads_of_C HR1.out)))
                  have HC227 := Aside0.mk hC29
                  clear hA29 hC29 hi029 hsz29
                  go_wp2_with (first | ((with_reducible refine gate_callee (f := 14) rfl ?_); refine goesL_ (some 60) rfl rfl Tryd.func14 (by kernel_rfl) rfl #[.slice A1 (l1.take ((ji21) : Int).toNat).length c1] rfl (by (try simp only [List.map_toArray, List.map_cons, List.map_nil]); first | done | (rw [show (l1.take ((ji21) : Int).toNat).length = (ji21).toNat from (by rw [List.length_take]; have h_ : ((ji21) : Int) ≤ (l1.length : Int) := of_decide_eq_true (by first | (with_reducible assumption) | assumption); omega)] <;> rfl) | (simp only [hji21]; rfl) | rfl | (simp only [List.length_drop, List.length_take]; rfl)) ?_; (with_reducible refine (frame_Split.calls _ _ (l1.take ((ji21) : Int).toNat) t228 t229 t230 _ ?side3 ?side1 ?side2 A24.out).mono ?_); (case side1 => repeat (first | exact (Kd.C_below HR227.out HB.out) | (with_reducible refine Kd.C_alloc ?_ _) | (with_reducible refine Kd.C_drewN ?_ _) | (with_reducible refine Kd.C_drew ?_))); (case side2 => exact HC227.out); (case side3 => first | exact HG.out | exact Glob.below HG.out HB.out | exact Glob.drewN (Glob.below HG.out HB.out) _ | exact Glob.drewN HG.out _ | (refine Glob.below HG.out ?_; (repeat (first | (with_reducible first | exact HB.out | apply below_alloc | apply pw_below_drewN | apply below_drew1) | exact HB.out)); done) | (repeat (first | exact HG.out | (with_reducible refine Glob.drewN ?_ _) | (with_reducible refine Glob.drew ?_) | (with_reducible refine Glob.alloc ?_ _)); done)); rintro e w30 ⟨v231, rfl, ho0, hb⟩; refine ⟨_, rfl, ?_⟩; have n0_ := Aside0.mk (Kd.S_lower ho0 (below_size (by repeat (first | (with_reducible first | exact HB.out | apply below_alloc | apply pw_below_drewN | apply below_drew1) | exact HB.out)))); have n1_ := Aside0.mk (below_step (by repeat (first | (with_reducible first | exact HB.out | apply below_alloc | apply pw_below_drewN | apply below_drew1) | exact HB.out)) hb); clear HB; have HO232 := n0_; have HB := n1_; clear n0_ n1_; (try clear hb); (try clear hb2); (try clear hk); (try clear hi); (try clear ho0); obtain ⟨Ao31, co31, eo31⟩ := Kd.S_slice HO232.out; subst eo31) | ((with_reducible refine gate_callee (f := 18) rfl ?_); refine goesL_ (some 69) rfl rfl Tryd.func18 (by kernel_rfl) rfl #[.slice Ao31 t228.length co31] rfl (by (try simp only [List.map_toArray, List.map_cons, List.map_nil]); first | done | rfl | (simp only [List.length_drop, List.length_take]; rfl)) ?_; (with_reducible refine (frame_Join.calls _ _ t228 t233 t234 _ ?side3 ?side1 ?side2 A26.out).mono ?_); (case side1 => repeat (first | exact (Kd.S_reads' HO232.out).2.2 | (with_reducible refine Kd.C_alloc ?_ _) | (with_reducible refine Kd.C_drewN ?_ _) | (with_reducible refine Kd.C_drew ?_))); (case side2 => exact (Kd.S_reads' HO232.out).2.1); (case side3 => first | exact HG.out | exact Glob.below HG.out HB.out | exact Glob.drewN (Glob.below HG.out HB.out) _ | exact Glob.drewN HG.out _ | (refine Glob.below HG.out ?_; (repeat (first | (with_reducible first | exact HB.out | apply below_alloc | apply pw_below_drewN | apply below_drew1) | exact HB.out)); done) | (repeat (first | exact HG.out | (with_reducible refine Glob.drewN ?_ _) | (with_reducible refine Glob.drew ?_) | (with_reducible refine Glob.alloc ?_ _)); done)); rintro e w32 ⟨v235, rfl, ho0, hb⟩; refine ⟨_, rfl, ?_⟩; have n0_ := Aside0.mk (Kd.S_elder' (by (with_reducible repeat (first | apply Kd.S_alloc | apply Kd.S_drewN | apply Kd.S_drew)); exact HO232.out) (JV.base ho0) hb); have n1_ := Aside0.mk (JV.lower ho0 (below_size (by repeat (first | (with_reducible first | exact HB.out | apply below_alloc | apply pw_below_drewN | apply below_drew1) | exact HB.out)))); have n2_ := Aside0.mk (below_step (by repeat (first | (with_reducible first | exact HB.out | apply below_alloc | apply pw_below_drewN | apply below_drew1) | exact HB.out)) hb); clear HO232; clear HB; have HO232 := n0_; have HO236 := n1_; have HB := n2_; clear n0_ n1_ n2_; (try clear hb); (try clear hb2); (try clear hk); (try clear hi); (try clear ho0); have hcv33 := JV.string HO236.out; (try have hcv33d := fun n_ : Nat => JV.string (JV.drewN HO236.out n_)); have hcv34 := Kd.C_string (P := Tryd.prog) (A := A1) (c := c1) Tryd.underlying22 Tryd.underlying5 Tryd.underlying9 (Kd.C_below HR227.out HB.out); (try rw [hl29.out] at hcv34); (try have hcv34d := fun n_ : Nat => Kd.C_string (P := Tryd.prog) (A := A1) (c := c1) Tryd.underlying22 Tryd.underlying5 Tryd.underlying9 (Kd_C_len (n := ((ji21) : Int).toNat) hl29.out (Kd.C_drewN (Kd.C_below HR227.out HB.out) n_)))))
                  go_ret
                  exact ⟨by first | rfl | (simp [errW_none, errW_some] <;> rfl) | (simp only [← hji21]; first | rfl | (simp [errW_none, errW_some] <;> rfl)) | (simp [*, errW_none, errW_some] <;> rfl), by repeat (first | (with_reducible first | exact HB.out | apply below_alloc | apply pw_below_drewN | apply below_drew1) | exact HB.out)⟩
                · rw [if_neg c28] at H
                  have c28b0 : (t234 == 0) = false := beq_eq_false_iff_ne.mpr c28
                  have c28b1 : (t234 != 0) = true := bne_iff_ne.mpr c28
                  exact absurd HT.out (by rw [← Option.some.inj H]; decide)
              · replace c27 := Bool.eq_false_iff.mpr c27
                subst c27
                have H1 : (some false) = some r := by rw [if_neg (show ¬ (false = true) by decide)] at H; exact H
                clear H
                have H := H1
                clear H1
                exact absurd HT.out (by rw [← Option.some.inj H]; decide)
            · rw [if_neg c25] at H
              have c25b0 : (t230 == 0) = false := beq_eq_false_iff_ne.mpr c25
              have c25b1 : (t230 != 0) = true := bne_iff_ne.mpr c25
              obtain rfl := Option.some.inj H
              obtain ⟨i035, hi035, _, hsz35, _⟩ := info_parts info5
              obtain ⟨hcut35, hA35, hC35⟩ := print_take_of (P := Tryd.prog) (Value.int .u8) 0 22 5 .i64 Tryd.underlying22 hi035 hsz35 A1 c1 l1 (ji21) (of_decide_eq_true (by first | (with_reducible assumption) | assumption)) (of_decide_eq_true (by first | (with_reducible assumption) | assumption)) HC1.out
              have hl35 := Aside0.mk (show (l1.take ((ji21) : Int).toNat).length = ((ji21) : Int).toNat from by have q0_ : 0 ≤ (ji21) := (of_decide_eq_true (by first | (with_reducible assumption) | assumption)); have q1_ : (ji21) ≤ (l1.length : Int) := (of_decide_eq_true (by first | (with_reducible assumption) | assumption)); (try simp only [List.length_drop, List.length_take] at q0_ q1_); (try simp only [List.length_drop, List.length_take] at q2_); simp only [List.length_drop, List.length_take]; first | done | omega)
              (try rw [hl35.out] at hcut35)
              have HR227 := Aside0.mk (Kd.C_of_reads (h1 := fun _ => rfl) (hA35 _ (Kd.reads_of_C HR1.out)))
              have HC227 := Aside0.mk hC35
              clear hA35 hC35 hi035 hsz35
              go_wp2_with (first | ((with_reducible refine gate_callee (f := 14) rfl ?_); refine goesL_ (some 60) rfl rfl Tryd.func14 (by kernel_rfl) rfl #[.slice A1 (l1.take ((ji21) : Int).toNat).length c1] rfl (by (try simp only [List.map_toArray, List.map_cons, List.map_nil]); first | done | (rw [show (l1.take ((ji21) : Int).toNat).length = (ji21).toNat from (by rw [List.length_take]; have h_ : ((ji21) : Int) ≤ (l1.length : Int) := of_decide_eq_true (by first | (with_reducible assumption) | assumption); omega)] <;> rfl) | (simp only [hji21]; rfl) | rfl | (simp only [List.length_drop, List.length_take]; rfl)) ?_; (with_reducible refine (frame_Split.calls _ _ (l1.take ((ji21) : Int).toNat) t228 t229 t230 _ ?side3 ?side1 ?side2 A24.out).mono ?_); (case side1 => repeat (first | exact (Kd.C_below HR227.out HB.out) | (with_reducible refine Kd.C_alloc ?_ _) | (with_reducible refine Kd.C_drewN ?_ _) | (with_reducible refine Kd.C_drew ?_))); (case side2 => exact HC227.out); (case side3 => first | exact HG.out | exact Glob.below HG.out HB.out | exact Glob.drewN (Glob.below HG.out HB.out) _ | exact Glob.drewN HG.out _ | (refine Glob.below HG.out ?_; (repeat (first | (with_reducible first | exact HB.out | apply below_alloc | apply pw_below_drewN | apply below_drew1) | exact HB.out)); done) | (repeat (first | exact HG.out | (with_reducible refine Glob.drewN ?_ _) | (with_reducible refine Glob.drew ?_) | (with_reducible refine Glob.alloc ?_ _)); done)); rintro e w36 ⟨v231, rfl, ho0, hb⟩; refine ⟨_, rfl, ?_⟩; have n0_ := Aside0.mk (Kd.S_lower ho0 (below_size (by repeat (first | (with_reducible first | exact HB.out | apply below_alloc | apply pw_below_drewN | apply below_drew1) | exact HB.out)))); have n1_ := Aside0.mk (below_step (by repeat (first | (with_reducible first | exact HB.out | apply below_alloc | apply pw_below_drewN | apply below_drew1) | exact HB.out)) hb); clear HB; have HO232 := n0_; have HB := n1_; clear n0_ n1_; (try clear hb); (try clear hb2); (try clear hk); (try clear hi); (try clear ho0)))
              go_ret
              exact ⟨by first | rfl | (simp [errW_none, errW_some] <;> rfl) | (simp only [← hji21]; first | rfl | (simp [errW_none, errW_some] <;> rfl)) | (simp [*, errW_none, errW_some] <;> rfl), by repeat (first | (with_reducible first | exact HB.out | apply below_alloc | apply pw_below_drewN | apply below_drew1) | exact HB.out)⟩
          · rw [if_neg c23] at H
            exact absurd H (by simp)
        · rw [if_neg c22] at H
          exact absurd H (by simp)

end Go.Proofs.YtojagnoobaleaaaDoor.Xp
