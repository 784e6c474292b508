-- Written by a program of this session (wip/tools/xprint.py), in the manner of the print of the kit.
import Derived.Test.YtojagnoobaleaaaDoorXpx0
import Derived.Test.YtojagnoobaleaaaDoorXpm
import Derived.Test.YtojagnoobaleaaaDoorStr
import Derived.Test.YtojagnoobaleaaaDoorFrY
namespace Go.Proofs.YtojagnoobaleaaaDoor.Xp
open Go.RowKit Go.Proofs.YtojagnoobaleaaaDoor.Ext Go.Proofs.YtojagnoobaleaaaDoorW.PrintWords Go.Proofs.YtojagnoobaleaaaDoorW.PrintLast Go.Proofs.YtojagnoobaleaaaDoorW.PrintMore
attribute [local go_sem] max2_int min2_int max_two min_two max_three min_three max_four min_four   -- for this text's walks alone
set_option linter.unusedVariables false
set_option linter.unusedSimpArgs false

/-! ### transeptlaw04_FrameTurned: function 11 -/
def transeptlaw04_FrameTurned.j0 : Nat → Int → Int → Bool → List ByteArray → List Int → Bool → Option (Bool)
  | 0, _, _, _, _, _, _ => none
  | k + 1, x1, x2, x7, x9, x10, x33 => if x33 = true then (some false) else (if (x10.length : Int) = 0 then (none) else (if 0 ≤ (Int.tmod (Go.bits .and .i64 x1 16777215) (x10.length : Int)) then (if (Int.tmod (Go.bits .and .i64 x1 16777215) (x10.length : Int)) < (x10.length : Int) then ((frame_Split.f (x10.set ((Int.tmod (Go.bits .and .i64 x1 16777215) (x10.length : Int)) : Int).toNat (Go.bits .xor .u8 (rd x10 (Int.tmod (Go.bits .and .i64 x1 16777215) (x10.length : Int))) x2))).bind fun bt434 => (if x7 = true then (if bt434.2.2 = 0 then ((transeptlaw04_same.f k bt434.1 x9).bind fun t439 => (some (t439 == (x2 == 0)))) else (some (false == (x2 == 0)))) else (some false))) else (none)) else (none)))
def transeptlaw04_FrameTurned.f (k : Nat) (l0 : List (List Int)) (a1 : Int) (a2 : Int) : Option (Bool) := (transeptlaw04_shown.f).bind fun t421 => ((transeptlaw04_few.f k l0).bind fun bt422 => ((frame_Join.f bt422.1).bind fun bt428 => (if bt428.2 = 0 then (transeptlaw04_FrameTurned.j0 k a1 a2 t421 bt422.2 bt428.1 (decide ((bt428.1.length : Int) < 4))) else (transeptlaw04_FrameTurned.j0 k a1 a2 t421 bt422.2 bt428.1 true))))
theorem transeptlaw04_FrameTurned.mono_l : ∀ k, (∀ y0 y1 y2 y3 y4 y5, LeO (transeptlaw04_FrameTurned.j0 k y0 y1 y2 y3 y4 y5) (transeptlaw04_FrameTurned.j0 (k + 1) y0 y1 y2 y3 y4 y5))
  | 0 => fun _ _ _ _ _ _ r h => by simp [transeptlaw04_FrameTurned.j0] at h
  | k + 1 => by
    have ih0 := transeptlaw04_FrameTurned.mono_l k
    · intro y0 y1 y2 y3 y4 y5
      unfold transeptlaw04_FrameTurned.j0
      repeat' first
      | (with_reducible exact ih0 _ _ _ _ _ _)
      | (with_reducible exact transeptlaw04_few.mono _ _)
      | (with_reducible exact transeptlaw04_same.mono _ _ _)
      | (with_reducible exact LeO.refl _)
      | (with_reducible exact LeO.none _)
      | (with_reducible refine LeO.ite ?_ ?_)
      | (with_reducible refine LeO.bind ?_ (fun _ => ?_))
      | exact ih0 _ _ _ _ _ _
      | exact transeptlaw04_few.mono _ _
      | exact transeptlaw04_same.mono _ _ _
      | exact LeO.none _
      | refine LeO.ite ?_ ?_
      | refine LeO.bind ?_ (fun _ => ?_)
theorem transeptlaw04_FrameTurned.mono : ∀ a0 a1 a2 k, LeO (transeptlaw04_FrameTurned.f k a0 a1 a2) (transeptlaw04_FrameTurned.f (k + 1) a0 a1 a2) := by
  intro a0 a1 a2 k
  have ih0 := transeptlaw04_FrameTurned.mono_l k
  unfold transeptlaw04_FrameTurned.f
  repeat' first
      | (with_reducible exact ih0 _ _ _ _ _ _)
      | (with_reducible exact transeptlaw04_few.mono _ _)
      | (with_reducible exact transeptlaw04_same.mono _ _ _)
      | (with_reducible exact LeO.refl _)
      | (with_reducible exact LeO.none _)
      | (with_reducible refine LeO.ite ?_ ?_)
      | (with_reducible refine LeO.bind ?_ (fun _ => ?_))
      | exact ih0 _ _ _ _ _ _
      | exact transeptlaw04_few.mono _ _
      | exact transeptlaw04_same.mono _ _ _
      | exact LeO.none _
      | refine LeO.ite ?_ ?_
      | refine LeO.bind ?_ (fun _ => ?_)
set_option maxHeartbeats 8000000 in
set_option maxRecDepth 100000 in
theorem transeptlaw04_FrameTurned.calls (k : Nat) (A0 : Option Addr) (c0 : Nat) (l0 : List (List Int)) (a1 : Int) (a2 : Int) (r : Bool) (w : World) (hG : Glob w) (hr0 : Kd.C (Kd.slice 5 (Kd.int .u8)) w A0 l0.length l0) (hc0 : l0.length ≤ c0) (hT_ : r = true) (h : transeptlaw04_FrameTurned.f k l0 a1 a2 = some r) :
    Calls Tryd.prog 11 #[.slice A0 l0.length c0, .int .i64 a1, .int .u8 a2] w fun e w' => e = .returned (.bool r) ∧ Below w.heap.size w w' := by
  have HG := Aside0.mk hG
  clear hG
  have HT := Aside0.mk hT_
  clear hT_
  have HR0 := Aside0.mk hr0
  have HC0 := Aside0.mk hc0
  clear hr0 hc0
  have HB := Aside0.mk (Below.refl w.heap.size w)
  have H : ((transeptlaw04_shown.f).bind fun t421 => ((transeptlaw04_few.f k l0).bind fun bt422 => ((frame_Join.f bt422.1).bind fun bt428 => (if bt428.2 = 0 then (transeptlaw04_FrameTurned.j0 k a1 a2 t421 bt422.2 bt428.1 (decide ((bt428.1.length : Int) < 4))) else (transeptlaw04_FrameTurned.j0 k a1 a2 t421 bt422.2 bt428.1 true))))) = some r := h
  clear h
  replace H := Option.bind_eq_some_iff.mp H
  obtain ⟨t421, A40, H⟩ := H
  replace H : ((transeptlaw04_few.f k l0).bind fun bt422 => ((frame_Join.f bt422.1).bind fun bt428 => (if bt428.2 = 0 then (transeptlaw04_FrameTurned.j0 k a1 a2 t421 bt422.2 bt428.1 (decide ((bt428.1.length : Int) < 4))) else (transeptlaw04_FrameTurned.j0 k a1 a2 t421 bt422.2 bt428.1 true)))) = some r := H
  have A4 := Aside0.mk A40
  clear A40
  replace H := Option.bind_eq_some_iff.mp H
  obtain ⟨⟨t422, t423⟩, A50, H⟩ := H
  replace H : ((frame_Join.f t422).bind fun bt428 => (if bt428.2 = 0 then (transeptlaw04_FrameTurned.j0 k a1 a2 t421 t423 bt428.1 (decide ((bt428.1.length : Int) < 4))) else (transeptlaw04_FrameTurned.j0 k a1 a2 t421 t423 bt428.1 true))) = some r := H
  have A5 := Aside0.mk A50
  clear A50
  replace H := Option.bind_eq_some_iff.mp H
  obtain ⟨⟨t428, t429⟩, A60, H⟩ := H
  replace H : (if t429 = 0 then (transeptlaw04_FrameTurned.j0 k a1 a2 t421 t423 t428 (decide ((t428.length : Int) < 4))) else (transeptlaw04_FrameTurned.j0 k a1 a2 t421 t423 t428 true)) = some r := H
  have A6 := Aside0.mk A60
  clear A60
  have HC7 := Aside0.mk H
  clear H
  go_enter Tryd.func11, Tryd.ntmps11
  go_upto_region 4 with (first | ((with_reducible refine gate_callee (f := 13) rfl ?_); refine goesL_ (some 16) rfl rfl Tryd.func13 (by kernel_rfl) rfl #[] rfl (by (try simp only [List.map_toArray, List.map_cons, List.map_nil]); first | done | rfl | (simp only [List.length_drop, List.length_take]; rfl)) ?_; (with_reducible refine (transeptlaw04_shown.calls  t421 _ ?side1 A4.out).mono ?_); (case side1 => first | exact HG.out | exact Glob.below HG.out HB.out | exact Glob.drewN (Glob.below HG.out HB.out) _ | exact Glob.drewN HG.out _ | (refine Glob.below HG.out ?_; (repeat (first | (with_reducible first | exact HB.out | apply below_alloc | apply pw_below_drewN | apply below_drew1) | exact HB.out)); done) | (repeat (first | exact HG.out | (with_reducible refine Glob.drewN ?_ _) | (with_reducible refine Glob.drew ?_) | (with_reducible refine Glob.alloc ?_ _)); done)); rintro e w8 ⟨rfl, hb⟩; refine ⟨_, rfl, ?_⟩; have n0_ := Aside0.mk (below_step (by repeat (first | (with_reducible first | exact HB.out | apply below_alloc | apply pw_below_drewN | apply below_drew1) | exact HB.out)) hb); clear HB; have HB := n0_; clear n0_; (try clear hb); (try clear hb2); (try clear hk); (try clear hi)) | ((with_reducible refine gate_callee (f := 17) rfl ?_); refine goesL_ (some 19) rfl rfl Tryd.func17 (by kernel_rfl) rfl #[.slice A0 l0.length c0] rfl (by (try simp only [List.map_toArray, List.map_cons, List.map_nil]); first | done | rfl | (simp only [List.length_drop, List.length_take]; rfl)) ?_; (with_reducible refine (transeptlaw04_few.calls k _ _ l0 t422 t423 _ ?side1 ?side2 A5.out).mono ?_); (case side1 => repeat (first | exact (Kd.C_below HR0.out HB.out) | (with_reducible refine Kd.C_alloc ?_ _) | (with_reducible refine Kd.C_drewN ?_ _) | (with_reducible refine Kd.C_drew ?_))); (case side2 => exact HC0.out); rintro e w9 ⟨v424, v426, rfl, ho0, ho1, hb⟩; refine ⟨_, rfl, ?_⟩; have n0_ := Aside0.mk (Kd.S_lower ho0 (below_size (by repeat (first | (with_reducible first | exact HB.out | apply below_alloc | apply pw_below_drewN | apply below_drew1) | exact HB.out)))); have n1_ := Aside0.mk (Kd.R_lower ho1 (below_size (by repeat (first | (with_reducible first | exact HB.out | apply below_alloc | apply pw_below_drewN | apply below_drew1) | exact HB.out)))); have n2_ := Aside0.mk (below_step (by repeat (first | (with_reducible first | exact HB.out | apply below_alloc | apply pw_below_drewN | apply below_drew1) | exact HB.out)) hb); clear HB; have HO425 := n0_; have HO427 := n1_; have HB := n2_; clear n0_ n1_ n2_; (try clear hb); (try clear hb2); (try clear hk); (try clear hi); (try clear ho0); (try clear ho1); obtain ⟨Ao10, co10, eo10⟩ := Kd.S_slice HO425.out; subst eo10) | ((with_reducible refine gate_callee (f := 18) rfl ?_); refine goesL_ (some 24) rfl rfl Tryd.func18 (by kernel_rfl) rfl #[.slice Ao10 t422.length co10] rfl (by (try simp only [List.map_toArray, List.map_cons, List.map_nil]); first | done | rfl | (simp only [List.length_drop, List.length_take]; rfl)) ?_; (with_reducible refine (frame_Join.calls _ _ t422 t428 t429 _ ?side3 ?side1 ?side2 A6.out).mono ?_); (case side1 => repeat (first | exact (Kd.S_reads' HO425.out).2.2 | (with_reducible refine Kd.C_alloc ?_ _) | (with_reducible refine Kd.C_drewN ?_ _) | (with_reducible refine Kd.C_drew ?_))); (case side2 => exact (Kd.S_reads' HO425.out).2.1); (case side3 => first | exact HG.out | exact Glob.below HG.out HB.out | exact Glob.drewN (Glob.below HG.out HB.out) _ | exact Glob.drewN HG.out _ | (refine Glob.below HG.out ?_; (repeat (first | (with_reducible first | exact HB.out | apply below_alloc | apply pw_below_drewN | apply below_drew1) | exact HB.out)); done) | (repeat (first | exact HG.out | (with_reducible refine Glob.drewN ?_ _) | (with_reducible refine Glob.drew ?_) | (with_reducible refine Glob.alloc ?_ _)); done)); rintro e w11 ⟨v430, rfl, ho0, hb⟩; refine ⟨_, rfl, ?_⟩; have n0_ := Aside0.mk (Kd.S_elder' (by (with_reducible repeat (first | apply Kd.S_alloc | apply Kd.S_drewN | apply Kd.S_drew)); exact HO425.out) (JV.base ho0) hb); have n1_ := Aside0.mk (Kd.R_below (by (with_reducible repeat (first | apply Kd.R_alloc | apply Kd.R_drewN | apply Kd.R_drew)); exact HO427.out) hb); have n2_ := Aside0.mk (JV.lower ho0 (below_size (by repeat (first | (with_reducible first | exact HB.out | apply below_alloc | apply pw_below_drewN | apply below_drew1) | exact HB.out)))); have n3_ := Aside0.mk (below_step (by repeat (first | (with_reducible first | exact HB.out | apply below_alloc | apply pw_below_drewN | apply below_drew1) | exact HB.out)) hb); clear HO425; clear HO427; clear HB; have HO425 := n0_; have HO427 := n1_; have HO431 := n2_; have HB := n3_; clear n0_ n1_ n2_ n3_; (try clear hb); (try clear hb2); (try clear hk); (try clear hi); (try clear ho0)))
  (try simp only [Act.put, List.setIfInBounds_toArray, List.set_cons_zero, List.set_cons_succ])
  go_cut [33] (fun v33 wc => ∃ (kq : Nat) (x33_6 : Bool), v33 = .bool x33_6 ∧ Aside0 (transeptlaw04_FrameTurned.j0 kq a1 a2 t421 t423 t428 x33_6 = some r) ∧ Aside0 (kq ≤ k) ∧ Aside0 (Kd.R Kd.string 9 wc w.heap.size (fun _ => True) v426 t423) ∧ Aside0 (JV wc w.heap.size (fun _ => True) v430 t428) ∧ Aside0 (Below w.heap.size w wc))
  case first =>
    have H := HC7.out
    clear HC7
    by_cases c12 : t429 = 0
    · rw [if_pos c12] at H
      have c12b0 : (t429 == 0) = true := beq_iff_eq.mpr c12
      have c12b1 : (t429 != 0) = false := bne_eq_false_iff_eq.mpr c12
      clear c12
      (first | rw [c12b0] | (simp only [i64_w, i32_w]; rw [c12b0]) | skip)
      have H' := Aside0.mk H
      clear H
      obtain ⟨Ao13, co13, eo13⟩ := JV.slice HO431.out
      subst eo13
      go_wp2
      go_meet
      case rel => exact ⟨_, (decide ((t428.length : Int) < 4)), (by first | rfl | (simp; done) | (simp [*]; done)), H', ⟨by first | omega | exact Nat.le_refl _⟩, ⟨by (with_reducible repeat (first | apply Kd.R_alloc | apply Kd.R_drewN | apply Kd.R_drew)); exact HO427.out⟩, ⟨by (with_reducible repeat (first | apply JV.alloc | apply JV.drewN | apply JV.drew)); exact HO431.out⟩, ⟨by repeat (first | (with_reducible first | exact HB.out | apply below_alloc | apply pw_below_drewN | apply below_drew1) | exact HB.out)⟩⟩
    · rw [if_neg c12] at H
      have c12b0 : (t429 == 0) = false := beq_eq_false_iff_ne.mpr c12
      have c12b1 : (t429 != 0) = true := bne_iff_ne.mpr c12
      (first | rw [c12b0] | (simp only [i64_w, i32_w]; rw [c12b0]) | skip)
      have H' := Aside0.mk H
      clear H
      go_wp2
      go_meet
      case rel => exact ⟨_, (true), (by first | rfl | (simp; done) | (simp [*]; done)), H', ⟨by first | omega | exact Nat.le_refl _⟩, ⟨by (with_reducible repeat (first | apply Kd.R_alloc | apply Kd.R_drewN | apply Kd.R_drew)); exact HO427.out⟩, ⟨by (with_reducible repeat (first | apply JV.alloc | apply JV.drewN | apply JV.drew)); exact HO431.out⟩, ⟨by repeat (first | (with_reducible first | exact HB.out | apply below_alloc | apply pw_below_drewN | apply below_drew1) | exact HB.out)⟩⟩
  case rest =>
    clear HC7
    try clear c1
    try clear p2
    try clear c11
    try clear c12
    try clear c12b0
    try clear c12b1
    try clear c13
    obtain ⟨kq, x33_6, rfl, HA, HJ6, HO_9, HO_10, HB⟩ := hcut
    cases kq with
    | zero => exact absurd HA.out (by simp [transeptlaw04_FrameTurned.j0])
    | succ kj6 =>
      have H := HA.out
      clear HA
      simp only [transeptlaw04_FrameTurned.j0] at H
      by_cases c14 : x33_6 = true
      · subst c14
        have H1 : (some false) = some r := by rw [if_pos rfl] at H; exact H
        clear H
        have H := H1
        clear H1
        exact absurd HT.out (by rw [← Option.some.inj H]; decide)
      · replace c14 := Bool.eq_false_iff.mpr c14
        subst c14
        have H1 : (if (t428.length : Int) = 0 then (none) else (if 0 ≤ (Int.tmod (Go.bits .and .i64 a1 16777215) (t428.length : Int)) then (if (Int.tmod (Go.bits .and .i64 a1 16777215) (t428.length : Int)) < (t428.length : Int) then ((frame_Split.f (t428.set ((Int.tmod (Go.bits .and .i64 a1 16777215) (t428.length : Int)) : Int).toNat (Go.bits .xor .u8 (rd t428 (Int.tmod (Go.bits .and .i64 a1 16777215) (t428.length : Int))) a2))).bind fun bt434 => (if t421 = true then (if bt434.2.2 = 0 then ((transeptlaw04_same.f kj6 bt434.1 t423).bind fun t439 => (some (t439 == (a2 == 0)))) else (some (false == (a2 == 0)))) else (some false))) else (none)) else (none))) = some r := by rw [if_neg (show ¬ (false = true) by decide)] at H; exact H
        clear H
        have H := H1
        clear H1
        by_cases c15 : (t428.length : Int) = 0
        · rw [if_pos c15] at H
          exact absurd H (by simp)
        · rw [if_neg c15] at H
          have c15b0 : ((t428.length : Int) == 0) = false := beq_eq_false_iff_ne.mpr c15
          have c15b1 : ((t428.length : Int) != 0) = true := bne_iff_ne.mpr c15
          have c15b2 : ¬ (t428 = []) := fun h_ => c15 (by rw [h_]; rfl)
          obtain ⟨ji16, hji16⟩ : ∃ j_ : Int, (Int.tmod (Go.bits .and .i64 a1 16777215) (t428.length : Int)) = j_ := ⟨_, rfl⟩
          replace H : (if 0 ≤ (ji16) then (if (ji16) < (t428.length : Int) then ((frame_Split.f (t428.set ((ji16) : Int).toNat (Go.bits .xor .u8 (rd t428 (ji16)) a2))).bind fun bt434 => (if t421 = true then (if bt434.2.2 = 0 then ((transeptlaw04_same.f kj6 bt434.1 t423).bind fun t439 => (some (t439 == (a2 == 0)))) else (some (false == (a2 == 0)))) else (some false))) else (none)) else (none)) = some r := by first | (rw [hji16] at H; exact H) | (simp only [hji16] at H ⊢; exact H)
          by_cases c17 : 0 ≤ (ji16)
          · rw [if_pos c17] at H
            have c17b0 : decide (0 ≤ (ji16)) = true := decide_eq_true c17
            clear c17
            by_cases c18 : (ji16) < (t428.length : Int)
            · rw [if_pos c18] at H
              have c18b0 : decide ((ji16) < (t428.length : Int)) = true := decide_eq_true c18
              clear c18
              obtain ⟨y433, hy433⟩ : ∃ y_ : List Int, y_ = (t428.set ((ji16) : Int).toNat (Go.bits .xor .u8 (rd t428 (ji16)) a2)) := ⟨_, rfl⟩
              replace H : ((frame_Split.f y433).bind fun bt434 => (if t421 = true then (if bt434.2.2 = 0 then ((transeptlaw04_same.f kj6 bt434.1 t423).bind fun t439 => (some (t439 == (a2 == 0)))) else (some (false == (a2 == 0)))) else (some false))) = some r := by first | (rw [hy433]; with_reducible exact H) | (have H2_ := (Option.bind_some _ _).symm.trans H; rw [hy433]; with_reducible exact H2_) | (have H2_ := (Option.bind_some _ _).symm.trans H; with_reducible exact H2_) | with_reducible exact H | (rw [hy433]; exact H) | exact H
              have Ny433 := Aside0.mk hy433
              clear hy433
              replace H := Option.bind_eq_some_iff.mp H
              obtain ⟨⟨t434, t435, t436⟩, A200, H⟩ := H
              replace H : (if t421 = true then (if t436 = 0 then ((transeptlaw04_same.f kj6 t434 t423).bind fun t439 => (some (t439 == (a2 == 0)))) else (some (false == (a2 == 0)))) else (some false)) = some r := H
              have A20 := Aside0.mk A200
              clear A200
              by_cases c21 : t421 = true
              · subst c21
                have H1 : (if t436 = 0 then ((transeptlaw04_same.f kj6 t434 t423).bind fun t439 => (some (t439 == (a2 == 0)))) else (some (false == (a2 == 0)))) = some r := by rw [if_pos rfl] at H; exact H
                clear H
                have H := H1
                clear H1
                by_cases c22 : t436 = 0
                · rw [if_pos c22] at H
                  have c22b0 : (t436 == 0) = true := beq_iff_eq.mpr c22
                  have c22b1 : (t436 != 0) = false := bne_eq_false_iff_eq.mpr c22
                  clear c22
                  replace H := Option.bind_eq_some_iff.mp H
                  obtain ⟨t439, A230, H⟩ := H
                  replace H : (some (t439 == (a2 == 0))) = some r := H
                  have A23 := Aside0.mk A230
                  clear A230
                  obtain rfl := Option.some.inj H
                  obtain ⟨Ao24, co24, eo24⟩ := JV.slice HO_10.out
                  subst eo24
                  have p432 : 0 ≤ ((ji16) : Int) := of_decide_eq_true (by first | (with_reducible assumption) | assumption)
                  have q432 : (ji16) < (t428.length : Int) := of_decide_eq_true (by first | (with_reducible assumption) | assumption)
                  obtain ⟨ad432, e432, hx432_0⟩ := Kd.at_int (JV.reads' HO_10.out).2.2 (ji16) p432 q432
                  cases e432
                  replace p432 := eq_true p432
                  replace q432 := eq_true q432
                  try have q432m := eq_true (by have z_ := of_eq_true q432; simp only [ByteArray.size_extract, Nat.sub_zero] at z_; exact z_)
                  have p19 : 0 ≤ ((ji16) : Int) := of_decide_eq_true (by first | (with_reducible assumption) | assumption)
                  have q19 : ((ji16) : Int) < ((t428.length : Int) : Int) := of_decide_eq_true (by first | (with_reducible assumption) | assumption)
                  obtain ⟨go19, co19, eo19, gb19, gl19, cl19, fr19, HG19⟩ := JV.form HO_10.out (by omega)
                  (first | cases eo19 | (injection eo19 with ea_ en_ ec_; (first | subst ea_ | (injection ea_ with ea_; subst ea_)); subst ec_; clear en_))
                  have GB19 := Aside0.mk gb19
                  have GG19 := Aside0.mk HG19
                  clear gb19 gl19 HG19
                  (first | simp only [add_plain] at hx432_0 | skip)
                  obtain ⟨hx19_0, hf19_0⟩ := JV.celln HO_10.out ((ji16) : Int) p19 q19
                  replace p19 := eq_true p19
                  replace q19 := eq_true q19
                  try have q19m := eq_true (by have z_ := of_eq_true q19; simp only [ByteArray.size_extract, Nat.sub_zero] at z_; exact z_)
                  have HP25 := JV.putg HO_10.out ((ji16) : Int) (Go.bits .xor .u8 (rd t428 (ji16)) a2)
                  go_wp2_with (first | ((with_reducible refine gate_store (t := 5) (p := 47) rfl ?_); refine store_event (t := 5) (p := 47) (v := ?vo_w26) (w1 := (wc.setCell ⟨go19, ((ji16) : Int).toNat, none⟩ (.int .u8 (Go.bits .xor .u8 (rd t428 (ji16)) a2)))) ?hg ?ho ?hn ?hr ?_; (case ho => rfl); (case hg => rfl); (case hn => rfl); (case hr => first | (go_simp; done) | (go_simp; rfl)); intro w26 hw; have hg : wc.grownBy w26 (some go19) := (by rw [hw]; exact HP25.2); have hp_ : JV w26 w.heap.size (fun _ => True) (.slice (some ⟨go19, 0, none⟩) t428.length co24) y433 := (by rw [hw, Ny433.out]; exact HP25.1); clear HP25; have n0_ := Aside0.mk (JV.over (v := (.slice (some ⟨go19, 0, none⟩) t428.length co24)) (by (with_reducible repeat (first | apply Kd.R_alloc | apply Kd.R_drewN | apply Kd.R_drew)); exact HO_9.out) HO_10.out hg); have n1_ := Aside0.mk (hp_); have n2_ := Aside0.mk ((by rw [hw]; exact below_set (HB.out) GB19.out : Below w.heap.size w w26)); clear HO_9; clear HO_10; clear HB; have HO_9 := n0_; have HO_10 := n1_; have HB := n2_; clear n0_ n1_ n2_; clear hg hw hp_) | ((with_reducible refine gate_callee (f := 14) rfl ?_); refine goesL_ (some 50) rfl rfl Tryd.func14 (by kernel_rfl) rfl #[.slice (some ⟨go19, 0, none⟩) y433.length co24] rfl (by (try simp only [List.map_toArray, List.map_cons, List.map_nil]); first | done | (rw [show y433.length = t428.length from (JV.reads' HO_10.out).1.symm] <;> rfl) | rfl | (simp only [List.length_drop, List.length_take]; rfl)) ?_; (with_reducible refine (frame_Split.calls _ _ y433 t434 t435 t436 _ ?side3 ?side1 ?side2 A20.out).mono ?_); (case side1 => repeat (first | exact (JV.reads' HO_10.out).2.2 | (with_reducible refine Kd.C_alloc ?_ _) | (with_reducible refine Kd.C_drewN ?_ _) | (with_reducible refine Kd.C_drew ?_))); (case side2 => rw [show y433.length = t428.length from (JV.reads' HO_10.out).1.symm]; exact (JV.reads' HO_10.out).2.1); (case side3 => first | exact HG.out | exact Glob.below HG.out HB.out | exact Glob.drewN (Glob.below HG.out HB.out) _ | exact Glob.drewN HG.out _ | (refine Glob.below HG.out ?_; (repeat (first | (with_reducible first | exact HB.out | apply below_alloc | apply pw_below_drewN | apply below_drew1) | exact HB.out)); done) | (repeat (first | exact HG.out | (with_reducible refine Glob.drewN ?_ _) | (with_reducible refine Glob.drew ?_) | (with_reducible refine Glob.alloc ?_ _)); done)); rintro e w27 ⟨v437, rfl, ho0, hb⟩; refine ⟨_, rfl, ?_⟩; have n0_ := Aside0.mk (Kd.R_below (by (with_reducible repeat (first | apply Kd.R_alloc | apply Kd.R_drewN | apply Kd.R_drew)); exact HO_9.out) hb); have n1_ := Aside0.mk (JV.below (by (with_reducible repeat (first | apply JV.alloc | apply JV.drewN | apply JV.drew)); exact HO_10.out) hb); have n2_ := Aside0.mk (Kd.S_lower (Kd.S_new' ho0 (JV.lt (by (with_reducible repeat (first | apply JV.alloc | apply JV.drewN | apply JV.drew)); exact HO_10.out))) (below_size (by repeat (first | (with_reducible first | exact HB.out | apply below_alloc | apply pw_below_drewN | apply below_drew1) | exact HB.out)))); have n3_ := Aside0.mk (below_step (by repeat (first | (with_reducible first | exact HB.out | apply below_alloc | apply pw_below_drewN | apply below_drew1) | exact HB.out)) hb); clear HO_9; clear HO_10; clear HB; have HO_9 := n0_; have HO_10 := n1_; have HO438 := n2_; have HB := n3_; clear n0_ n1_ n2_ n3_; (try clear hb); (try clear hb2); (try clear hk); (try clear hi); (try clear ho0); obtain ⟨Ao28, co28, eo28⟩ := Kd.S_slice HO438.out; subst eo28; obtain ⟨Ao29, co29, eo29⟩ := Kd.R_slice HO_9.out; subst eo29) | (go_at_call 16; (with_reducible refine (transeptlaw04_same.calls kj6 _ _ t434 _ _ t423 t439 _ ?side1 ?side2 ?side3 ?side4 A23.out).mono ?_); (case side1 => repeat (first | exact (Kd.S_reads' HO438.out).2.2 | (with_reducible refine Kd.C_alloc ?_ _) | (with_reducible refine Kd.C_drewN ?_ _) | (with_reducible refine Kd.C_drew ?_))); (case side2 => exact (Kd.S_reads' HO438.out).2.1); (case side3 => repeat (first | exact (Kd.R_reads' HO_9.out).2.2 | (with_reducible refine Kd.C_alloc ?_ _) | (with_reducible refine Kd.C_drewN ?_ _) | (with_reducible refine Kd.C_drew ?_))); (case side4 => exact (Kd.R_reads' HO_9.out).2.1); rintro e w' ⟨rfl, ⟨nd, rfl⟩⟩))
                  go_ret
                  exact ⟨by first | rfl | (simp [errW_none, errW_some] <;> rfl) | (simp only [← hji16]; first | rfl | (simp [errW_none, errW_some] <;> rfl)) | (simp [*, errW_none, errW_some] <;> rfl), by repeat (first | (with_reducible first | exact HB.out | apply below_alloc | apply pw_below_drewN | apply below_drew1) | exact HB.out)⟩
                · rw [if_neg c22] at H
                  have c22b0 : (t436 == 0) = false := beq_eq_false_iff_ne.mpr c22
                  have c22b1 : (t436 != 0) = true := bne_iff_ne.mpr c22
                  obtain rfl := Option.some.inj H
                  obtain ⟨Ao30, co30, eo30⟩ := JV.slice HO_10.out
                  subst eo30
                  have p432 : 0 ≤ ((ji16) : Int) := of_decide_eq_true (by first | (with_reducible assumption) | assumption)
                  have q432 : (ji16) < (t428.length : Int) := of_decide_eq_true (by first | (with_reducible assumption) | assumption)
                  obtain ⟨ad432, e432, hx432_0⟩ := Kd.at_int (JV.reads' HO_10.out).2.2 (ji16) p432 q432
                  cases e432
                  replace p432 := eq_true p432
                  replace q432 := eq_true q432
                  try have q432m := eq_true (by have z_ := of_eq_true q432; simp only [ByteArray.size_extract, Nat.sub_zero] at z_; exact z_)
                  have p19 : 0 ≤ ((ji16) : Int) := of_decide_eq_true (by first | (with_reducible assumption) | assumption)
                  have q19 : ((ji16) : Int) < ((t428.length : Int) : Int) := of_decide_eq_true (by first | (with_reducible assumption) | assumption)
                  obtain ⟨go19, co19, eo19, gb19, gl19, cl19, fr19, HG19⟩ := JV.form HO_10.out (by omega)
                  (first | cases eo19 | (injection eo19 with ea_ en_ ec_; (first | subst ea_ | (injection ea_ with ea_; subst ea_)); subst ec_; clear en_))
                  have GB19 := Aside0.mk gb19
                  have GG19 := Aside0.mk HG19
                  clear gb19 gl19 HG19
                  (first | simp only [add_plain] at hx432_0 | skip)
                  obtain ⟨hx19_0, hf19_0⟩ := JV.celln HO_10.out ((ji16) : Int) p19 q19
                  replace p19 := eq_true p19
                  replace q19 := eq_true q19
                  try have q19m := eq_true (by have z_ := of_eq_true q19; simp only [ByteArray.size_extract, Nat.sub_zero] at z_; exact z_)
                  have HP31 := JV.putg HO_10.out ((ji16) : Int) (Go.bits .xor .u8 (rd t428 (ji16)) a2)
                  go_wp2_with (first | ((with_reducible refine gate_store (t := 5) (p := 47) rfl ?_); refine store_event (t := 5) (p := 47) (v := ?vo_w32) (w1 := (wc.setCell ⟨go19, ((ji16) : Int).toNat, none⟩ (.int .u8 (Go.bits .xor .u8 (rd t428 (ji16)) a2)))) ?hg ?ho ?hn ?hr ?_; (case ho => rfl); (case hg => rfl); (case hn => rfl); (case hr => first | (go_simp; done) | (go_simp; rfl)); intro w32 hw; have hg : wc.grownBy w32 (some go19) := (by rw [hw]; exact HP31.2); have hp_ : JV w32 w.heap.size (fun _ => True) (.slice (some ⟨go19, 0, none⟩) t428.length co30) y433 := (by rw [hw, Ny433.out]; exact HP31.1); clear HP31; have n0_ := Aside0.mk (JV.over (v := (.slice (some ⟨go19, 0, none⟩) t428.length co30)) (by (with_reducible repeat (first | apply Kd.R_alloc | apply Kd.R_drewN | apply Kd.R_drew)); exact HO_9.out) HO_10.out hg); have n1_ := Aside0.mk (hp_); have n2_ := Aside0.mk ((by rw [hw]; exact below_set (HB.out) GB19.out : Below w.heap.size w w32)); clear HO_9; clear HO_10; clear HB; have HO_9 := n0_; have HO_10 := n1_; have HB := n2_; clear n0_ n1_ n2_; clear hg hw hp_) | ((with_reducible refine gate_callee (f := 14) rfl ?_); refine goesL_ (some 50) rfl rfl Tryd.func14 (by kernel_rfl) rfl #[.slice (some ⟨go19, 0, none⟩) y433.length co30] rfl (by (try simp only [List.map_toArray, List.map_cons, List.map_nil]); first | done | (rw [show y433.length = t428.length from (JV.reads' HO_10.out).1.symm] <;> rfl) | rfl | (simp only [List.length_drop, List.length_take]; rfl)) ?_; (with_reducible refine (frame_Split.calls _ _ y433 t434 t435 t436 _ ?side3 ?side1 ?side2 A20.out).mono ?_); (case side1 => repeat (first | exact (JV.reads' HO_10.out).2.2 | (with_reducible refine Kd.C_alloc ?_ _) | (with_reducible refine Kd.C_drewN ?_ _) | (with_reducible refine Kd.C_drew ?_))); (case side2 => rw [show y433.length = t428.length from (JV.reads' HO_10.out).1.symm]; exact (JV.reads' HO_10.out).2.1); (case side3 => first | exact HG.out | exact Glob.below HG.out HB.out | exact Glob.drewN (Glob.below HG.out HB.out) _ | exact Glob.drewN HG.out _ | (refine Glob.below HG.out ?_; (repeat (first | (with_reducible first | exact HB.out | apply below_alloc | apply pw_below_drewN | apply below_drew1) | exact HB.out)); done) | (repeat (first | exact HG.out | (with_reducible refine Glob.drewN ?_ _) | (with_reducible refine Glob.drew ?_) | (with_reducible refine Glob.alloc ?_ _)); done)); rintro e w33 ⟨v437, rfl, ho0, hb⟩; refine ⟨_, rfl, ?_⟩; have n0_ := Aside0.mk (Kd.R_below (by (with_reducible repeat (first | apply Kd.R_alloc | apply Kd.R_drewN | apply Kd.R_drew)); exact HO_9.out) hb); have n1_ := Aside0.mk (JV.below (by (with_reducible repeat (first | apply JV.alloc | apply JV.drewN | apply JV.drew)); exact HO_10.out) hb); have n2_ := Aside0.mk (Kd.S_lower (Kd.S_new' ho0 (JV.lt (by (with_reducible repeat (first | apply JV.alloc | apply JV.drewN | apply JV.drew)); exact HO_10.out))) (below_size (by repeat (first | (with_reducible first | exact HB.out | apply below_alloc | apply pw_below_drewN | apply below_drew1) | exact HB.out)))); have n3_ := Aside0.mk (below_step (by repeat (first | (with_reducible first | exact HB.out | apply below_alloc | apply pw_below_drewN | apply below_drew1) | exact HB.out)) hb); clear HO_9; clear HO_10; clear HB; have HO_9 := n0_; have HO_10 := n1_; have HO438 := n2_; have HB := n3_; clear n0_ n1_ n2_ n3_; (try clear hb); (try clear hb2); (try clear hk); (try clear hi); (try clear ho0)))
                  go_ret
                  exact ⟨by first | rfl | (simp [errW_none, errW_some] <;> rfl) | (simp only [← hji16]; first | rfl | (simp [errW_none, errW_some] <;> rfl)) | (simp [*, errW_none, errW_some] <;> rfl), by repeat (first | (with_reducible first | exact HB.out | apply below_alloc | apply pw_below_drewN | apply below_drew1) | exact HB.out)⟩
              · replace c21 := Bool.eq_false_iff.mpr c21
                subst c21
                have H1 : (some false) = some r := by rw [if_neg (show ¬ (false = true) by decide)] at H; exact H
                clear H
                have H := H1
                clear H1
                exact absurd HT.out (by rw [← Option.some.inj H]; decide)
            · rw [if_neg c18] at H
              exact absurd H (by simp)
          · rw [if_neg c17] at H
            exact absurd H (by simp)

end Go.Proofs.YtojagnoobaleaaaDoor.Xp
