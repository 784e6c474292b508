-- Written by a program of this session (wip/tools/xprint.py), in the manner of the print of the kit.
import Derived.Test.YtojagnoobaleaaaDoorXpx0
import Derived.Test.YtojagnoobaleaaaDoorXpm
import Derived.Test.YtojagnoobaleaaaDoorStr
import Derived.Test.YtojagnoobaleaaaDoorFrZ
namespace Go.Proofs.YtojagnoobaleaaaDoor.Xp
open Go.RowKit Go.Proofs.YtojagnoobaleaaaDoor.Ext Go.Proofs.YtojagnoobaleaaaDoorW.PrintWords Go.Proofs.YtojagnoobaleaaaDoorW.PrintLast Go.Proofs.YtojagnoobaleaaaDoorW.PrintMore
attribute [local go_sem] max2_int min2_int max_two min_two max_three min_three max_four min_four   -- for this text's walks alone
set_option linter.unusedVariables false
set_option linter.unusedSimpArgs false

/-! ### transeptlaw04_FrameReads: function 3 -/
def transeptlaw04_FrameReads.l0 : Nat → Bool → List Int → List (List Int) → Int → Int → List ByteArray → Int → Int → Bool → Int → Option (Bool)
  | 0, _, _, _, _, _, _, _, _, _, _ => none
  | k + 1, x3, x4, x5, x6, x7, x8, x9, x10, x11, x12 => if x12 < (x4.length : Int) then (if 0 ≤ x12 then (transeptlaw04_FrameReads.l0 k x3 (x4.set (x12 : Int).toNat 63) x5 x6 x7 x8 x9 x10 x11 (wrap64 (x12 + 1))) else (none)) else (if x3 = true then ((transeptlaw04_same.f k x5 x8).bind fun t155 => (if t155 = true then (if x6 = x9 then (if x7 = x10 then (some x11) else (some false)) else (some false)) else (some false))) else (some false))
def transeptlaw04_FrameReads.f (k : Nat) (l0 : List Int) : Option (Bool) := (transeptlaw04_shown.f).bind fun t136 => (if 0 ≤ (mn (l0.length : Int) 3000) then (if (mn (l0.length : Int) 3000) ≤ (l0.length : Int) then ((some (([] : List Int) : List Int)).bind fun y138 => (if y138.length + (l0.take ((mn (l0.length : Int) 3000) : Int).toNat).length < 140737488355328 then ((some (y138 ++ (l0.take ((mn (l0.length : Int) 3000) : Int).toNat) : List Int)).bind fun y141 => ((frame_Split.f y141).bind fun bt144 => ((transeptref04_Split.f k (strOfNums (l0.take ((mn (l0.length : Int) 3000) : Int).toNat))).bind fun bt149 => (transeptlaw04_FrameReads.l0 k t136 y141 bt144.1 bt144.2.1 bt144.2.2 bt149.1 bt149.2.1 bt149.2.2 ((strOfNums y141).toList == (strOfNums (l0.take ((mn (l0.length : Int) 3000) : Int).toNat)).toList) 0)))) else (none))) else (none)) else (none))
theorem transeptlaw04_FrameReads.mono_l : ∀ k, (∀ y0 y1 y2 y3 y4 y5 y6 y7 y8 y9, LeO (transeptlaw04_FrameReads.l0 k y0 y1 y2 y3 y4 y5 y6 y7 y8 y9) (transeptlaw04_FrameReads.l0 (k + 1) y0 y1 y2 y3 y4 y5 y6 y7 y8 y9))
  | 0 => fun _ _ _ _ _ _ _ _ _ _ r h => by simp [transeptlaw04_FrameReads.l0] at h
  | k + 1 => by
    have ih0 := transeptlaw04_FrameReads.mono_l k
    · intro y0 y1 y2 y3 y4 y5 y6 y7 y8 y9
      unfold transeptlaw04_FrameReads.l0
      repeat' first
      | (with_reducible exact ih0 _ _ _ _ _ _ _ _ _ _)
      | (with_reducible exact transeptlaw04_same.mono _ _ _)
      | (with_reducible exact transeptref04_Split.mono _ _)
      | (with_reducible exact LeO.refl _)
      | (with_reducible exact LeO.none _)
      | (with_reducible refine LeO.ite ?_ ?_)
      | (with_reducible refine LeO.bind ?_ (fun _ => ?_))
      | exact ih0 _ _ _ _ _ _ _ _ _ _
      | exact transeptlaw04_same.mono _ _ _
      | exact transeptref04_Split.mono _ _
      | exact LeO.none _
      | refine LeO.ite ?_ ?_
      | refine LeO.bind ?_ (fun _ => ?_)
theorem transeptlaw04_FrameReads.mono : ∀ a0 k, LeO (transeptlaw04_FrameReads.f k a0) (transeptlaw04_FrameReads.f (k + 1) a0) := by
  intro a0 k
  have ih0 := transeptlaw04_FrameReads.mono_l k
  unfold transeptlaw04_FrameReads.f
  repeat' first
      | (with_reducible exact ih0 _ _ _ _ _ _ _ _ _ _)
      | (with_reducible exact transeptlaw04_same.mono _ _ _)
      | (with_reducible exact transeptref04_Split.mono _ _)
      | (with_reducible exact LeO.refl _)
      | (with_reducible exact LeO.none _)
      | (with_reducible refine LeO.ite ?_ ?_)
      | (with_reducible refine LeO.bind ?_ (fun _ => ?_))
      | exact ih0 _ _ _ _ _ _ _ _ _ _
      | exact transeptlaw04_same.mono _ _ _
      | exact transeptref04_Split.mono _ _
      | exact LeO.none _
      | refine LeO.ite ?_ ?_
      | refine LeO.bind ?_ (fun _ => ?_)
set_option maxHeartbeats 8000000 in
set_option maxRecDepth 100000 in
theorem transeptlaw04_FrameReads.calls (k : Nat) (A0 : Option Addr) (c0 : Nat) (l0 : List Int) (r : Bool) (w : World) (hG : Glob w) (hr0 : Kd.C (Kd.int .u8) w A0 l0.length l0) (hc0 : l0.length ≤ c0) (hT_ : r = true) (h : transeptlaw04_FrameReads.f k l0 = some r) :
    Calls Tryd.prog 3 #[.slice A0 l0.length c0] w fun e w' => e = .returned (.bool r) ∧ Below w.heap.size w w' := by
  have HG := Aside0.mk hG
  clear hG
  have HT := Aside0.mk hT_
  clear hT_
  have HR0 := Aside0.mk hr0
  have HC0 := Aside0.mk hc0
  clear hr0 hc0
  have HB := Aside0.mk (Below.refl w.heap.size w)
  have H : ((transeptlaw04_shown.f).bind fun t136 => (if 0 ≤ (mn (l0.length : Int) 3000) then (if (mn (l0.length : Int) 3000) ≤ (l0.length : Int) then ((some (([] : List Int) : List Int)).bind fun y138 => (if y138.length + (l0.take ((mn (l0.length : Int) 3000) : Int).toNat).length < 140737488355328 then ((some (y138 ++ (l0.take ((mn (l0.length : Int) 3000) : Int).toNat) : List Int)).bind fun y141 => ((frame_Split.f y141).bind fun bt144 => ((transeptref04_Split.f k (strOfNums (l0.take ((mn (l0.length : Int) 3000) : Int).toNat))).bind fun bt149 => (transeptlaw04_FrameReads.l0 k t136 y141 bt144.1 bt144.2.1 bt144.2.2 bt149.1 bt149.2.1 bt149.2.2 ((strOfNums y141).toList == (strOfNums (l0.take ((mn (l0.length : Int) 3000) : Int).toNat)).toList) 0)))) else (none))) else (none)) else (none))) = some r := h
  clear h
  replace H := Option.bind_eq_some_iff.mp H
  obtain ⟨t136, A20, H⟩ := H
  replace H : (if 0 ≤ (mn (l0.length : Int) 3000) then (if (mn (l0.length : Int) 3000) ≤ (l0.length : Int) then ((some (([] : List Int) : List Int)).bind fun y138 => (if y138.length + (l0.take ((mn (l0.length : Int) 3000) : Int).toNat).length < 140737488355328 then ((some (y138 ++ (l0.take ((mn (l0.length : Int) 3000) : Int).toNat) : List Int)).bind fun y141 => ((frame_Split.f y141).bind fun bt144 => ((transeptref04_Split.f k (strOfNums (l0.take ((mn (l0.length : Int) 3000) : Int).toNat))).bind fun bt149 => (transeptlaw04_FrameReads.l0 k t136 y141 bt144.1 bt144.2.1 bt144.2.2 bt149.1 bt149.2.1 bt149.2.2 ((strOfNums y141).toList == (strOfNums (l0.take ((mn (l0.length : Int) 3000) : Int).toNat)).toList) 0)))) else (none))) else (none)) else (none)) = some r := H
  have A2 := Aside0.mk A20
  clear A20
  obtain ⟨ji3, hji3⟩ : ∃ j_ : Int, (mn (l0.length : Int) 3000) = j_ := ⟨_, rfl⟩
  replace H : (if 0 ≤ (ji3) then (if (ji3) ≤ (l0.length : Int) then ((some (([] : List Int) : List Int)).bind fun y138 => (if y138.length + (l0.take ((ji3) : Int).toNat).length < 140737488355328 then ((some (y138 ++ (l0.take ((ji3) : Int).toNat) : List Int)).bind fun y141 => ((frame_Split.f y141).bind fun bt144 => ((transeptref04_Split.f k (strOfNums (l0.take ((ji3) : Int).toNat))).bind fun bt149 => (transeptlaw04_FrameReads.l0 k t136 y141 bt144.1 bt144.2.1 bt144.2.2 bt149.1 bt149.2.1 bt149.2.2 ((strOfNums y141).toList == (strOfNums (l0.take ((ji3) : Int).toNat)).toList) 0)))) else (none))) else (none)) else (none)) = some r := by first | (rw [hji3] at H; exact H) | (simp only [hji3] at H ⊢; exact H)
  (try rw [hji3] at A2)
  (try (have hji3h : ji3 ≤ 3000 := by (rw [← hji3]; unfold mn; (repeat' split) <;> omega)))
  (try (have hji3g : ji3 ≤ 64 := by omega))
  (try (have hji3l : 0 ≤ ji3 := by (rw [← hji3]; unfold mn; (repeat' split) <;> omega)))
  (try (have hji3m : 0 ≤ ji3 := by omega))
  have hji3_ : (if 3000 < (l0.length : Int) then 3000 else (l0.length : Int)) = ji3 := hji3
  by_cases c4 : 0 ≤ (ji3)
  · rw [if_pos c4] at H
    have c4b0 := eq_true c4
    have c4b1 : decide (0 ≤ (ji3)) = true := decide_eq_true c4
    clear c4
    by_cases c5 : (ji3) ≤ (l0.length : Int)
    · rw [if_pos c5] at H
      have c5b0 := eq_true c5
      have c5b1 : decide ((ji3) ≤ (l0.length : Int)) = true := decide_eq_true c5
      clear c5
      obtain ⟨y138, hy138⟩ : ∃ y_ : List Int, y_ = (([] : List Int)) := ⟨_, rfl⟩
      replace H : (if y138.length + (l0.take ((ji3) : Int).toNat).length < 140737488355328 then ((some (y138 ++ (l0.take ((ji3) : Int).toNat) : List Int)).bind fun y141 => ((frame_Split.f y141).bind fun bt144 => ((transeptref04_Split.f k (strOfNums (l0.take ((ji3) : Int).toNat))).bind fun bt149 => (transeptlaw04_FrameReads.l0 k t136 y141 bt144.1 bt144.2.1 bt144.2.2 bt149.1 bt149.2.1 bt149.2.2 ((strOfNums y141).toList == (strOfNums (l0.take ((ji3) : Int).toNat)).toList) 0)))) else (none)) = some r := by first | (rw [hy138]; with_reducible exact H) | (have H2_ := (Option.bind_some _ _).symm.trans H; rw [hy138]; with_reducible exact H2_) | (have H2_ := (Option.bind_some _ _).symm.trans H; with_reducible exact H2_) | with_reducible exact H | (rw [hy138]; exact H) | exact H
      have Ny138 := Aside0.mk hy138
      clear hy138
      by_cases c6 : y138.length + (l0.take ((ji3) : Int).toNat).length < 140737488355328
      · rw [if_pos c6] at H
        have LMc6 := Aside0.mk c6
        clear c6
        obtain ⟨y141, hy141⟩ : ∃ y_ : List Int, y_ = (y138 ++ (l0.take ((ji3) : Int).toNat)) := ⟨_, rfl⟩
        replace H : ((frame_Split.f y141).bind fun bt144 => ((transeptref04_Split.f k (strOfNums (l0.take ((ji3) : Int).toNat))).bind fun bt149 => (transeptlaw04_FrameReads.l0 k t136 y141 bt144.1 bt144.2.1 bt144.2.2 bt149.1 bt149.2.1 bt149.2.2 ((strOfNums y141).toList == (strOfNums (l0.take ((ji3) : Int).toNat)).toList) 0))) = some r := by first | (rw [hy141]; with_reducible exact H) | (have H2_ := (Option.bind_some _ _).symm.trans H; rw [hy141]; with_reducible exact H2_) | (have H2_ := (Option.bind_some _ _).symm.trans H; with_reducible exact H2_) | with_reducible exact H | (rw [hy141]; exact H) | exact H
        have Ny141 := Aside0.mk hy141
        clear hy141
        replace H := Option.bind_eq_some_iff.mp H
        obtain ⟨⟨t144, t145, t146⟩, A70, H⟩ := H
        replace H : ((transeptref04_Split.f k (strOfNums (l0.take ((ji3) : Int).toNat))).bind fun bt149 => (transeptlaw04_FrameReads.l0 k t136 y141 t144 t145 t146 bt149.1 bt149.2.1 bt149.2.2 ((strOfNums y141).toList == (strOfNums (l0.take ((ji3) : Int).toNat)).toList) 0)) = some r := H
        have A7 := Aside0.mk A70
        clear A70
        replace H := Option.bind_eq_some_iff.mp H
        obtain ⟨⟨t149, t150, t151⟩, A80, H⟩ := H
        replace H : (transeptlaw04_FrameReads.l0 k t136 y141 t144 t145 t146 t149 t150 t151 ((strOfNums y141).toList == (strOfNums (l0.take ((ji3) : Int).toNat)).toList) 0) = some r := H
        have A8 := Aside0.mk A80
        clear A80
        have H' := Aside0.mk H
        clear H
        go_enter Tryd.func3, Tryd.ntmps3
        go_wp2_with (first | ((with_reducible refine gate_callee (f := 13) rfl ?_); refine goesL_ (some 13) rfl rfl Tryd.func13 (by kernel_rfl) rfl #[] rfl (by (try simp only [List.map_toArray, List.map_cons, List.map_nil]); first | done | rfl | (simp only [List.length_drop, List.length_take]; rfl)) ?_; (with_reducible refine (transeptlaw04_shown.calls  t136 _ ?side1 A2.out).mono ?_); (case side1 => first | exact HG.out | exact Glob.below HG.out HB.out | exact Glob.drewN (Glob.below HG.out HB.out) _ | exact Glob.drewN HG.out _ | (refine Glob.below HG.out ?_; (repeat (first | (with_reducible first | exact HB.out | apply below_alloc | apply pw_below_drewN | apply below_drew1) | exact HB.out)); done) | (repeat (first | exact HG.out | (with_reducible refine Glob.drewN ?_ _) | (with_reducible refine Glob.drew ?_) | (with_reducible refine Glob.alloc ?_ _)); done)); rintro e w9 ⟨rfl, hb⟩; refine ⟨_, rfl, ?_⟩; have n0_ := Aside0.mk (below_step (by repeat (first | (with_reducible first | exact HB.out | apply below_alloc | apply pw_below_drewN | apply below_drew1) | exact HB.out)) hb); clear HB; have HB := n0_; clear n0_; (try clear hb); (try clear hb2); (try clear hk); (try clear hi); obtain ⟨i010, hi010, _, hsz10, _⟩ := info_parts info5; obtain ⟨hcut10, hA10, hC10⟩ := print_take_of (P := Tryd.prog) (Value.int .u8) 0 22 5 .i64 Tryd.underlying22 hi010 hsz10 A0 c0 l0 (ji3) (of_decide_eq_true (by first | (with_reducible assumption) | assumption)) (of_decide_eq_true (by first | (with_reducible assumption) | assumption)) HC0.out; have hl10 := Aside0.mk (show (l0.take ((ji3) : Int).toNat).length = ((ji3) : Int).toNat from by have q0_ : 0 ≤ (ji3) := (of_decide_eq_true (by first | (with_reducible assumption) | assumption)); have q1_ : (ji3) ≤ (l0.length : Int) := (of_decide_eq_true (by first | (with_reducible assumption) | assumption)); (try simp only [List.length_drop, List.length_take] at q0_ q1_); (try simp only [List.length_drop, List.length_take] at q2_); simp only [List.length_drop, List.length_take]; first | done | omega); (try rw [hl10.out] at hcut10); have HR137 := Aside0.mk (Kd.C_of_reads (h1 := fun _ => rfl) (hA10 _ (Kd.reads_of_C HR0.out))); have HC137 := Aside0.mk hC10; clear hA10 hC10 hi010 hsz10) | ((with_reducible refine gate_dst (N := 19) rfl ?_); refine Kd.R_lit (Kd.int .u8) _ 5 ?hg (N := 19) ?hd (xs := ([] : List Int)) (inner := []) (ok := fun _ => True) (okp := fun _ => True) ?hr ?hp (fun _ hk => hk) trivial (Below.refl _ _) (Nat.le_refl _) (by simp) ?_; (case hd => rfl); (case hg => rfl); (case hr => first | (go_simp; done) | (go_simp; rfl)); (case hp => exact (Reps.none _ _)); intro v139 w11 ho12 hb hg_ hnew_; clear hg_ hnew_; (first | rw [← Ny138.out] at ho12 | (simp only [Int.reduceToNat] at ho12; rw [← Ny138.out] at ho12)); have n0_ := Aside0.mk (Kd.R_lower ho12 (below_size (by repeat (first | (with_reducible first | exact HB.out | apply below_alloc | apply pw_below_drewN | apply below_drew1) | exact HB.out)))); have n1_ := Aside0.mk (below_step (by repeat (first | (with_reducible first | exact HB.out | apply below_alloc | apply pw_below_drewN | apply below_drew1) | exact HB.out)) hb); clear HB; have HO140 := n0_; have HB := n1_; clear n0_ n1_; clear hb ho12) | ((with_reducible refine gate_builtin (b := .append) (xs := #[.tmp 19, .tmp 20]) rfl ?_); at_builtin; refine Kd.R_append_rows (Kd.int .u8) (w0 := w) w.heap.size rfl (.tmp 19) (.tmp 20) 22 5 (.int .u8 0) 1 rfl Tryd.underlying22 info5 rfl (by decide) (by omega) v139 y138 (l0.take ((ji3) : Int).toNat) _ _ _ (fun _ => True) (fun _ => False) rfl rfl ?aO ?aR (fun _ _ h => h) (fun _ h => h.elim) ?aF ?aB ?aS ?aL ?_; (case aR => first | (refine Kd_C_len (show (l0.take ((ji3) : Int).toNat).length = (ji3).toNat from (by rw [List.length_take]; have h_ : ((ji3) : Int) ≤ (l0.length : Int) := of_decide_eq_true (by first | (with_reducible assumption) | assumption); omega)) ?_; repeat (first | exact (Kd.C_below HR137.out HB.out) | (with_reducible refine Kd.C_alloc ?_ _) | (with_reducible refine Kd.C_drewN ?_ _) | (with_reducible refine Kd.C_drew ?_))) | (repeat (first | exact (Kd.C_below HR137.out HB.out) | (with_reducible refine Kd.C_alloc ?_ _) | (with_reducible refine Kd.C_drewN ?_ _) | (with_reducible refine Kd.C_drew ?_)))); (case aB => exact (by repeat (first | (with_reducible first | exact HB.out | apply below_alloc | apply pw_below_drewN | apply below_drew1) | exact HB.out))); (case aF => exact (fun _ _ => trivial)); (case aO => exact (by (with_reducible repeat (first | apply Kd.R_alloc | apply Kd.R_drewN | apply Kd.R_drew)); exact HO140.out)); (case aS => exact (below_size (by repeat (first | (with_reducible first | exact HB.out | apply below_alloc | apply pw_below_drewN | apply below_drew1) | exact HB.out)))); (case aL => have := LMc6.out; have hlx_ := (show (l0.take ((ji3) : Int).toNat).length = (ji3).toNat from (by rw [List.length_take]; have h_ : ((ji3) : Int) ≤ (l0.length : Int) := of_decide_eq_true (by first | (with_reducible assumption) | assumption); omega)); omega); intro v142 w13 ho hb hg hat; rw [← Ny141.out] at ho; have n0_ := Aside0.mk (hb); have n1_ := Aside0.mk (ho); clear HB; clear HO140; have HB := n0_; have HO143 := n1_; clear n0_ n1_; clear ho hb hg hat; obtain ⟨Ao14, co14, eo14⟩ := Kd.R_slice HO143.out; subst eo14) | ((with_reducible refine gate_callee (f := 14) rfl ?_); refine goesL_ (some 24) rfl rfl Tryd.func14 (by kernel_rfl) rfl #[.slice Ao14 y141.length co14] rfl (by (try simp only [List.map_toArray, List.map_cons, List.map_nil]); first | done | rfl | (simp only [List.length_drop, List.length_take]; rfl)) ?_; (with_reducible refine (frame_Split.calls _ _ y141 t144 t145 t146 _ ?side3 ?side1 ?side2 A7.out).mono ?_); (case side1 => repeat (first | exact (Kd.R_reads' HO143.out).2.2 | (with_reducible refine Kd.C_alloc ?_ _) | (with_reducible refine Kd.C_drewN ?_ _) | (with_reducible refine Kd.C_drew ?_))); (case side2 => exact (Kd.R_reads' HO143.out).2.1); (case side3 => first | exact HG.out | exact Glob.below HG.out HB.out | exact Glob.drewN (Glob.below HG.out HB.out) _ | exact Glob.drewN HG.out _ | (refine Glob.below HG.out ?_; (repeat (first | (with_reducible first | exact HB.out | apply below_alloc | apply pw_below_drewN | apply below_drew1) | exact HB.out)); done) | (repeat (first | exact HG.out | (with_reducible refine Glob.drewN ?_ _) | (with_reducible refine Glob.drew ?_) | (with_reducible refine Glob.alloc ?_ _)); done)); rintro e w15 ⟨v147, rfl, ho0, hb⟩; refine ⟨_, rfl, ?_⟩; have n0_ := Aside0.mk (Kd.R_below (by (with_reducible repeat (first | apply Kd.R_alloc | apply Kd.R_drewN | apply Kd.R_drew)); exact HO143.out) hb); have n1_ := Aside0.mk (Kd.S_lower (Kd.S_new' ho0 (Kd.R_lt (by (with_reducible repeat (first | apply Kd.R_alloc | apply Kd.R_drewN | apply Kd.R_drew)); exact HO143.out))) (below_size (by repeat (first | (with_reducible first | exact HB.out | apply below_alloc | apply pw_below_drewN | apply below_drew1) | exact HB.out)))); have n2_ := Aside0.mk (below_step (by repeat (first | (with_reducible first | exact HB.out | apply below_alloc | apply pw_below_drewN | apply below_drew1) | exact HB.out)) hb); clear HO143; clear HB; have HO143 := n0_; have HO148 := n1_; have HB := n2_; clear n0_ n1_ n2_; (try clear hb); (try clear hb2); (try clear hk); (try clear hi); (try clear ho0); have hcv16 := Kd.C_string (P := Tryd.prog) (A := A0) (c := c0) Tryd.underlying22 Tryd.underlying5 Tryd.underlying9 (Kd.C_below HR137.out HB.out); (try rw [hl10.out] at hcv16); (try have hcv16d := fun n_ : Nat => Kd.C_string (P := Tryd.prog) (A := A0) (c := c0) Tryd.underlying22 Tryd.underlying5 Tryd.underlying9 (Kd_C_len (n := ((ji3) : Int).toNat) hl10.out (Kd.C_drewN (Kd.C_below HR137.out HB.out) n_)))) | ((with_reducible refine gate_callee (f := 15) rfl ?_); refine goesL_ (some 31) rfl rfl Tryd.func15 (by kernel_rfl) rfl #[.string (strOfNums (l0.take ((ji3) : Int).toNat))] rfl (by (try simp only [List.map_toArray, List.map_cons, List.map_nil]); first | done | (simp only [hji3]; rfl) | rfl | (simp only [List.length_drop, List.length_take]; rfl)) ?_; (with_reducible refine (transeptref04_Split.calls k (strOfNums (l0.take ((ji3) : Int).toNat)) t149 t150 t151 _ A8.out).mono ?_); rintro e w17 ⟨v152, rfl, ho0, hb⟩; refine ⟨_, rfl, ?_⟩; have n0_ := Aside0.mk (Kd.R_below (by (with_reducible repeat (first | apply Kd.R_alloc | apply Kd.R_drewN | apply Kd.R_drew)); exact HO143.out) hb); have n1_ := Aside0.mk (Kd.S_below (by (with_reducible repeat (first | apply Kd.S_alloc | apply Kd.S_drewN | apply Kd.S_drew)); exact HO148.out) hb); have n2_ := Aside0.mk (Kd.R_lower ho0 (below_size (by repeat (first | (with_reducible first | exact HB.out | apply below_alloc | apply pw_below_drewN | apply below_drew1) | exact HB.out)))); have n3_ := Aside0.mk (below_step (by repeat (first | (with_reducible first | exact HB.out | apply below_alloc | apply pw_below_drewN | apply below_drew1) | exact HB.out)) hb); clear HO143; clear HO148; clear HB; have HO143 := n0_; have HO148 := n1_; have HO153 := n2_; have HB := n3_; clear n0_ n1_ n2_ n3_; (try clear hb); (try clear hb2); (try clear hk); (try clear hi); (try clear ho0); have hcv18 := own_string (P := Tryd.prog) Tryd.underlying22 Tryd.underlying5 Tryd.underlying9 (Kd.own_of_R HO143.out); (try have hcv18d := fun n_ : Nat => own_string (P := Tryd.prog) Tryd.underlying22 Tryd.underlying5 Tryd.underlying9 (Kd.own_of_R (Kd.R_drewN HO143.out n_))); have hcv19 := Kd.C_string (P := Tryd.prog) (A := A0) (c := c0) Tryd.underlying22 Tryd.underlying5 Tryd.underlying9 (Kd.C_below HR137.out HB.out); (try rw [hl10.out] at hcv19); (try have hcv19d := fun n_ : Nat => Kd.C_string (P := Tryd.prog) (A := A0) (c := c0) Tryd.underlying22 Tryd.underlying5 Tryd.underlying9 (Kd_C_len (n := ((ji3) : Int).toNat) hl10.out (Kd.C_drewN (Kd.C_below HR137.out HB.out) n_)))))
        go_loopg [12] k (fun kq v12 w' => ∃ (x4_1 : List Int) (x12_1 : Int), v12 = .int .i64 x12_1 ∧ Aside0 (transeptlaw04_FrameReads.l0 kq t136 x4_1 t144 t145 t146 t149 t150 t151 ((strOfNums y141).toList == (strOfNums (l0.take ((ji3) : Int).toNat)).toList) x12_1 = some r) ∧ Aside0 (kq ≤ k) ∧ Aside0 (Kd.R (Kd.int .u8) 5 w' w.heap.size (fun _ => True) (.slice Ao14 y141.length co14) x4_1) ∧ Aside0 (Kd.S (Kd.slice 5 (Kd.int .u8)) 22 w' w.heap.size (fun k_ => some k_ ≠ ((.slice Ao14 y141.length co14) : Value).ownBlock) v147 t144) ∧ Aside0 (Kd.R Kd.string 9 w' w.heap.size (fun _ => True) v152 t149) ∧ Aside0 (Below w.heap.size w w'))
        case atStart => exact ⟨(y141), (0), (by first | rfl | (simp; done) | (simp [*]; done)), H', ⟨Nat.le_refl _⟩, ⟨by (with_reducible repeat (first | apply Kd.R_alloc | apply Kd.R_drewN | apply Kd.R_drew)); exact HO143.out⟩, ⟨by (with_reducible repeat (first | apply Kd.S_alloc | apply Kd.S_drewN | apply Kd.S_drew)); exact Kd.S_mono HO148.out (fun _ hk => hk.2)⟩, ⟨by (with_reducible repeat (first | apply Kd.R_alloc | apply Kd.R_drewN | apply Kd.R_drew)); exact HO153.out⟩, ⟨by repeat (first | (with_reducible first | exact HB.out | apply below_alloc | apply pw_below_drewN | apply below_drew1) | exact HB.out)⟩⟩
        case round =>
          clear H'
          try clear c1
          try clear hcv1
          try clear p2
          try clear c3
          try clear c4
          try clear c4b0
          try clear c4b1
          try clear c5
          try clear c5b0
          try clear c5b1
          try clear c6
          try clear c13
          try clear c14
          try clear c15
          try clear hcv16
          try clear hcv18
          try clear hcv19
          obtain ⟨x4_1, x12_1, rfl, HA, HK1, HO_4, HO_5, HO_8, HB⟩ := hrel
          have hl4_1 := (Kd.R_reads' HO_4.out).1
          rw [hl4_1] at HO_4
          (try simp only [hl4_1])
          (try simp only [hl4_1] at HO_5)
          (try simp only [hl4_1] at HO_8)
          cases gk with
          | zero => exact absurd HA.out (by simp [transeptlaw04_FrameReads.l0])
          | succ k1 =>
            have H := HA.out
            clear HA
            simp only [transeptlaw04_FrameReads.l0] at H
            by_cases c20 : x12_1 < (x4_1.length : Int)
            · rw [if_pos c20] at H
              have c20b0 : decide (x12_1 < (x4_1.length : Int)) = true := decide_eq_true c20
              clear c20
              by_cases c21 : 0 ≤ x12_1
              · rw [if_pos c21] at H
                have c21b0 : decide (0 ≤ x12_1) = true := decide_eq_true c21
                clear c21
                obtain ⟨y154, hy154⟩ : ∃ y_ : List Int, y_ = (x4_1.set (x12_1 : Int).toNat 63) := ⟨_, rfl⟩
                replace H : (transeptlaw04_FrameReads.l0 k1 t136 y154 t144 t145 t146 t149 t150 t151 ((strOfNums y141).toList == (strOfNums (l0.take ((ji3) : Int).toNat)).toList) (wrap64 (x12_1 + 1))) = some r := by first | (rw [hy154]; with_reducible exact H) | (have H2_ := (Option.bind_some _ _).symm.trans H; rw [hy154]; with_reducible exact H2_) | (have H2_ := (Option.bind_some _ _).symm.trans H; with_reducible exact H2_) | with_reducible exact H | (rw [hy154]; exact H) | exact H
                have Ny154 := Aside0.mk hy154
                clear hy154
                have H' := Aside0.mk H
                clear H
                have p22 : 0 ≤ (x12_1 : Int) := of_decide_eq_true (by first | (with_reducible assumption) | assumption)
                have q22 : (x12_1 : Int) < ((x4_1.length : Int) : Int) := of_decide_eq_true (by first | (with_reducible assumption) | assumption)
                obtain ⟨go22, co22, eo22, gb22, gl22, cl22, HG22⟩ := Kd.R_form HO_4.out (by omega)
                (first | cases eo22 | (injection eo22 with ea_ en_ ec_; (first | subst ea_ | (injection ea_ with ea_; subst ea_)); subst ec_; clear en_))
                have GB22 := Aside0.mk gb22
                have GG22 := Aside0.mk HG22
                clear gb22 gl22 HG22
                obtain ⟨hx22_0, hf22_0⟩ := Kd.R_celln 0 HO_4.out (x12_1 : Int) p22 q22
                replace p22 := eq_true p22
                replace q22 := eq_true q22
                try have q22m := eq_true (by have z_ := of_eq_true q22; simp only [ByteArray.size_extract, Nat.sub_zero] at z_; exact z_)
                have HP23 := Kd.R_putg HO_4.out (x12_1 : Int) 63
                go_wp2_with (first | ((with_reducible refine gate_store (t := 5) (p := 48) rfl ?_); refine store_event (t := 5) (p := 48) (v := ?vo_w24) (w1 := (wr.setCell ⟨go22, (x12_1 : Int).toNat, none⟩ (.int .u8 63))) ?hg ?ho ?hn ?hr ?_; (case ho => rfl); (case hg => rfl); (case hn => rfl); (case hr => first | (go_simp; done) | (go_simp; rfl)); intro w24 hw; have hg : wr.grownBy w24 (some go22) := (by rw [hw]; exact HP23.2); have hp_ : Kd.R (Kd.int .u8) 5 w24 w.heap.size (fun _ => True) (.slice (some ⟨go22, 0, none⟩) x4_1.length co14) y154 := (by rw [hw, Ny154.out]; exact HP23.1); clear HP23; have n0_ := Aside0.mk (hp_); have n1_ := Aside0.mk (Kd.S_after (v := (.slice (some ⟨go22, 0, none⟩) x4_1.length co14)) (v1 := (.slice (some ⟨go22, 0, none⟩) x4_1.length co14)) (ok := (fun _ => True)) (by (with_reducible repeat (first | apply Kd.S_alloc | apply Kd.S_drewN | apply Kd.S_drew)); exact Kd.S_mono HO_5.out (fun _ hk => ⟨trivial, hk⟩)) hg (.inl rfl)); have n2_ := Aside0.mk (Kd.R_over' (v := (.slice (some ⟨go22, 0, none⟩) x4_1.length co14)) (by (with_reducible repeat (first | apply Kd.R_alloc | apply Kd.R_drewN | apply Kd.R_drew)); exact HO_8.out) (Kd.R_typed HO_4.out) (by decide) hg); have n3_ := Aside0.mk ((by rw [hw]; exact below_set (HB.out) GB22.out : Below w.heap.size w w24)); clear HO_4; clear HO_5; clear HO_8; clear HB; have HO_4 := n0_; have HO_5 := n1_; have HO_8 := n2_; have HB := n3_; clear n0_ n1_ n2_ n3_; clear hg hw hp_))
                (try simp only [← hl4_1])
                go_roundg k1
                case measure => have := HK1.out; omega
                case rel => exact ⟨(y154), (wrap64 (x12_1 + 1)), (by first | rfl | (simp; done) | (simp [*]; done)), H', ⟨by have := HK1.out; omega⟩, ⟨by (try simp only [hl4_1]); (with_reducible repeat (first | apply Kd.R_alloc | apply Kd.R_drewN | apply Kd.R_drew)); exact HO_4.out⟩, ⟨by (try simp only [hl4_1]); (with_reducible repeat (first | apply Kd.S_alloc | apply Kd.S_drewN | apply Kd.S_drew)); exact Kd.S_mono HO_5.out (fun _ hk => hk.2)⟩, ⟨by (try simp only [hl4_1]); (with_reducible repeat (first | apply Kd.R_alloc | apply Kd.R_drewN | apply Kd.R_drew)); exact HO_8.out⟩, ⟨by repeat (first | (with_reducible first | exact HB.out | apply below_alloc | apply pw_below_drewN | apply below_drew1) | exact HB.out)⟩⟩
              · rw [if_neg c21] at H
                exact absurd H (by simp)
            · rw [if_neg c20] at H
              have c20b0 : decide (x12_1 < (x4_1.length : Int)) = false := decide_eq_false c20
              clear c20
              by_cases c25 : t136 = true
              · subst c25
                have H1 : ((transeptlaw04_same.f k1 t144 t149).bind fun t155 => (if t155 = true then (if t145 = t150 then (if t146 = t151 then (some ((strOfNums y141).toList == (strOfNums (l0.take ((ji3) : Int).toNat)).toList)) else (some false)) else (some false)) else (some false))) = some r := by rw [if_pos rfl] at H; exact H
                clear H
                have H := H1
                clear H1
                replace H := Option.bind_eq_some_iff.mp H
                obtain ⟨t155, A260, H⟩ := H
                replace H : (if t155 = true then (if t145 = t150 then (if t146 = t151 then (some ((strOfNums y141).toList == (strOfNums (l0.take ((ji3) : Int).toNat)).toList)) else (some false)) else (some false)) else (some false)) = some r := H
                have A26 := Aside0.mk A260
                clear A260
                by_cases c27 : t155 = true
                · subst c27
                  have H1 : (if t145 = t150 then (if t146 = t151 then (some ((strOfNums y141).toList == (strOfNums (l0.take ((ji3) : Int).toNat)).toList)) else (some false)) else (some false)) = some r := by rw [if_pos rfl] at H; exact H
                  clear H
                  have H := H1
                  clear H1
                  by_cases c28 : t145 = t150
                  · rw [if_pos c28] at H
                    have c28b0 : (t145 == t150) = true := beq_iff_eq.mpr c28
                    have c28b1 : (t145 != t150) = false := bne_eq_false_iff_eq.mpr c28
                    clear c28
                    by_cases c29 : t146 = t151
                    · rw [if_pos c29] at H
                      have c29b0 : (t146 == t151) = true := beq_iff_eq.mpr c29
                      have c29b1 : (t146 != t151) = false := bne_eq_false_iff_eq.mpr c29
                      clear c29
                      obtain rfl := Option.some.inj H
                      obtain ⟨Ao30, co30, eo30⟩ := Kd.S_slice HO_5.out
                      subst eo30
                      obtain ⟨Ao31, co31, eo31⟩ := Kd.R_slice HO_8.out
                      subst eo31
                      go_wp2_with (first | (go_at_call 16; (with_reducible refine (transeptlaw04_same.calls k1 _ _ t144 _ _ t149 true _ ?side1 ?side2 ?side3 ?side4 A26.out).mono ?_); (case side1 => repeat (first | exact (Kd.S_reads' HO_5.out).2.2 | (with_reducible refine Kd.C_alloc ?_ _) | (with_reducible refine Kd.C_drewN ?_ _) | (with_reducible refine Kd.C_drew ?_))); (case side2 => exact (Kd.S_reads' HO_5.out).2.1); (case side3 => repeat (first | exact (Kd.R_reads' HO_8.out).2.2 | (with_reducible refine Kd.C_alloc ?_ _) | (with_reducible refine Kd.C_drewN ?_ _) | (with_reducible refine Kd.C_drew ?_))); (case side4 => exact (Kd.R_reads' HO_8.out).2.1); rintro e w' ⟨rfl, ⟨nd, rfl⟩⟩))
                      go_ret
                      exact ⟨by first | rfl | (simp [errW_none, errW_some] <;> rfl) | (simp only [← hji3]; first | rfl | (simp [errW_none, errW_some] <;> rfl)) | (simp [*, errW_none, errW_some] <;> rfl), by repeat (first | (with_reducible first | exact HB.out | apply below_alloc | apply pw_below_drewN | apply below_drew1) | exact HB.out)⟩
                    · rw [if_neg c29] at H
                      have c29b0 : (t146 == t151) = false := beq_eq_false_iff_ne.mpr c29
                      have c29b1 : (t146 != t151) = true := bne_iff_ne.mpr c29
                      exact absurd HT.out (by rw [← Option.some.inj H]; decide)
                  · rw [if_neg c28] at H
                    have c28b0 : (t145 == t150) = false := beq_eq_false_iff_ne.mpr c28
                    have c28b1 : (t145 != t150) = true := bne_iff_ne.mpr c28
                    exact absurd HT.out (by rw [← Option.some.inj H]; decide)
                · replace c27 := Bool.eq_false_iff.mpr c27
                  subst c27
                  have H1 : (some false) = some r := by rw [if_neg (show ¬ (false = true) by decide)] at H; exact H
                  clear H
                  have H := H1
                  clear H1
                  exact absurd HT.out (by rw [← Option.some.inj H]; decide)
              · replace c25 := Bool.eq_false_iff.mpr c25
                subst c25
                have H1 : (some false) = some r := by rw [if_neg (show ¬ (false = true) by decide)] at H; exact H
                clear H
                have H := H1
                clear H1
                exact absurd HT.out (by rw [← Option.some.inj H]; decide)
      · rw [if_neg c6] at H
        exact absurd H (by simp)
    · rw [if_neg c5] at H
      exact absurd H (by simp)
  · rw [if_neg c4] at H
    exact absurd H (by simp)

/-- THE ONE PURE STATEMENT of transeptlaw04_FrameReads: yours. -/
def transeptlaw04_FrameReads.Pure : Prop := ∀ (l0 : List Int), l0.length ≤ maxLen → l0.length * 1 ≤ 140737488351232 → (∀ x ∈ l0, (Lit.int .u8 x).wf = true) → ∃ k, transeptlaw04_FrameReads.f k l0 = some true
theorem transeptlaw04_FrameReads.walk (P : transeptlaw04_FrameReads.Pure) (a0 : Option Addr) (len0 cap0 : Nat) (z0 : List Int) (w : World) (hG : Glob w) (w0 : (a0 = none ∧ len0 = 0 ∧ cap0 = 0 ∧ z0 = []) ∨ ∃ x, a0 = some x ∧ len0 ≤ cap0 ∧ cap0 ≤ maxLen ∧ z0.length = cap0 ∧ (∀ i, i < z0.length → w.cell? (x.add i) = some (.int .u8 (z0.getD i 0))) ∧ ∀ n ∈ z0, (Lit.int .u8 n).wf = true) (y0 : len0 * 1 ≤ 140737488351232) :
    Calls Tryd.prog 3 #[.slice a0 len0 cap0] w fun e w' => e = .returned (.bool true) ∧ Below w.heap.size w w' := by
  obtain ⟨l0, rfl, hr0, hm0, hw0, hc0⟩ := ReadsInt.ofRowC w0
  obtain ⟨k, h⟩ := P l0 hm0 y0 hw0
  refine (transeptlaw04_FrameReads.calls k _ _ l0 true w hG (Kd.C_of_reads (d := (0 : Int)) (h1 := fun _ => rfl) hr0) hc0 rfl h).mono ?_
  rintro e w' ⟨rfl, hd⟩
  exact ⟨rfl, hd⟩

end Go.Proofs.YtojagnoobaleaaaDoor.Xp
