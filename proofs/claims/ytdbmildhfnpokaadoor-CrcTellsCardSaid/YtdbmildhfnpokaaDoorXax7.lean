-- Written by a program of this session (wip/tools/xprint.py), in the manner of the print of the kit.
import Derived.Test.YtdbmildhfnpokaaDoorXax0
import Derived.Test.YtdbmildhfnpokaaDoorXax3
import Derived.Test.YtdbmildhfnpokaaDoorXax5
import Derived.Test.YtdbmildhfnpokaaDoorXax6
import Derived.Test.YtdbmildhfnpokaaDoorShown
namespace Go.Proofs.YtdbmildhfnpokaaDoor.Xa
open Go.RowKit Go.Proofs.YtdbmildhfnpokaaDoor.Ext Go.Proofs.YtdbmildhfnpokaaDoorW.PrintWords Go.Proofs.YtdbmildhfnpokaaDoorW.PrintLast Go.Proofs.YtdbmildhfnpokaaDoorW.PrintMore
attribute [local go_sem] max2_int min2_int max_two min_two max_three min_three max_four min_four   -- for this text's walks alone
set_option linter.unusedVariables false
set_option linter.unusedSimpArgs false

/-! ### transeptlaw02_CrcTells: function 3 -/
def transeptlaw02_CrcTells.f (k : Nat) (l0 : List Int) (a1 : Int) : Option (Bool) := (transeptlaw02_shown.f).bind fun t105 => (if 0 ≤ (mn (l0.length : Int) 1500) then (if (mn (l0.length : Int) 1500) ≤ (l0.length : Int) then ((some (([] : List Int) : List Int)).bind fun y107 => (if y107.length + (l0.take ((mn (l0.length : Int) 1500) : Int).toNat).length < 140737488355328 then ((some (y107 ++ (l0.take ((mn (l0.length : Int) 1500) : Int).toNat) : List Int)).bind fun y110 => (if t105 = true then ((crc_Sum.f y110).bind fun t113 => ((transeptref02_Sum.f k (strOfNums (l0.take ((mn (l0.length : Int) 1500) : Int).toNat))).bind fun t114 => (if t113 = t114 then ((crc_More.f a1 y110).bind fun t115 => ((transeptref02_More.f k a1 (strOfNums (l0.take ((mn (l0.length : Int) 1500) : Int).toNat))).bind fun t116 => (if t115 = t116 then (some ((strOfNums y110).toList == (strOfNums (l0.take ((mn (l0.length : Int) 1500) : Int).toNat)).toList)) else (some false)))) else (some false)))) else (some false))) else (none))) else (none)) else (none))
theorem transeptlaw02_CrcTells.mono : ∀ a0 a1 k, LeO (transeptlaw02_CrcTells.f k a0 a1) (transeptlaw02_CrcTells.f (k + 1) a0 a1) := by
  intro a0 a1 k
  unfold transeptlaw02_CrcTells.f
  repeat' first
      | (with_reducible exact transeptref02_More.mono _ _ _)
      | (with_reducible exact transeptref02_Sum.mono _ _)
      | (with_reducible exact LeO.refl _)
      | (with_reducible exact LeO.none _)
      | (with_reducible refine LeO.ite ?_ ?_)
      | (with_reducible refine LeO.bind ?_ (fun _ => ?_))
      | exact transeptref02_More.mono _ _ _
      | exact transeptref02_Sum.mono _ _
      | exact LeO.none _
      | refine LeO.ite ?_ ?_
      | refine LeO.bind ?_ (fun _ => ?_)
set_option maxHeartbeats 8000000 in
set_option maxRecDepth 100000 in
theorem transeptlaw02_CrcTells.calls (k : Nat) (A0 : Option Addr) (c0 : Nat) (l0 : List Int) (a1 : Int) (r : Bool) (w : World) (hG : Glob w) (hr0 : Kd.C (Kd.int .u8) w A0 l0.length l0) (hc0 : l0.length ≤ c0) (hT_ : r = true) (h : transeptlaw02_CrcTells.f k l0 a1 = some r) :
    Calls Tryd.prog 3 #[.slice A0 l0.length c0, .int .u32 a1] w fun e w' => e = .returned (.bool r) ∧ Below w.heap.size w w' := by
  have HG := Aside0.mk hG
  clear hG
  have HT := Aside0.mk hT_
  clear hT_
  have HR0 := Aside0.mk hr0
  have HC0 := Aside0.mk hc0
  clear hr0 hc0
  have HB := Aside0.mk (Below.refl w.heap.size w)
  have H : ((transeptlaw02_shown.f).bind fun t105 => (if 0 ≤ (mn (l0.length : Int) 1500) then (if (mn (l0.length : Int) 1500) ≤ (l0.length : Int) then ((some (([] : List Int) : List Int)).bind fun y107 => (if y107.length + (l0.take ((mn (l0.length : Int) 1500) : Int).toNat).length < 140737488355328 then ((some (y107 ++ (l0.take ((mn (l0.length : Int) 1500) : Int).toNat) : List Int)).bind fun y110 => (if t105 = true then ((crc_Sum.f y110).bind fun t113 => ((transeptref02_Sum.f k (strOfNums (l0.take ((mn (l0.length : Int) 1500) : Int).toNat))).bind fun t114 => (if t113 = t114 then ((crc_More.f a1 y110).bind fun t115 => ((transeptref02_More.f k a1 (strOfNums (l0.take ((mn (l0.length : Int) 1500) : Int).toNat))).bind fun t116 => (if t115 = t116 then (some ((strOfNums y110).toList == (strOfNums (l0.take ((mn (l0.length : Int) 1500) : Int).toNat)).toList)) else (some false)))) else (some false)))) else (some false))) else (none))) else (none)) else (none))) = some r := h
  clear h
  replace H := Option.bind_eq_some_iff.mp H
  obtain ⟨t105, A30, H⟩ := H
  replace H : (if 0 ≤ (mn (l0.length : Int) 1500) then (if (mn (l0.length : Int) 1500) ≤ (l0.length : Int) then ((some (([] : List Int) : List Int)).bind fun y107 => (if y107.length + (l0.take ((mn (l0.length : Int) 1500) : Int).toNat).length < 140737488355328 then ((some (y107 ++ (l0.take ((mn (l0.length : Int) 1500) : Int).toNat) : List Int)).bind fun y110 => (if t105 = true then ((crc_Sum.f y110).bind fun t113 => ((transeptref02_Sum.f k (strOfNums (l0.take ((mn (l0.length : Int) 1500) : Int).toNat))).bind fun t114 => (if t113 = t114 then ((crc_More.f a1 y110).bind fun t115 => ((transeptref02_More.f k a1 (strOfNums (l0.take ((mn (l0.length : Int) 1500) : Int).toNat))).bind fun t116 => (if t115 = t116 then (some ((strOfNums y110).toList == (strOfNums (l0.take ((mn (l0.length : Int) 1500) : Int).toNat)).toList)) else (some false)))) else (some false)))) else (some false))) else (none))) else (none)) else (none)) = some r := H
  have A3 := Aside0.mk A30
  clear A30
  obtain ⟨ji4, hji4⟩ : ∃ j_ : Int, (mn (l0.length : Int) 1500) = j_ := ⟨_, rfl⟩
  replace H : (if 0 ≤ (ji4) then (if (ji4) ≤ (l0.length : Int) then ((some (([] : List Int) : List Int)).bind fun y107 => (if y107.length + (l0.take ((ji4) : Int).toNat).length < 140737488355328 then ((some (y107 ++ (l0.take ((ji4) : Int).toNat) : List Int)).bind fun y110 => (if t105 = true then ((crc_Sum.f y110).bind fun t113 => ((transeptref02_Sum.f k (strOfNums (l0.take ((ji4) : Int).toNat))).bind fun t114 => (if t113 = t114 then ((crc_More.f a1 y110).bind fun t115 => ((transeptref02_More.f k a1 (strOfNums (l0.take ((ji4) : Int).toNat))).bind fun t116 => (if t115 = t116 then (some ((strOfNums y110).toList == (strOfNums (l0.take ((ji4) : Int).toNat)).toList)) else (some false)))) else (some false)))) else (some false))) else (none))) else (none)) else (none)) = some r := by first | (rw [hji4] at H; exact H) | (simp only [hji4] at H ⊢; exact H)
  (try rw [hji4] at A3)
  (try (have hji4h : ji4 ≤ 1500 := by (rw [← hji4]; unfold mn; (repeat' split) <;> omega)))
  (try (have hji4g : ji4 ≤ 64 := by omega))
  (try (have hji4l : 0 ≤ ji4 := by (rw [← hji4]; unfold mn; (repeat' split) <;> omega)))
  (try (have hji4m : 0 ≤ ji4 := by omega))
  have hji4_ : (if 1500 < (l0.length : Int) then 1500 else (l0.length : Int)) = ji4 := hji4
  by_cases c5 : 0 ≤ (ji4)
  · rw [if_pos c5] at H
    have c5b0 := eq_true c5
    have c5b1 : decide (0 ≤ (ji4)) = true := decide_eq_true c5
    clear c5
    by_cases c6 : (ji4) ≤ (l0.length : Int)
    · rw [if_pos c6] at H
      have c6b0 := eq_true c6
      have c6b1 : decide ((ji4) ≤ (l0.length : Int)) = true := decide_eq_true c6
      clear c6
      obtain ⟨y107, hy107⟩ : ∃ y_ : List Int, y_ = (([] : List Int)) := ⟨_, rfl⟩
      replace H : (if y107.length + (l0.take ((ji4) : Int).toNat).length < 140737488355328 then ((some (y107 ++ (l0.take ((ji4) : Int).toNat) : List Int)).bind fun y110 => (if t105 = true then ((crc_Sum.f y110).bind fun t113 => ((transeptref02_Sum.f k (strOfNums (l0.take ((ji4) : Int).toNat))).bind fun t114 => (if t113 = t114 then ((crc_More.f a1 y110).bind fun t115 => ((transeptref02_More.f k a1 (strOfNums (l0.take ((ji4) : Int).toNat))).bind fun t116 => (if t115 = t116 then (some ((strOfNums y110).toList == (strOfNums (l0.take ((ji4) : Int).toNat)).toList)) else (some false)))) else (some false)))) else (some false))) else (none)) = some r := by first | (rw [hy107]; with_reducible exact H) | (have H2_ := (Option.bind_some _ _).symm.trans H; rw [hy107]; with_reducible exact H2_) | (have H2_ := (Option.bind_some _ _).symm.trans H; with_reducible exact H2_) | with_reducible exact H | (rw [hy107]; exact H) | exact H
      have Ny107 := Aside0.mk hy107
      clear hy107
      by_cases c7 : y107.length + (l0.take ((ji4) : Int).toNat).length < 140737488355328
      · rw [if_pos c7] at H
        have LMc7 := Aside0.mk c7
        clear c7
        obtain ⟨y110, hy110⟩ : ∃ y_ : List Int, y_ = (y107 ++ (l0.take ((ji4) : Int).toNat)) := ⟨_, rfl⟩
        replace H : (if t105 = true then ((crc_Sum.f y110).bind fun t113 => ((transeptref02_Sum.f k (strOfNums (l0.take ((ji4) : Int).toNat))).bind fun t114 => (if t113 = t114 then ((crc_More.f a1 y110).bind fun t115 => ((transeptref02_More.f k a1 (strOfNums (l0.take ((ji4) : Int).toNat))).bind fun t116 => (if t115 = t116 then (some ((strOfNums y110).toList == (strOfNums (l0.take ((ji4) : Int).toNat)).toList)) else (some false)))) else (some false)))) else (some false)) = some r := by first | (rw [hy110]; with_reducible exact H) | (have H2_ := (Option.bind_some _ _).symm.trans H; rw [hy110]; with_reducible exact H2_) | (have H2_ := (Option.bind_some _ _).symm.trans H; with_reducible exact H2_) | with_reducible exact H | (rw [hy110]; exact H) | exact H
        have Ny110 := Aside0.mk hy110
        clear hy110
        by_cases c8 : t105 = true
        · subst c8
          have H1 : ((crc_Sum.f y110).bind fun t113 => ((transeptref02_Sum.f k (strOfNums (l0.take ((ji4) : Int).toNat))).bind fun t114 => (if t113 = t114 then ((crc_More.f a1 y110).bind fun t115 => ((transeptref02_More.f k a1 (strOfNums (l0.take ((ji4) : Int).toNat))).bind fun t116 => (if t115 = t116 then (some ((strOfNums y110).toList == (strOfNums (l0.take ((ji4) : Int).toNat)).toList)) else (some false)))) else (some false)))) = some r := by rw [if_pos rfl] at H; exact H
          clear H
          have H := H1
          clear H1
          replace H := Option.bind_eq_some_iff.mp H
          obtain ⟨t113, A90, H⟩ := H
          replace H : ((transeptref02_Sum.f k (strOfNums (l0.take ((ji4) : Int).toNat))).bind fun t114 => (if t113 = t114 then ((crc_More.f a1 y110).bind fun t115 => ((transeptref02_More.f k a1 (strOfNums (l0.take ((ji4) : Int).toNat))).bind fun t116 => (if t115 = t116 then (some ((strOfNums y110).toList == (strOfNums (l0.take ((ji4) : Int).toNat)).toList)) else (some false)))) else (some false))) = some r := H
          have A9 := Aside0.mk A90
          clear A90
          replace H := Option.bind_eq_some_iff.mp H
          obtain ⟨t114, A100, H⟩ := H
          replace H : (if t113 = t114 then ((crc_More.f a1 y110).bind fun t115 => ((transeptref02_More.f k a1 (strOfNums (l0.take ((ji4) : Int).toNat))).bind fun t116 => (if t115 = t116 then (some ((strOfNums y110).toList == (strOfNums (l0.take ((ji4) : Int).toNat)).toList)) else (some false)))) else (some false)) = some r := H
          have A10 := Aside0.mk A100
          clear A100
          by_cases c11 : t113 = t114
          · rw [if_pos c11] at H
            have c11b0 : (t113 == t114) = true := beq_iff_eq.mpr c11
            have c11b1 : (t113 != t114) = false := bne_eq_false_iff_eq.mpr c11
            clear c11
            replace H := Option.bind_eq_some_iff.mp H
            obtain ⟨t115, A120, H⟩ := H
            replace H : ((transeptref02_More.f k a1 (strOfNums (l0.take ((ji4) : Int).toNat))).bind fun t116 => (if t115 = t116 then (some ((strOfNums y110).toList == (strOfNums (l0.take ((ji4) : Int).toNat)).toList)) else (some false))) = some r := H
            have A12 := Aside0.mk A120
            clear A120
            replace H := Option.bind_eq_some_iff.mp H
            obtain ⟨t116, A130, H⟩ := H
            replace H : (if t115 = t116 then (some ((strOfNums y110).toList == (strOfNums (l0.take ((ji4) : Int).toNat)).toList)) else (some false)) = some r := H
            have A13 := Aside0.mk A130
            clear A130
            by_cases c14 : t115 = t116
            · rw [if_pos c14] at H
              have c14b0 : (t115 == t116) = true := beq_iff_eq.mpr c14
              have c14b1 : (t115 != t116) = false := bne_eq_false_iff_eq.mpr c14
              clear c14
              obtain rfl := Option.some.inj H
              go_enter Tryd.func3, Tryd.ntmps3
              go_wp2_with (first | ((with_reducible refine gate_callee (f := 9) rfl ?_); refine goesL_ (some 8) rfl rfl Tryd.func9 (by kernel_rfl) rfl #[] rfl (by (try simp only [List.map_toArray, List.map_cons, List.map_nil]); first | done | rfl | (simp only [List.length_drop, List.length_take]; rfl)) ?_; (with_reducible refine (transeptlaw02_shown.calls  true _ ?side1 A3.out).mono ?_); (case side1 => first | exact HG.out | exact Glob.below HG.out HB.out | exact Glob.drewN (Glob.below HG.out HB.out) _ | exact Glob.drewN HG.out _ | (refine Glob.below HG.out ?_; (repeat (first | (with_reducible first | exact HB.out | apply below_alloc | apply pw_below_drewN | apply below_drew1) | exact HB.out)); done) | (repeat (first | exact HG.out | (with_reducible refine Glob.drewN ?_ _) | (with_reducible refine Glob.drew ?_) | (with_reducible refine Glob.alloc ?_ _)); done)); rintro e w15 ⟨rfl, hb⟩; refine ⟨_, rfl, ?_⟩; have n0_ := Aside0.mk (below_step (by repeat (first | (with_reducible first | exact HB.out | apply below_alloc | apply pw_below_drewN | apply below_drew1) | exact HB.out)) hb); clear HB; have HB := n0_; clear n0_; (try clear hb); (try clear hb2); (try clear hk); (try clear hi); obtain ⟨i016, hi016, _, hsz16, _⟩ := info_parts info5; obtain ⟨hcut16, hA16, hC16⟩ := print_take_of (P := Tryd.prog) (Value.int .u8) 0 22 5 .i64 Tryd.underlying22 hi016 hsz16 A0 c0 l0 (ji4) (of_decide_eq_true (by first | (with_reducible assumption) | assumption)) (of_decide_eq_true (by first | (with_reducible assumption) | assumption)) HC0.out; have hl16 := Aside0.mk (show (l0.take ((ji4) : Int).toNat).length = ((ji4) : Int).toNat from by have q0_ : 0 ≤ (ji4) := (of_decide_eq_true (by first | (with_reducible assumption) | assumption)); have q1_ : (ji4) ≤ (l0.length : Int) := (of_decide_eq_true (by first | (with_reducible assumption) | assumption)); (try simp only [List.length_drop, List.length_take] at q0_ q1_); (try simp only [List.length_drop, List.length_take] at q2_); simp only [List.length_drop, List.length_take]; first | done | omega); (try rw [hl16.out] at hcut16); have HR106 := Aside0.mk (Kd.C_of_reads (h1 := fun _ => rfl) (hA16 _ (Kd.reads_of_C HR0.out))); have HC106 := Aside0.mk hC16; clear hA16 hC16 hi016 hsz16) | ((with_reducible refine gate_dst (N := 14) rfl ?_); refine Kd.R_lit (Kd.int .u8) _ 5 ?hg (N := 14) ?hd (xs := ([] : List Int)) (inner := []) (ok := fun _ => True) (okp := fun _ => True) ?hr ?hp (fun _ hk => hk) trivial (Below.refl _ _) (Nat.le_refl _) (by simp) ?_; (case hd => rfl); (case hg => rfl); (case hr => first | (go_simp; done) | (go_simp; rfl)); (case hp => exact (Reps.none _ _)); intro v108 w17 ho18 hb hg_ hnew_; clear hg_ hnew_; (first | rw [← Ny107.out] at ho18 | (simp only [Int.reduceToNat] at ho18; rw [← Ny107.out] at ho18)); have n0_ := Aside0.mk (Kd.R_lower ho18 (below_size (by repeat (first | (with_reducible first | exact HB.out | apply below_alloc | apply pw_below_drewN | apply below_drew1) | exact HB.out)))); have n1_ := Aside0.mk (below_step (by repeat (first | (with_reducible first | exact HB.out | apply below_alloc | apply pw_below_drewN | apply below_drew1) | exact HB.out)) hb); clear HB; have HO109 := n0_; have HB := n1_; clear n0_ n1_; clear hb ho18) | ((with_reducible refine gate_builtin (b := .append) (xs := #[.tmp 14, .tmp 15]) rfl ?_); at_builtin; refine Kd.R_append_rows (Kd.int .u8) (w0 := w) w.heap.size rfl (.tmp 14) (.tmp 15) 22 5 (.int .u8 0) 1 rfl Tryd.underlying22 info5 rfl (by decide) (by omega) v108 y107 (l0.take ((ji4) : Int).toNat) _ _ _ (fun _ => True) (fun _ => False) rfl rfl ?aO ?aR (fun _ _ h => h) (fun _ h => h.elim) ?aF ?aB ?aS ?aL ?_; (case aR => first | (refine Kd_C_len (show (l0.take ((ji4) : Int).toNat).length = (ji4).toNat from (by rw [List.length_take]; have h_ : ((ji4) : Int) ≤ (l0.length : Int) := of_decide_eq_true (by first | (with_reducible assumption) | assumption); omega)) ?_; repeat (first | exact (Kd.C_below HR106.out HB.out) | (with_reducible refine Kd.C_alloc ?_ _) | (with_reducible refine Kd.C_drewN ?_ _) | (with_reducible refine Kd.C_drew ?_))) | (repeat (first | exact (Kd.C_below HR106.out HB.out) | (with_reducible refine Kd.C_alloc ?_ _) | (with_reducible refine Kd.C_drewN ?_ _) | (with_reducible refine Kd.C_drew ?_)))); (case aB => exact (by repeat (first | (with_reducible first | exact HB.out | apply below_alloc | apply pw_below_drewN | apply below_drew1) | exact HB.out))); (case aF => exact (fun _ _ => trivial)); (case aO => exact (by (with_reducible repeat (first | apply Kd.R_alloc | apply Kd.R_drewN | apply Kd.R_drew)); exact HO109.out)); (case aS => exact (below_size (by repeat (first | (with_reducible first | exact HB.out | apply below_alloc | apply pw_below_drewN | apply below_drew1) | exact HB.out)))); (case aL => have := LMc7.out; have hlx_ := (show (l0.take ((ji4) : Int).toNat).length = (ji4).toNat from (by rw [List.length_take]; have h_ : ((ji4) : Int) ≤ (l0.length : Int) := of_decide_eq_true (by first | (with_reducible assumption) | assumption); omega)); omega); intro v111 w19 ho hb hg hat; rw [← Ny110.out] at ho; have n0_ := Aside0.mk (hb); have n1_ := Aside0.mk (ho); clear HB; clear HO109; have HB := n0_; have HO112 := n1_; clear n0_ n1_; clear ho hb hg hat; have hcv20 := Kd.C_string (P := Tryd.prog) (A := A0) (c := c0) Tryd.underlying22 Tryd.underlying5 Tryd.underlying9 (Kd.C_below HR106.out HB.out); (try rw [hl16.out] at hcv20); (try have hcv20d := fun n_ : Nat => Kd.C_string (P := Tryd.prog) (A := A0) (c := c0) Tryd.underlying22 Tryd.underlying5 Tryd.underlying9 (Kd_C_len (n := ((ji4) : Int).toNat) hl16.out (Kd.C_drewN (Kd.C_below HR106.out HB.out) n_))); obtain ⟨Ao21, co21, eo21⟩ := Kd.R_slice HO112.out; subst eo21) | (go_at_call 10; (with_reducible refine (crc_Sum.calls _ _ y110 t113 _ ?side3 ?side1 ?side2 A9.out).mono ?_); (case side1 => repeat (first | exact (Kd.R_reads' HO112.out).2.2 | (with_reducible refine Kd.C_alloc ?_ _) | (with_reducible refine Kd.C_drewN ?_ _) | (with_reducible refine Kd.C_drew ?_))); (case side2 => exact (Kd.R_reads' HO112.out).2.1); (case side3 => first | exact HG.out | exact Glob.below HG.out HB.out | exact Glob.drewN (Glob.below HG.out HB.out) _ | exact Glob.drewN HG.out _ | (refine Glob.below HG.out ?_; (repeat (first | (with_reducible first | exact HB.out | apply below_alloc | apply pw_below_drewN | apply below_drew1) | exact HB.out)); done) | (repeat (first | exact HG.out | (with_reducible refine Glob.drewN ?_ _) | (with_reducible refine Glob.drew ?_) | (with_reducible refine Glob.alloc ?_ _)); done)); rintro e w' ⟨rfl, ⟨nd, rfl⟩⟩) | (go_at_call 11; (with_reducible refine (transeptref02_Sum.calls k (strOfNums (l0.take ((ji4) : Int).toNat)) t114 _ A10.out).mono ?_); rintro e w' ⟨rfl, ⟨nd, rfl⟩⟩) | (go_at_call 12; (with_reducible refine (crc_More.calls a1 _ _ y110 t115 _ ?side3 ?side1 ?side2 A12.out).mono ?_); (case side1 => repeat (first | exact (Kd.R_reads' HO112.out).2.2 | (with_reducible refine Kd.C_alloc ?_ _) | (with_reducible refine Kd.C_drewN ?_ _) | (with_reducible refine Kd.C_drew ?_))); (case side2 => exact (Kd.R_reads' HO112.out).2.1); (case side3 => first | exact HG.out | exact Glob.below HG.out HB.out | exact Glob.drewN (Glob.below HG.out HB.out) _ | exact Glob.drewN HG.out _ | (refine Glob.below HG.out ?_; (repeat (first | (with_reducible first | exact HB.out | apply below_alloc | apply pw_below_drewN | apply below_drew1) | exact HB.out)); done) | (repeat (first | exact HG.out | (with_reducible refine Glob.drewN ?_ _) | (with_reducible refine Glob.drew ?_) | (with_reducible refine Glob.alloc ?_ _)); done)); rintro e w' ⟨rfl, ⟨nd, rfl⟩⟩) | (go_at_call 13; (with_reducible refine (transeptref02_More.calls k a1 (strOfNums (l0.take ((ji4) : Int).toNat)) t116 _ A13.out).mono ?_); rintro e w' ⟨rfl, ⟨nd, rfl⟩⟩; have hcv22 := own_string (P := Tryd.prog) Tryd.underlying22 Tryd.underlying5 Tryd.underlying9 (Kd.own_of_R HO112.out); (try have hcv22d := fun n_ : Nat => own_string (P := Tryd.prog) Tryd.underlying22 Tryd.underlying5 Tryd.underlying9 (Kd.own_of_R (Kd.R_drewN HO112.out n_)))))
              go_ret
              exact ⟨by first | rfl | (simp [errW_none, errW_some] <;> rfl) | (simp only [← hji4]; first | rfl | (simp [errW_none, errW_some] <;> rfl)) | (simp [*, errW_none, errW_some] <;> rfl), by repeat (first | (with_reducible first | exact HB.out | apply below_alloc | apply pw_below_drewN | apply below_drew1) | exact HB.out)⟩
            · rw [if_neg c14] at H
              have c14b0 : (t115 == t116) = false := beq_eq_false_iff_ne.mpr c14
              have c14b1 : (t115 != t116) = true := bne_iff_ne.mpr c14
              exact absurd HT.out (by rw [← Option.some.inj H]; decide)
          · rw [if_neg c11] at H
            have c11b0 : (t113 == t114) = false := beq_eq_false_iff_ne.mpr c11
            have c11b1 : (t113 != t114) = true := bne_iff_ne.mpr c11
            exact absurd HT.out (by rw [← Option.some.inj H]; decide)
        · replace c8 := Bool.eq_false_iff.mpr c8
          subst c8
          have H1 : (some false) = some r := by rw [if_neg (show ¬ (false = true) by decide)] at H; exact H
          clear H
          have H := H1
          clear H1
          exact absurd HT.out (by rw [← Option.some.inj H]; decide)
      · rw [if_neg c7] at H
        exact absurd H (by simp)
    · rw [if_neg c6] at H
      exact absurd H (by simp)
  · rw [if_neg c5] at H
    exact absurd H (by simp)

/-- THE ONE PURE STATEMENT of transeptlaw02_CrcTells: yours. -/
def transeptlaw02_CrcTells.Pure : Prop := ∀ (l0 : List Int) (a1 : Int), l0.length ≤ maxLen → l0.length * 1 ≤ 140737488351232 → (∀ x ∈ l0, (Lit.int .u8 x).wf = true) → (Lit.int .u32 a1).wf = true → ∃ k, transeptlaw02_CrcTells.f k l0 a1 = some true
theorem transeptlaw02_CrcTells.walk (P : transeptlaw02_CrcTells.Pure) (a0 : Option Addr) (len0 cap0 : Nat) (z0 : List Int) (a1 : Int) (w : World) (hG : Glob w) (w0 : (a0 = none ∧ len0 = 0 ∧ cap0 = 0 ∧ z0 = []) ∨ ∃ x, a0 = some x ∧ len0 ≤ cap0 ∧ cap0 ≤ maxLen ∧ z0.length = cap0 ∧ (∀ i, i < z0.length → w.cell? (x.add i) = some (.int .u8 (z0.getD i 0))) ∧ ∀ n ∈ z0, (Lit.int .u8 n).wf = true) (y0 : len0 * 1 ≤ 140737488351232) (w1 : (Lit.int .u32 a1).wf = true) :
    Calls Tryd.prog 3 #[.slice a0 len0 cap0, .int .u32 a1] w fun e w' => e = .returned (.bool true) ∧ Below w.heap.size w w' := by
  obtain ⟨l0, rfl, hr0, hm0, hw0, hc0⟩ := ReadsInt.ofRowC w0
  obtain ⟨k, h⟩ := P l0 a1 hm0 y0 hw0 w1
  refine (transeptlaw02_CrcTells.calls k _ _ l0 a1 true w hG (Kd.C_of_reads (d := (0 : Int)) (h1 := fun _ => rfl) hr0) hc0 rfl h).mono ?_
  rintro e w' ⟨rfl, hd⟩
  exact ⟨rfl, hd⟩

end Go.Proofs.YtdbmildhfnpokaaDoor.Xa
