-- Written by a program of this session (wip/tools/xprint.py), in the manner of the print of the kit.
import Derived.Test.YtojagnoobaleaaaDoorXpx0
import Derived.Test.YtojagnoobaleaaaDoorXpm
import Derived.Test.YtojagnoobaleaaaDoorStr
import Derived.Test.YtojagnoobaleaaaDoorFrZ
namespace Go.Proofs.YtojagnoobaleaaaDoor.Xp
open Go.RowKit Go.Proofs.YtojagnoobaleaaaDoor.Ext Go.Proofs.YtojagnoobaleaaaDoorW.PrintWords Go.Proofs.YtojagnoobaleaaaDoorW.PrintLast Go.Proofs.YtojagnoobaleaaaDoorW.PrintMore
attribute [local go_sem] max2_int min2_int max_two min_two max_three min_three max_four min_four   -- for this text's walks alone
set_option linter.unusedVariables false
set_option linter.unusedSimpArgs false

/-! ### transeptlaw04_FrameCuts: function 6 -/
def transeptlaw04_FrameCuts.f (k : Nat) (l0 : List (List Int)) (a1 : Int) : Option (Bool) := (transeptlaw04_shown.f).bind fun t237 => ((transeptlaw04_few.f k l0).bind fun bt238 => ((frame_Join.f bt238.1).bind fun bt244 => (if bt244.2 = 0 then (if (wrap64 ((bt244.1.length : Int) + 1)) = 0 then (none) else (if 0 ≤ (Int.tmod (Go.bits .and .i64 a1 16777215) (wrap64 ((bt244.1.length : Int) + 1))) then (if (Int.tmod (Go.bits .and .i64 a1 16777215) (wrap64 ((bt244.1.length : Int) + 1))) ≤ (bt244.1.length : Int) then ((frame_Split.f (bt244.1.take ((Int.tmod (Go.bits .and .i64 a1 16777215) (wrap64 ((bt244.1.length : Int) + 1))) : Int).toNat)).bind fun bt252 => (if bt252.2.1 = (Int.tmod (Go.bits .and .i64 a1 16777215) (wrap64 ((bt244.1.length : Int) + 1))) then (if (bt252.1.length : Int) > (bt238.2.length : Int) then (some false) else (if 0 ≤ (bt252.1.length : Int) then (if (bt252.1.length : Int) ≤ (bt238.2.length : Int) then ((transeptlaw04_same.f k bt252.1 (bt238.2.take ((bt252.1.length : Int) : Int).toNat)).bind fun t261 => (if t261 = true then ((transeptref04_Join.f k (bt238.2.take ((bt252.1.length : Int) : Int).toNat)).bind fun t266 => (if t237 = true then (if ((bt252.2.2 == 0) == ((t266.size : Int) == (Int.tmod (Go.bits .and .i64 a1 16777215) (wrap64 ((bt244.1.length : Int) + 1))))) = true then (some ((bt252.2.2 == 2) == (!((t266.size : Int) == (Int.tmod (Go.bits .and .i64 a1 16777215) (wrap64 ((bt244.1.length : Int) + 1))))))) else (some false)) else (some false))) else (some false))) else (none)) else (none))) else (some false))) else (none)) else (none))) else (some false))))
theorem transeptlaw04_FrameCuts.mono : ∀ a0 a1 k, LeO (transeptlaw04_FrameCuts.f k a0 a1) (transeptlaw04_FrameCuts.f (k + 1) a0 a1) := by
  intro a0 a1 k
  unfold transeptlaw04_FrameCuts.f
  repeat' first
      | (with_reducible exact transeptlaw04_few.mono _ _)
      | (with_reducible exact transeptlaw04_same.mono _ _ _)
      | (with_reducible exact transeptref04_Join.mono _ _)
      | (with_reducible exact LeO.refl _)
      | (with_reducible exact LeO.none _)
      | (with_reducible refine LeO.ite ?_ ?_)
      | (with_reducible refine LeO.bind ?_ (fun _ => ?_))
      | exact transeptlaw04_few.mono _ _
      | exact transeptlaw04_same.mono _ _ _
      | exact transeptref04_Join.mono _ _
      | exact LeO.none _
      | refine LeO.ite ?_ ?_
      | refine LeO.bind ?_ (fun _ => ?_)
set_option maxHeartbeats 8000000 in
set_option maxRecDepth 100000 in
theorem transeptlaw04_FrameCuts.calls (k : Nat) (A0 : Option Addr) (c0 : Nat) (l0 : List (List Int)) (a1 : Int) (r : Bool) (w : World) (hG : Glob w) (hr0 : Kd.C (Kd.slice 5 (Kd.int .u8)) w A0 l0.length l0) (hc0 : l0.length ≤ c0) (hT_ : r = true) (h : transeptlaw04_FrameCuts.f k l0 a1 = some r) :
    Calls Tryd.prog 6 #[.slice A0 l0.length c0, .int .i64 a1] w fun e w' => e = .returned (.bool r) ∧ Below w.heap.size w w' := by
  have HG := Aside0.mk hG
  clear hG
  have HT := Aside0.mk hT_
  clear hT_
  have HR0 := Aside0.mk hr0
  have HC0 := Aside0.mk hc0
  clear hr0 hc0
  have HB := Aside0.mk (Below.refl w.heap.size w)
  have H : ((transeptlaw04_shown.f).bind fun t237 => ((transeptlaw04_few.f k l0).bind fun bt238 => ((frame_Join.f bt238.1).bind fun bt244 => (if bt244.2 = 0 then (if (wrap64 ((bt244.1.length : Int) + 1)) = 0 then (none) else (if 0 ≤ (Int.tmod (Go.bits .and .i64 a1 16777215) (wrap64 ((bt244.1.length : Int) + 1))) then (if (Int.tmod (Go.bits .and .i64 a1 16777215) (wrap64 ((bt244.1.length : Int) + 1))) ≤ (bt244.1.length : Int) then ((frame_Split.f (bt244.1.take ((Int.tmod (Go.bits .and .i64 a1 16777215) (wrap64 ((bt244.1.length : Int) + 1))) : Int).toNat)).bind fun bt252 => (if bt252.2.1 = (Int.tmod (Go.bits .and .i64 a1 16777215) (wrap64 ((bt244.1.length : Int) + 1))) then (if (bt252.1.length : Int) > (bt238.2.length : Int) then (some false) else (if 0 ≤ (bt252.1.length : Int) then (if (bt252.1.length : Int) ≤ (bt238.2.length : Int) then ((transeptlaw04_same.f k bt252.1 (bt238.2.take ((bt252.1.length : Int) : Int).toNat)).bind fun t261 => (if t261 = true then ((transeptref04_Join.f k (bt238.2.take ((bt252.1.length : Int) : Int).toNat)).bind fun t266 => (if t237 = true then (if ((bt252.2.2 == 0) == ((t266.size : Int) == (Int.tmod (Go.bits .and .i64 a1 16777215) (wrap64 ((bt244.1.length : Int) + 1))))) = true then (some ((bt252.2.2 == 2) == (!((t266.size : Int) == (Int.tmod (Go.bits .and .i64 a1 16777215) (wrap64 ((bt244.1.length : Int) + 1))))))) else (some false)) else (some false))) else (some false))) else (none)) else (none))) else (some false))) else (none)) else (none))) else (some false))))) = some r := h
  clear h
  replace H := Option.bind_eq_some_iff.mp H
  obtain ⟨t237, A30, H⟩ := H
  replace H : ((transeptlaw04_few.f k l0).bind fun bt238 => ((frame_Join.f bt238.1).bind fun bt244 => (if bt244.2 = 0 then (if (wrap64 ((bt244.1.length : Int) + 1)) = 0 then (none) else (if 0 ≤ (Int.tmod (Go.bits .and .i64 a1 16777215) (wrap64 ((bt244.1.length : Int) + 1))) then (if (Int.tmod (Go.bits .and .i64 a1 16777215) (wrap64 ((bt244.1.length : Int) + 1))) ≤ (bt244.1.length : Int) then ((frame_Split.f (bt244.1.take ((Int.tmod (Go.bits .and .i64 a1 16777215) (wrap64 ((bt244.1.length : Int) + 1))) : Int).toNat)).bind fun bt252 => (if bt252.2.1 = (Int.tmod (Go.bits .and .i64 a1 16777215) (wrap64 ((bt244.1.length : Int) + 1))) then (if (bt252.1.length : Int) > (bt238.2.length : Int) then (some false) else (if 0 ≤ (bt252.1.length : Int) then (if (bt252.1.length : Int) ≤ (bt238.2.length : Int) then ((transeptlaw04_same.f k bt252.1 (bt238.2.take ((bt252.1.length : Int) : Int).toNat)).bind fun t261 => (if t261 = true then ((transeptref04_Join.f k (bt238.2.take ((bt252.1.length : Int) : Int).toNat)).bind fun t266 => (if t237 = true then (if ((bt252.2.2 == 0) == ((t266.size : Int) == (Int.tmod (Go.bits .and .i64 a1 16777215) (wrap64 ((bt244.1.length : Int) + 1))))) = true then (some ((bt252.2.2 == 2) == (!((t266.size : Int) == (Int.tmod (Go.bits .and .i64 a1 16777215) (wrap64 ((bt244.1.length : Int) + 1))))))) else (some false)) else (some false))) else (some false))) else (none)) else (none))) else (some false))) else (none)) else (none))) else (some false)))) = some r := H
  have A3 := Aside0.mk A30
  clear A30
  replace H := Option.bind_eq_some_iff.mp H
  obtain ⟨⟨t238, t239⟩, A40, H⟩ := H
  replace H : ((frame_Join.f t238).bind fun bt244 => (if bt244.2 = 0 then (if (wrap64 ((bt244.1.length : Int) + 1)) = 0 then (none) else (if 0 ≤ (Int.tmod (Go.bits .and .i64 a1 16777215) (wrap64 ((bt244.1.length : Int) + 1))) then (if (Int.tmod (Go.bits .and .i64 a1 16777215) (wrap64 ((bt244.1.length : Int) + 1))) ≤ (bt244.1.length : Int) then ((frame_Split.f (bt244.1.take ((Int.tmod (Go.bits .and .i64 a1 16777215) (wrap64 ((bt244.1.length : Int) + 1))) : Int).toNat)).bind fun bt252 => (if bt252.2.1 = (Int.tmod (Go.bits .and .i64 a1 16777215) (wrap64 ((bt244.1.length : Int) + 1))) then (if (bt252.1.length : Int) > (t239.length : Int) then (some false) else (if 0 ≤ (bt252.1.length : Int) then (if (bt252.1.length : Int) ≤ (t239.length : Int) then ((transeptlaw04_same.f k bt252.1 (t239.take ((bt252.1.length : Int) : Int).toNat)).bind fun t261 => (if t261 = true then ((transeptref04_Join.f k (t239.take ((bt252.1.length : Int) : Int).toNat)).bind fun t266 => (if t237 = true then (if ((bt252.2.2 == 0) == ((t266.size : Int) == (Int.tmod (Go.bits .and .i64 a1 16777215) (wrap64 ((bt244.1.length : Int) + 1))))) = true then (some ((bt252.2.2 == 2) == (!((t266.size : Int) == (Int.tmod (Go.bits .and .i64 a1 16777215) (wrap64 ((bt244.1.length : Int) + 1))))))) else (some false)) else (some false))) else (some false))) else (none)) else (none))) else (some false))) else (none)) else (none))) else (some false))) = some r := H
  have A4 := Aside0.mk A40
  clear A40
  replace H := Option.bind_eq_some_iff.mp H
  obtain ⟨⟨t244, t245⟩, A50, H⟩ := H
  replace H : (if t245 = 0 then (if (wrap64 ((t244.length : Int) + 1)) = 0 then (none) else (if 0 ≤ (Int.tmod (Go.bits .and .i64 a1 16777215) (wrap64 ((t244.length : Int) + 1))) then (if (Int.tmod (Go.bits .and .i64 a1 16777215) (wrap64 ((t244.length : Int) + 1))) ≤ (t244.length : Int) then ((frame_Split.f (t244.take ((Int.tmod (Go.bits .and .i64 a1 16777215) (wrap64 ((t244.length : Int) + 1))) : Int).toNat)).bind fun bt252 => (if bt252.2.1 = (Int.tmod (Go.bits .and .i64 a1 16777215) (wrap64 ((t244.length : Int) + 1))) then (if (bt252.1.length : Int) > (t239.length : Int) then (some false) else (if 0 ≤ (bt252.1.length : Int) then (if (bt252.1.length : Int) ≤ (t239.length : Int) then ((transeptlaw04_same.f k bt252.1 (t239.take ((bt252.1.length : Int) : Int).toNat)).bind fun t261 => (if t261 = true then ((transeptref04_Join.f k (t239.take ((bt252.1.length : Int) : Int).toNat)).bind fun t266 => (if t237 = true then (if ((bt252.2.2 == 0) == ((t266.size : Int) == (Int.tmod (Go.bits .and .i64 a1 16777215) (wrap64 ((t244.length : Int) + 1))))) = true then (some ((bt252.2.2 == 2) == (!((t266.size : Int) == (Int.tmod (Go.bits .and .i64 a1 16777215) (wrap64 ((t244.length : Int) + 1))))))) else (some false)) else (some false))) else (some false))) else (none)) else (none))) else (some false))) else (none)) else (none))) else (some false)) = some r := H
  have A5 := Aside0.mk A50
  clear A50
  by_cases c6 : t245 = 0
  · rw [if_pos c6] at H
    have c6b0 : (t245 == 0) = true := beq_iff_eq.mpr c6
    have c6b1 : (t245 != 0) = false := bne_eq_false_iff_eq.mpr c6
    clear c6
    by_cases c7 : (wrap64 ((t244.length : Int) + 1)) = 0
    · rw [if_pos c7] at H
      exact absurd H (by simp)
    · rw [if_neg c7] at H
      have c7b0 : ((wrap64 ((t244.length : Int) + 1)) == 0) = false := beq_eq_false_iff_ne.mpr c7
      have c7b1 : ((wrap64 ((t244.length : Int) + 1)) != 0) = true := bne_iff_ne.mpr c7
      obtain ⟨ji8, hji8⟩ : ∃ j_ : Int, (Int.tmod (Go.bits .and .i64 a1 16777215) (wrap64 ((t244.length : Int) + 1))) = j_ := ⟨_, rfl⟩
      replace H : (if 0 ≤ (ji8) then (if (ji8) ≤ (t244.length : Int) then ((frame_Split.f (t244.take ((ji8) : Int).toNat)).bind fun bt252 => (if bt252.2.1 = (ji8) then (if (bt252.1.length : Int) > (t239.length : Int) then (some false) else (if 0 ≤ (bt252.1.length : Int) then (if (bt252.1.length : Int) ≤ (t239.length : Int) then ((transeptlaw04_same.f k bt252.1 (t239.take ((bt252.1.length : Int) : Int).toNat)).bind fun t261 => (if t261 = true then ((transeptref04_Join.f k (t239.take ((bt252.1.length : Int) : Int).toNat)).bind fun t266 => (if t237 = true then (if ((bt252.2.2 == 0) == ((t266.size : Int) == (ji8))) = true then (some ((bt252.2.2 == 2) == (!((t266.size : Int) == (ji8))))) else (some false)) else (some false))) else (some false))) else (none)) else (none))) else (some false))) else (none)) else (none)) = some r := by first | (rw [hji8] at H; exact H) | (simp only [hji8] at H ⊢; exact H)
      (try rw [hji8] at A3)
      (try rw [hji8] at A4)
      (try rw [hji8] at A5)
      by_cases c9 : 0 ≤ (ji8)
      · rw [if_pos c9] at H
        have c9b0 := eq_true c9
        have c9b1 : decide (0 ≤ (ji8)) = true := decide_eq_true c9
        clear c9
        by_cases c10 : (ji8) ≤ (t244.length : Int)
        · rw [if_pos c10] at H
          have c10b0 := eq_true c10
          have c10b1 : decide ((ji8) ≤ (t244.length : Int)) = true := decide_eq_true c10
          clear c10
          obtain ⟨y248, hy248⟩ : ∃ y_ : List Int, y_ = (t244.take ((ji8) : Int).toNat) := ⟨_, rfl⟩
          replace H : ((frame_Split.f y248).bind fun bt252 => (if bt252.2.1 = (ji8) then (if (bt252.1.length : Int) > (t239.length : Int) then (some false) else (if 0 ≤ (bt252.1.length : Int) then (if (bt252.1.length : Int) ≤ (t239.length : Int) then ((transeptlaw04_same.f k bt252.1 (t239.take ((bt252.1.length : Int) : Int).toNat)).bind fun t261 => (if t261 = true then ((transeptref04_Join.f k (t239.take ((bt252.1.length : Int) : Int).toNat)).bind fun t266 => (if t237 = true then (if ((bt252.2.2 == 0) == ((t266.size : Int) == (ji8))) = true then (some ((bt252.2.2 == 2) == (!((t266.size : Int) == (ji8))))) else (some false)) else (some false))) else (some false))) else (none)) else (none))) else (some false))) = some r := by first | (rw [hy248]; with_reducible exact H) | (have H2_ := (Option.bind_some _ _).symm.trans H; rw [hy248]; with_reducible exact H2_) | (have H2_ := (Option.bind_some _ _).symm.trans H; with_reducible exact H2_) | with_reducible exact H | (rw [hy248]; exact H) | exact H
          have Ny248 := Aside0.mk hy248
          clear hy248
          replace H := Option.bind_eq_some_iff.mp H
          obtain ⟨⟨t252, t253, t254⟩, A110, H⟩ := H
          replace H : (if t253 = (ji8) then (if (t252.length : Int) > (t239.length : Int) then (some false) else (if 0 ≤ (t252.length : Int) then (if (t252.length : Int) ≤ (t239.length : Int) then ((transeptlaw04_same.f k t252 (t239.take ((t252.length : Int) : Int).toNat)).bind fun t261 => (if t261 = true then ((transeptref04_Join.f k (t239.take ((t252.length : Int) : Int).toNat)).bind fun t266 => (if t237 = true then (if ((t254 == 0) == ((t266.size : Int) == (ji8))) = true then (some ((t254 == 2) == (!((t266.size : Int) == (ji8))))) else (some false)) else (some false))) else (some false))) else (none)) else (none))) else (some false)) = some r := H
          have A11 := Aside0.mk A110
          clear A110
          by_cases c12 : t253 = (ji8)
          · rw [if_pos c12] at H
            have c12b0 : (t253 == (ji8)) = true := beq_iff_eq.mpr c12
            have c12b1 : (t253 != (ji8)) = false := bne_eq_false_iff_eq.mpr c12
            clear c12
            by_cases c13 : (t252.length : Int) > (t239.length : Int)
            · rw [if_pos c13] at H
              have c13b0 : decide ((t239.length : Int) < (t252.length : Int)) = true := decide_eq_true c13
              have c13b1 : decide (t239.length < t252.length) = true := decide_eq_true (Int.ofNat_lt.mp c13)
              clear c13
              exact absurd HT.out (by rw [← Option.some.inj H]; decide)
            · rw [if_neg c13] at H
              have c13b0 : decide ((t239.length : Int) < (t252.length : Int)) = false := decide_eq_false c13
              have c13b1 : decide (t239.length < t252.length) = false := decide_eq_false (fun h => c13 (Int.ofNat_lt.mpr h))
              clear c13
              by_cases c14 : 0 ≤ (t252.length : Int)
              · rw [if_pos c14] at H
                have c14b0 := eq_true c14
                have c14b1 : decide (0 ≤ (t252.length : Int)) = true := decide_eq_true c14
                clear c14
                by_cases c15 : (t252.length : Int) ≤ (t239.length : Int)
                · rw [if_pos c15] at H
                  have c15b0 := eq_true c15
                  have c15b1 : decide ((t252.length : Int) ≤ (t239.length : Int)) = true := decide_eq_true c15
                  clear c15
                  obtain ⟨y257, hy257⟩ : ∃ y_ : List ByteArray, y_ = (t239.take ((t252.length : Int) : Int).toNat) := ⟨_, rfl⟩
                  replace H : ((transeptlaw04_same.f k t252 y257).bind fun t261 => (if t261 = true then ((transeptref04_Join.f k (t239.take ((t252.length : Int) : Int).toNat)).bind fun t266 => (if t237 = true then (if ((t254 == 0) == ((t266.size : Int) == (ji8))) = true then (some ((t254 == 2) == (!((t266.size : Int) == (ji8))))) else (some false)) else (some false))) else (some false))) = some r := by first | (rw [hy257]; with_reducible exact H) | (have H2_ := (Option.bind_some _ _).symm.trans H; rw [hy257]; with_reducible exact H2_) | (have H2_ := (Option.bind_some _ _).symm.trans H; with_reducible exact H2_) | with_reducible exact H | (rw [hy257]; exact H) | exact H
                  have Ny257 := Aside0.mk hy257
                  clear hy257
                  replace H := Option.bind_eq_some_iff.mp H
                  obtain ⟨t261, A160, H⟩ := H
                  replace H : (if t261 = true then ((transeptref04_Join.f k (t239.take ((t252.length : Int) : Int).toNat)).bind fun t266 => (if t237 = true then (if ((t254 == 0) == ((t266.size : Int) == (ji8))) = true then (some ((t254 == 2) == (!((t266.size : Int) == (ji8))))) else (some false)) else (some false))) else (some false)) = some r := H
                  have A16 := Aside0.mk A160
                  clear A160
                  by_cases c17 : t261 = true
                  · subst c17
                    have H1 : ((transeptref04_Join.f k (t239.take ((t252.length : Int) : Int).toNat)).bind fun t266 => (if t237 = true then (if ((t254 == 0) == ((t266.size : Int) == (ji8))) = true then (some ((t254 == 2) == (!((t266.size : Int) == (ji8))))) else (some false)) else (some false))) = some r := by rw [if_pos rfl] at H; exact H
                    clear H
                    have H := H1
                    clear H1
                    have c18b0 := eq_true (of_decide_eq_true (by first | (with_reducible assumption) | assumption) : 0 ≤ (t252.length : Int))
                    have c19b0 := eq_true (of_decide_eq_true (by first | (with_reducible assumption) | assumption) : (t252.length : Int) ≤ (t239.length : Int))
                    obtain ⟨y262, hy262⟩ : ∃ y_ : List ByteArray, y_ = (t239.take ((t252.length : Int) : Int).toNat) := ⟨_, rfl⟩
                    replace H : ((transeptref04_Join.f k y262).bind fun t266 => (if t237 = true then (if ((t254 == 0) == ((t266.size : Int) == (ji8))) = true then (some ((t254 == 2) == (!((t266.size : Int) == (ji8))))) else (some false)) else (some false))) = some r := by first | (rw [hy262]; with_reducible exact H) | (have H2_ := (Option.bind_some _ _).symm.trans H; rw [hy262]; with_reducible exact H2_) | (have H2_ := (Option.bind_some _ _).symm.trans H; with_reducible exact H2_) | with_reducible exact H | (rw [hy262]; exact H) | exact H
                    have Ny262 := Aside0.mk hy262
                    clear hy262
                    have e_ : y257 = y262 := Ny257.out.trans Ny262.out.symm
                    subst e_
                    replace H := Option.bind_eq_some_iff.mp H
                    obtain ⟨t266, A200, H⟩ := H
                    replace H : (if t237 = true then (if ((t254 == 0) == ((t266.size : Int) == (ji8))) = true then (some ((t254 == 2) == (!((t266.size : Int) == (ji8))))) else (some false)) else (some false)) = some r := H
                    have A20 := Aside0.mk A200
                    clear A200
                    by_cases c21 : t237 = true
                    · subst c21
                      have H1 : (if ((t254 == 0) == ((t266.size : Int) == (ji8))) = true then (some ((t254 == 2) == (!((t266.size : Int) == (ji8))))) else (some false)) = some r := by rw [if_pos rfl] at H; exact H
                      clear H
                      have H := H1
                      clear H1
                      by_cases c22 : ((t254 == 0) == ((t266.size : Int) == (ji8))) = true
                      · rw [if_pos c22] at H
                        have c22b0 : ((t254 == 0) == ((t266.size : Int) == (ji8))) = true := c22
                        (try (have c22b1 : decide ((t254 == 0) = ((t266.size : Int) == (ji8))) = true := by simpa using c22))
                        (try (have c22b2 : ((t254 == 0) == ((t266.size : Int) == (ji8))) = true := by simpa using c22))
                        clear c22
                        obtain rfl := Option.some.inj H
                        go_enter Tryd.func6, Tryd.ntmps6
                        go_wp2_with (first | ((with_reducible refine gate_callee (f := 13) rfl ?_); refine goesL_ (some 15) rfl rfl Tryd.func13 (by kernel_rfl) rfl #[] rfl (by (try simp only [List.map_toArray, List.map_cons, List.map_nil]); first | done | rfl | (simp only [List.length_drop, List.length_take]; rfl)) ?_; (with_reducible refine (transeptlaw04_shown.calls  true _ ?side1 A3.out).mono ?_); (case side1 => first | exact HG.out | exact Glob.below HG.out HB.out | exact Glob.drewN (Glob.below HG.out HB.out) _ | exact Glob.drewN HG.out _ | (refine Glob.below HG.out ?_; (repeat (first | (with_reducible first | exact HB.out | apply below_alloc | apply pw_below_drewN | apply below_drew1) | exact HB.out)); done) | (repeat (first | exact HG.out | (with_reducible refine Glob.drewN ?_ _) | (with_reducible refine Glob.drew ?_) | (with_reducible refine Glob.alloc ?_ _)); done)); rintro e w23 ⟨rfl, hb⟩; refine ⟨_, rfl, ?_⟩; have n0_ := Aside0.mk (below_step (by repeat (first | (with_reducible first | exact HB.out | apply below_alloc | apply pw_below_drewN | apply below_drew1) | exact HB.out)) hb); clear HB; have HB := n0_; clear n0_; (try clear hb); (try clear hb2); (try clear hk); (try clear hi)) | ((with_reducible refine gate_callee (f := 17) rfl ?_); refine goesL_ (some 18) rfl rfl Tryd.func17 (by kernel_rfl) rfl #[.slice A0 l0.length c0] rfl (by (try simp only [List.map_toArray, List.map_cons, List.map_nil]); first | done | rfl | (simp only [List.length_drop, List.length_take]; rfl)) ?_; (with_reducible refine (transeptlaw04_few.calls k _ _ l0 t238 t239 _ ?side1 ?side2 A4.out).mono ?_); (case side1 => repeat (first | exact (Kd.C_below HR0.out HB.out) | (with_reducible refine Kd.C_alloc ?_ _) | (with_reducible refine Kd.C_drewN ?_ _) | (with_reducible refine Kd.C_drew ?_))); (case side2 => exact HC0.out); rintro e w24 ⟨v240, v242, rfl, ho0, ho1, hb⟩; refine ⟨_, rfl, ?_⟩; have n0_ := Aside0.mk (Kd.S_lower ho0 (below_size (by repeat (first | (with_reducible first | exact HB.out | apply below_alloc | apply pw_below_drewN | apply below_drew1) | exact HB.out)))); have n1_ := Aside0.mk (Kd.R_lower ho1 (below_size (by repeat (first | (with_reducible first | exact HB.out | apply below_alloc | apply pw_below_drewN | apply below_drew1) | exact HB.out)))); have n2_ := Aside0.mk (below_step (by repeat (first | (with_reducible first | exact HB.out | apply below_alloc | apply pw_below_drewN | apply below_drew1) | exact HB.out)) hb); clear HB; have HO241 := n0_; have HO243 := n1_; have HB := n2_; clear n0_ n1_ n2_; (try clear hb); (try clear hb2); (try clear hk); (try clear hi); (try clear ho0); (try clear ho1); obtain ⟨Ao25, co25, eo25⟩ := Kd.S_slice HO241.out; subst eo25) | ((with_reducible refine gate_callee (f := 18) rfl ?_); refine goesL_ (some 23) rfl rfl Tryd.func18 (by kernel_rfl) rfl #[.slice Ao25 t238.length co25] rfl (by (try simp only [List.map_toArray, List.map_cons, List.map_nil]); first | done | rfl | (simp only [List.length_drop, List.length_take]; rfl)) ?_; (with_reducible refine (frame_Join.calls _ _ t238 t244 t245 _ ?side3 ?side1 ?side2 A5.out).mono ?_); (case side1 => repeat (first | exact (Kd.S_reads' HO241.out).2.2 | (with_reducible refine Kd.C_alloc ?_ _) | (with_reducible refine Kd.C_drewN ?_ _) | (with_reducible refine Kd.C_drew ?_))); (case side2 => exact (Kd.S_reads' HO241.out).2.1); (case side3 => first | exact HG.out | exact Glob.below HG.out HB.out | exact Glob.drewN (Glob.below HG.out HB.out) _ | exact Glob.drewN HG.out _ | (refine Glob.below HG.out ?_; (repeat (first | (with_reducible first | exact HB.out | apply below_alloc | apply pw_below_drewN | apply below_drew1) | exact HB.out)); done) | (repeat (first | exact HG.out | (with_reducible refine Glob.drewN ?_ _) | (with_reducible refine Glob.drew ?_) | (with_reducible refine Glob.alloc ?_ _)); done)); rintro e w26 ⟨v246, rfl, ho0, hb⟩; refine ⟨_, rfl, ?_⟩; have n0_ := Aside0.mk (Kd.S_elder' (by (with_reducible repeat (first | apply Kd.S_alloc | apply Kd.S_drewN | apply Kd.S_drew)); exact HO241.out) (JV.base ho0) hb); have n1_ := Aside0.mk (Kd.R_below (by (with_reducible repeat (first | apply Kd.R_alloc | apply Kd.R_drewN | apply Kd.R_drew)); exact HO243.out) hb); have n2_ := Aside0.mk (JV.lower ho0 (below_size (by repeat (first | (with_reducible first | exact HB.out | apply below_alloc | apply pw_below_drewN | apply below_drew1) | exact HB.out)))); have n3_ := Aside0.mk (below_step (by repeat (first | (with_reducible first | exact HB.out | apply below_alloc | apply pw_below_drewN | apply below_drew1) | exact HB.out)) hb); clear HO241; clear HO243; clear HB; have HO241 := n0_; have HO243 := n1_; have HO247 := n2_; have HB := n3_; clear n0_ n1_ n2_ n3_; (try clear hb); (try clear hb2); (try clear hk); (try clear hi); (try clear ho0); obtain ⟨Ao27, co27, eo27⟩ := JV.slice HO247.out; subst eo27; have q28 : ((ji8) : Int) ≤ ((t244.length : Int) : Int) := of_decide_eq_true (by first | (with_reducible assumption) | assumption); obtain ⟨i028, hi028, _, hsz28, _⟩ := info_parts info5; have hroom28 : t244.length ≤ co27 := (JV.reads' HO247.out).2.1; have hC28 : Kd.C (Kd.int .u8) _ Ao27 t244.length t244 := (JV.reads' HO247.out).2.2; have hcut28 := cut_to (P := Tryd.prog) 22 5 .i64 Tryd.underlying22 hi028 Ao27 t244.length co27 (ji8) (of_decide_eq_true (by first | (with_reducible assumption) | assumption)) q28 hroom28; have hr28 := Kd.C_take (m := ((ji8) : Int).toNat) hC28 (by omega); have hy28 : y248.length = ((ji8) : Int).toNat := (by rw [Ny248.out, List.length_take]; omega); rw [← Ny248.out] at hr28; rw [← hy28] at hcut28; have HR251 := Aside0.mk hr28; have HC251 := Aside0.mk (show y248.length ≤ co27 from by omega); clear hr28 hC28 hroom28 hi028 hsz28; have KY28 := Aside0.mk hy28; clear hy28; have KL28 := Aside0.mk (show ((ji8) : Int).toNat ≤ t244.length from by omega); replace q28 := eq_true q28) | ((with_reducible refine gate_callee (f := 14) rfl ?_); refine goesL_ (some 38) rfl rfl Tryd.func14 (by kernel_rfl) rfl #[.slice Ao27 y248.length co27] rfl (by (try simp only [List.map_toArray, List.map_cons, List.map_nil]); first | done | rfl | (simp only [List.length_drop, List.length_take]; rfl)) ?_; (with_reducible refine (frame_Split.calls _ _ y248 t252 t253 t254 _ ?side3 ?side1 ?side2 A11.out).mono ?_); (case side1 => repeat (first | exact (by repeat (first | (with_reducible exact HR251.out) | (with_reducible refine Kd.C_alloc ?_ _) | (with_reducible refine Kd.C_drewN ?_ _) | (with_reducible refine Kd.C_drew ?_) | exact HR251.out)) | (with_reducible refine Kd.C_alloc ?_ _) | (with_reducible refine Kd.C_drewN ?_ _) | (with_reducible refine Kd.C_drew ?_))); (case side2 => exact HC251.out); (case side3 => first | exact HG.out | exact Glob.below HG.out HB.out | exact Glob.drewN (Glob.below HG.out HB.out) _ | exact Glob.drewN HG.out _ | (refine Glob.below HG.out ?_; (repeat (first | (with_reducible first | exact HB.out | apply below_alloc | apply pw_below_drewN | apply below_drew1) | exact HB.out)); done) | (repeat (first | exact HG.out | (with_reducible refine Glob.drewN ?_ _) | (with_reducible refine Glob.drew ?_) | (with_reducible refine Glob.alloc ?_ _)); done)); rintro e w29 ⟨v255, rfl, ho0, hb⟩; refine ⟨_, rfl, ?_⟩; have n0_ := Aside0.mk (Kd.S_elder' (by (with_reducible repeat (first | apply Kd.S_alloc | apply Kd.S_drewN | apply Kd.S_drew)); exact HO241.out) (Kd.S_base ho0) hb); have n1_ := Aside0.mk (Kd.R_below (by (with_reducible repeat (first | apply Kd.R_alloc | apply Kd.R_drewN | apply Kd.R_drew)); exact HO243.out) hb); have n2_ := Aside0.mk (JV.below (by (with_reducible repeat (first | apply JV.alloc | apply JV.drewN | apply JV.drew)); exact HO247.out) hb); have n3_ := Aside0.mk (Kd.S_lower (Kd.S_new' (Kd.S_new' ho0 (Kd.S_lt (by (with_reducible repeat (first | apply Kd.S_alloc | apply Kd.S_drewN | apply Kd.S_drew)); exact HO241.out))) (JV.lt (by (with_reducible repeat (first | apply JV.alloc | apply JV.drewN | apply JV.drew)); exact HO247.out))) (below_size (by repeat (first | (with_reducible first | exact HB.out | apply below_alloc | apply pw_below_drewN | apply below_drew1) | exact HB.out)))); have n4_ := Aside0.mk (Kd.C_below (by repeat (first | (with_reducible exact HR251.out) | (with_reducible refine Kd.C_alloc ?_ _) | (with_reducible refine Kd.C_drewN ?_ _) | (with_reducible refine Kd.C_drew ?_) | exact HR251.out)) hb); have n5_ := Aside0.mk (below_step (by repeat (first | (with_reducible first | exact HB.out | apply below_alloc | apply pw_below_drewN | apply below_drew1) | exact HB.out)) hb); clear HO241; clear HO243; clear HO247; clear HR251; clear HB; have HO241 := n0_; have HO243 := n1_; have HO247 := n2_; have HO256 := n3_; have HR251 := n4_; have HB := n5_; clear n0_ n1_ n2_ n3_ n4_ n5_; (try clear hb); (try clear hb2); (try clear hk); (try clear hi); (try clear ho0); obtain ⟨Ao30, co30, eo30⟩ := Kd.S_slice HO256.out; subst eo30; obtain ⟨Ao31, co31, eo31⟩ := Kd.R_slice HO243.out; subst eo31; have q32 : ((t252.length : Int) : Int) ≤ ((t239.length : Int) : Int) := of_decide_eq_true (by first | (with_reducible assumption) | assumption); obtain ⟨i032, hi032, _, hsz32, _⟩ := info_parts info9; have hroom32 : t239.length ≤ co31 := (Kd.R_reads' HO243.out).2.1; have hC32 : Kd.C Kd.string _ Ao31 t239.length t239 := (Kd.R_reads' HO243.out).2.2; have hcut32 := cut_to (P := Tryd.prog) 28 9 .i64 Tryd.underlying28 hi032 Ao31 t239.length co31 (t252.length : Int) (of_decide_eq_true (by first | (with_reducible assumption) | assumption)) q32 hroom32; have hr32 := Kd.C_take (m := ((t252.length : Int) : Int).toNat) hC32 (by omega); have hy32 : y257.length = ((t252.length : Int) : Int).toNat := (by rw [Ny257.out, List.length_take]; omega); rw [← Ny257.out] at hr32; rw [← hy32] at hcut32; have HR260 := Aside0.mk hr32; have HC260 := Aside0.mk (show y257.length ≤ co31 from by omega); clear hr32 hC32 hroom32 hi032 hsz32; have KY32 := Aside0.mk hy32; clear hy32; have KL32 := Aside0.mk (show ((t252.length : Int) : Int).toNat ≤ t239.length from by omega); replace q32 := eq_true q32) | (go_at_call 16; (with_reducible refine (transeptlaw04_same.calls k _ _ t252 _ _ y257 true _ ?side1 ?side2 ?side3 ?side4 A16.out).mono ?_); (case side1 => repeat (first | exact (Kd.S_reads' HO256.out).2.2 | (with_reducible refine Kd.C_alloc ?_ _) | (with_reducible refine Kd.C_drewN ?_ _) | (with_reducible refine Kd.C_drew ?_))); (case side2 => exact (Kd.S_reads' HO256.out).2.1); (case side3 => repeat (first | exact (by repeat (first | (with_reducible exact HR260.out) | (with_reducible refine Kd.C_alloc ?_ _) | (with_reducible refine Kd.C_drewN ?_ _) | (with_reducible refine Kd.C_drew ?_) | exact HR260.out)) | (with_reducible refine Kd.C_alloc ?_ _) | (with_reducible refine Kd.C_drewN ?_ _) | (with_reducible refine Kd.C_drew ?_))); (case side4 => exact HC260.out); rintro e w' ⟨rfl, ⟨nd, rfl⟩⟩; have q33 : ((t252.length : Int) : Int) ≤ ((t239.length : Int) : Int) := of_decide_eq_true (by first | (with_reducible assumption) | assumption); obtain ⟨i033, hi033, _, hsz33, _⟩ := info_parts info9; have hroom33 : t239.length ≤ co31 := (Kd.R_reads' HO243.out).2.1; have hC33 : Kd.C Kd.string _ Ao31 t239.length t239 := (Kd.R_reads' HO243.out).2.2; have hcut33 := cut_to (P := Tryd.prog) 28 9 .i64 Tryd.underlying28 hi033 Ao31 t239.length co31 (t252.length : Int) (of_decide_eq_true (by first | (with_reducible assumption) | assumption)) q33 hroom33; have hr33 := Kd.C_take (m := ((t252.length : Int) : Int).toNat) hC33 (by omega); have hy33 : y257.length = ((t252.length : Int) : Int).toNat := (by rw [Ny262.out, List.length_take]; omega); rw [← Ny262.out] at hr33; rw [← hy33] at hcut33; have HR265 := Aside0.mk hr33; have HC265 := Aside0.mk (show y257.length ≤ co31 from by omega); clear hr33 hC33 hroom33 hi033 hsz33; have KY33 := Aside0.mk hy33; clear hy33; have KL33 := Aside0.mk (show ((t252.length : Int) : Int).toNat ≤ t239.length from by omega); replace q33 := eq_true q33) | ((with_reducible refine gate_callee (f := 19) rfl ?_); refine goesL_ (some 65) rfl rfl Tryd.func19 (by kernel_rfl) rfl #[.slice Ao31 y257.length co31] rfl (by (try simp only [List.map_toArray, List.map_cons, List.map_nil]); first | done | rfl | (simp only [List.length_drop, List.length_take]; rfl)) ?_; (with_reducible refine (transeptref04_Join.calls k _ _ y257 t266 _ ?side1 ?side2 A20.out).mono ?_); (case side1 => repeat (first | exact (by repeat (first | (with_reducible exact HR265.out) | (with_reducible refine Kd.C_alloc ?_ _) | (with_reducible refine Kd.C_drewN ?_ _) | (with_reducible refine Kd.C_drew ?_) | exact HR265.out)) | (with_reducible refine Kd.C_alloc ?_ _) | (with_reducible refine Kd.C_drewN ?_ _) | (with_reducible refine Kd.C_drew ?_))); (case side2 => exact HC265.out); rintro e w34 ⟨rfl, hb⟩; refine ⟨_, rfl, ?_⟩; have n0_ := Aside0.mk (Kd.S_below (by (with_reducible repeat (first | apply Kd.S_alloc | apply Kd.S_drewN | apply Kd.S_drew)); exact HO241.out) hb); have n1_ := Aside0.mk (Kd.R_below (by (with_reducible repeat (first | apply Kd.R_alloc | apply Kd.R_drewN | apply Kd.R_drew)); exact HO243.out) hb); have n2_ := Aside0.mk (JV.below (by (with_reducible repeat (first | apply JV.alloc | apply JV.drewN | apply JV.drew)); exact HO247.out) hb); have n3_ := Aside0.mk (Kd.S_below (by (with_reducible repeat (first | apply Kd.S_alloc | apply Kd.S_drewN | apply Kd.S_drew)); exact HO256.out) hb); have n4_ := Aside0.mk (Kd.C_below (by repeat (first | (with_reducible exact HR251.out) | (with_reducible refine Kd.C_alloc ?_ _) | (with_reducible refine Kd.C_drewN ?_ _) | (with_reducible refine Kd.C_drew ?_) | exact HR251.out)) hb); have n5_ := Aside0.mk (Kd.C_below (by repeat (first | (with_reducible exact HR260.out) | (with_reducible refine Kd.C_alloc ?_ _) | (with_reducible refine Kd.C_drewN ?_ _) | (with_reducible refine Kd.C_drew ?_) | exact HR260.out)) hb); have n6_ := Aside0.mk (Kd.C_below (by repeat (first | (with_reducible exact HR265.out) | (with_reducible refine Kd.C_alloc ?_ _) | (with_reducible refine Kd.C_drewN ?_ _) | (with_reducible refine Kd.C_drew ?_) | exact HR265.out)) hb); have n7_ := Aside0.mk (below_step (by repeat (first | (with_reducible first | exact HB.out | apply below_alloc | apply pw_below_drewN | apply below_drew1) | exact HB.out)) hb); clear HO241; clear HO243; clear HO247; clear HO256; clear HR251; clear HR260; clear HR265; clear HB; have HO241 := n0_; have HO243 := n1_; have HO247 := n2_; have HO256 := n3_; have HR251 := n4_; have HR260 := n5_; have HR265 := n6_; have HB := n7_; clear n0_ n1_ n2_ n3_ n4_ n5_ n6_ n7_; (try clear hb); (try clear hb2); (try clear hk); (try clear hi)))
                        go_ret
                        exact ⟨by first | rfl | (simp [errW_none, errW_some] <;> rfl) | (simp only [← hji8]; first | rfl | (simp [errW_none, errW_some] <;> rfl)) | (simp [*, errW_none, errW_some] <;> rfl), by repeat (first | (with_reducible first | exact HB.out | apply below_alloc | apply pw_below_drewN | apply below_drew1) | exact HB.out)⟩
                      · rw [if_neg c22] at H
                        have c22b0 : ((t254 == 0) == ((t266.size : Int) == (ji8))) = false := by simpa using c22
                        (try (have c22b1 : decide ((t254 == 0) = ((t266.size : Int) == (ji8))) = false := by simpa using c22))
                        (try (have c22b2 : ((t254 == 0) == ((t266.size : Int) == (ji8))) = false := by simpa using c22))
                        (try (have c22b3 : ¬ ((t254 == 0) = ((t266.size : Int) == (ji8))) := by simpa using c22))
                        clear c22
                        exact absurd HT.out (by rw [← Option.some.inj H]; decide)
                    · replace c21 := Bool.eq_false_iff.mpr c21
                      subst c21
                      have H1 : (some false) = some r := by rw [if_neg (show ¬ (false = true) by decide)] at H; exact H
                      clear H
                      have H := H1
                      clear H1
                      exact absurd HT.out (by rw [← Option.some.inj H]; decide)
                  · replace c17 := Bool.eq_false_iff.mpr c17
                    subst c17
                    have H1 : (some false) = some r := by rw [if_neg (show ¬ (false = true) by decide)] at H; exact H
                    clear H
                    have H := H1
                    clear H1
                    exact absurd HT.out (by rw [← Option.some.inj H]; decide)
                · rw [if_neg c15] at H
                  exact absurd H (by simp)
              · rw [if_neg c14] at H
                exact absurd H (by simp)
          · rw [if_neg c12] at H
            have c12b0 : (t253 == (ji8)) = false := beq_eq_false_iff_ne.mpr c12
            have c12b1 : (t253 != (ji8)) = true := bne_iff_ne.mpr c12
            exact absurd HT.out (by rw [← Option.some.inj H]; decide)
        · rw [if_neg c10] at H
          exact absurd H (by simp)
      · rw [if_neg c9] at H
        exact absurd H (by simp)
  · rw [if_neg c6] at H
    have c6b0 : (t245 == 0) = false := beq_eq_false_iff_ne.mpr c6
    have c6b1 : (t245 != 0) = true := bne_iff_ne.mpr c6
    exact absurd HT.out (by rw [← Option.some.inj H]; decide)

end Go.Proofs.YtojagnoobaleaaaDoor.Xp
