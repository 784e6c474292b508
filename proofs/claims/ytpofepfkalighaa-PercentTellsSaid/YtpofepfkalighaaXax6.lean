-- Written by a program of this session (wip/tools/xprint.py), in the manner of the print of the kit.
import Derived.Test.YtpofepfkalighaaXax0
import Derived.Test.YtpofepfkalighaaXax5
import Derived.Test.YtpofepfkalighaaExt
namespace Go.Proofs.Ytpofepfkalighaa.Xa
open Go.RowKit Go.Proofs.Ytpofepfkalighaa.Ext Go.Proofs.YtpofepfkalighaaW.PrintWords Go.Proofs.YtpofepfkalighaaW.PrintLast Go.Proofs.YtpofepfkalighaaW.PrintMore
attribute [local go_sem] max2_int min2_int max_two min_two max_three min_three max_four min_four   -- for this text's walks alone
set_option linter.unusedVariables false
set_option linter.unusedSimpArgs false

/-! ### transeptref06_In: function 12 -/
def transeptref06_In.j0 : Nat → Int → Int → Bool → Option (Bool)
  | 0, _, _, _ => none
  | k + 1, x0, x1, x11 => if x11 = true then (some false) else (if x1 < 32 then (some true) else (if x1 > 126 then (some true) else ((some (([(⟨#[]⟩ : ByteArray), (⟨#[]⟩ : ByteArray), (⟨#[32, 34, 60, 62, 96]⟩ : ByteArray), (⟨#[32, 34, 35, 60, 62]⟩ : ByteArray), (⟨#[32, 34, 35, 60, 62, 39]⟩ : ByteArray), (⟨#[32, 34, 35, 60, 62, 63, 94, 96, 123, 125]⟩ : ByteArray)] : List ByteArray) : List ByteArray)).bind fun y105 => (if 0 ≤ x0 then (if x0 < (y105.length : Int) then ((transeptref06_has.f k (rdOf ByteArray.empty y105 x0) x1).bind fun t109 => (some t109)) else (none)) else (none)))))
def transeptref06_In.f (k : Nat) (a0 : Int) (a1 : Int) : Option (Bool) := if a0 < 1 then (transeptref06_In.j0 k a0 a1 true) else (transeptref06_In.j0 k a0 a1 (decide (a0 > 5)))
theorem transeptref06_In.mono_l : ∀ k, (∀ y0 y1 y2, LeO (transeptref06_In.j0 k y0 y1 y2) (transeptref06_In.j0 (k + 1) y0 y1 y2))
  | 0 => fun _ _ _ r h => by simp [transeptref06_In.j0] at h
  | k + 1 => by
    have ih0 := transeptref06_In.mono_l k
    · intro y0 y1 y2
      unfold transeptref06_In.j0
      repeat' first
      | (with_reducible exact ih0 _ _ _)
      | (with_reducible exact transeptref06_has.mono _ _ _)
      | (with_reducible exact LeO.refl _)
      | (with_reducible exact LeO.none _)
      | (with_reducible refine LeO.ite ?_ ?_)
      | (with_reducible refine LeO.bind ?_ (fun _ => ?_))
      | exact ih0 _ _ _
      | exact transeptref06_has.mono _ _ _
      | exact LeO.none _
      | refine LeO.ite ?_ ?_
      | refine LeO.bind ?_ (fun _ => ?_)
theorem transeptref06_In.mono : ∀ a0 a1 k, LeO (transeptref06_In.f k a0 a1) (transeptref06_In.f (k + 1) a0 a1) := by
  intro a0 a1 k
  have ih0 := transeptref06_In.mono_l k
  unfold transeptref06_In.f
  repeat' first
      | (with_reducible exact ih0 _ _ _)
      | (with_reducible exact transeptref06_has.mono _ _ _)
      | (with_reducible exact LeO.refl _)
      | (with_reducible exact LeO.none _)
      | (with_reducible refine LeO.ite ?_ ?_)
      | (with_reducible refine LeO.bind ?_ (fun _ => ?_))
      | exact ih0 _ _ _
      | exact transeptref06_has.mono _ _ _
      | exact LeO.none _
      | refine LeO.ite ?_ ?_
      | refine LeO.bind ?_ (fun _ => ?_)
set_option maxHeartbeats 8000000 in
set_option maxRecDepth 100000 in
theorem transeptref06_In.calls (k : Nat) (a0 : Int) (a1 : Int) (r : Bool) (w : World) (h : transeptref06_In.f k a0 a1 = some r) :
    Calls Try.prog 12 #[.int .i64 a0, .int .u8 a1] w fun e w' => e = .returned (.bool r) ∧ Below w.heap.size w w' := by
  have HB := Aside0.mk (Below.refl w.heap.size w)
  have H : (if a0 < 1 then (transeptref06_In.j0 k a0 a1 true) else (transeptref06_In.j0 k a0 a1 (decide (a0 > 5)))) = some r := h
  clear h
  have HC3 := Aside0.mk H
  clear H
  go_enter Try.func12, Try.ntmps12
  go_upto_region 1 with (fail)
  go_cut [11] (fun v11 wc => ∃ (kq : Nat) (x11_2 : Bool), v11 = .bool x11_2 ∧ Aside0 (transeptref06_In.j0 kq a0 a1 x11_2 = some r) ∧ Aside0 (kq ≤ k) ∧ Aside0 (Below w.heap.size w wc))
  case first =>
    have H := HC3.out
    clear HC3
    by_cases c4 : a0 < 1
    · rw [if_pos c4] at H
      have c4b0 : decide (a0 < 1) = true := decide_eq_true c4
      clear c4
      (first | rw [c4b0] | (simp only [i64_w, i32_w]; rw [c4b0]) | skip)
      have H' := Aside0.mk H
      clear H
      go_wp2
      go_meet
      case rel => exact ⟨_, (true), (by first | rfl | (simp; done) | (simp [*]; done)), H', ⟨by first | omega | exact Nat.le_refl _⟩, ⟨by repeat (first | (with_reducible first | exact HB.out | apply below_alloc | apply pw_below_drewN | apply below_drew1) | exact HB.out)⟩⟩
    · rw [if_neg c4] at H
      have c4b0 : decide (a0 < 1) = false := decide_eq_false c4
      clear c4
      (first | rw [c4b0] | (simp only [i64_w, i32_w]; rw [c4b0]) | skip)
      have H' := Aside0.mk H
      clear H
      go_wp2
      go_meet
      case rel => exact ⟨_, (decide (a0 > 5)), (by first | rfl | (simp; done) | (simp [*]; done)), H', ⟨by first | omega | exact Nat.le_refl _⟩, ⟨by repeat (first | (with_reducible first | exact HB.out | apply below_alloc | apply pw_below_drewN | apply below_drew1) | exact HB.out)⟩⟩
  case rest =>
    clear HC3
    try clear c1
    try clear p2
    try clear c4
    try clear c4b0
    obtain ⟨kq, x11_2, rfl, HA, HJ2, HB⟩ := hcut
    cases kq with
    | zero => exact absurd HA.out (by simp [transeptref06_In.j0])
    | succ kj2 =>
      have H := HA.out
      clear HA
      simp only [transeptref06_In.j0] at H
      by_cases c5 : x11_2 = true
      · subst c5
        have H1 : (some false) = some r := by rw [if_pos rfl] at H; exact H
        clear H
        have H := H1
        clear H1
        obtain rfl := Option.some.inj H
        go_wp2
        go_ret
        exact ⟨by first | rfl | (simp [errW_none, errW_some] <;> rfl) | (simp [*, errW_none, errW_some] <;> rfl), by repeat (first | (with_reducible first | exact HB.out | apply below_alloc | apply pw_below_drewN | apply below_drew1) | exact HB.out)⟩
      · replace c5 := Bool.eq_false_iff.mpr c5
        subst c5
        have H1 : (if a1 < 32 then (some true) else (if a1 > 126 then (some true) else ((some (([(⟨#[]⟩ : ByteArray), (⟨#[]⟩ : ByteArray), (⟨#[32, 34, 60, 62, 96]⟩ : ByteArray), (⟨#[32, 34, 35, 60, 62]⟩ : ByteArray), (⟨#[32, 34, 35, 60, 62, 39]⟩ : ByteArray), (⟨#[32, 34, 35, 60, 62, 63, 94, 96, 123, 125]⟩ : ByteArray)] : List ByteArray) : List ByteArray)).bind fun y105 => (if 0 ≤ a0 then (if a0 < (y105.length : Int) then ((transeptref06_has.f kj2 (rdOf ByteArray.empty y105 a0) a1).bind fun t109 => (some t109)) else (none)) else (none))))) = some r := by rw [if_neg (show ¬ (false = true) by decide)] at H; exact H
        clear H
        have H := H1
        clear H1
        by_cases c6 : a1 < 32
        · rw [if_pos c6] at H
          have c6b0 : decide (a1 < 32) = true := decide_eq_true c6
          clear c6
          obtain rfl := Option.some.inj H
          go_wp2
          go_ret
          exact ⟨by first | rfl | (simp [errW_none, errW_some] <;> rfl) | (simp [*, errW_none, errW_some] <;> rfl), by repeat (first | (with_reducible first | exact HB.out | apply below_alloc | apply pw_below_drewN | apply below_drew1) | exact HB.out)⟩
        · rw [if_neg c6] at H
          have c6b0 : decide (a1 < 32) = false := decide_eq_false c6
          clear c6
          by_cases c7 : a1 > 126
          · rw [if_pos c7] at H
            have c7b0 : decide (126 < a1) = true := decide_eq_true c7
            clear c7
            obtain rfl := Option.some.inj H
            go_wp2
            go_ret
            exact ⟨by first | rfl | (simp [errW_none, errW_some] <;> rfl) | (simp [*, errW_none, errW_some] <;> rfl), by repeat (first | (with_reducible first | exact HB.out | apply below_alloc | apply pw_below_drewN | apply below_drew1) | exact HB.out)⟩
          · rw [if_neg c7] at H
            have c7b0 : decide (126 < a1) = false := decide_eq_false c7
            clear c7
            obtain ⟨y105, hy105⟩ : ∃ y_ : List ByteArray, y_ = (([(⟨#[]⟩ : ByteArray), (⟨#[]⟩ : ByteArray), (⟨#[32, 34, 60, 62, 96]⟩ : ByteArray), (⟨#[32, 34, 35, 60, 62]⟩ : ByteArray), (⟨#[32, 34, 35, 60, 62, 39]⟩ : ByteArray), (⟨#[32, 34, 35, 60, 62, 63, 94, 96, 123, 125]⟩ : ByteArray)] : List ByteArray)) := ⟨_, rfl⟩
            replace H : (if 0 ≤ a0 then (if a0 < (y105.length : Int) then ((transeptref06_has.f kj2 (rdOf ByteArray.empty y105 a0) a1).bind fun t109 => (some t109)) else (none)) else (none)) = some r := by first | (rw [hy105]; with_reducible exact H) | (have H2_ := (Option.bind_some _ _).symm.trans H; rw [hy105]; with_reducible exact H2_) | (have H2_ := (Option.bind_some _ _).symm.trans H; with_reducible exact H2_) | with_reducible exact H | (rw [hy105]; exact H) | exact H
            have Ny105 := Aside0.mk hy105
            clear hy105
            by_cases c8 : 0 ≤ a0
            · rw [if_pos c8] at H
              have c8b0 : decide (0 ≤ a0) = true := decide_eq_true c8
              clear c8
              by_cases c9 : a0 < (y105.length : Int)
              · rw [if_pos c9] at H
                have c9b0 : decide (a0 < (y105.length : Int)) = true := decide_eq_true c9
                clear c9
                replace H := Option.bind_eq_some_iff.mp H
                obtain ⟨t109, A100, H⟩ := H
                replace H : (some t109) = some r := H
                have A10 := Aside0.mk A100
                clear A100
                obtain rfl := Option.some.inj H
                go_wp2_with (first | ((with_reducible refine gate_dst (N := 18) rfl ?_); refine Kd.R_lit Kd.string _ 9 ?hg (N := 18) ?hd (xs := ([(⟨#[]⟩ : ByteArray), (⟨#[]⟩ : ByteArray), (⟨#[32, 34, 60, 62, 96]⟩ : ByteArray), (⟨#[32, 34, 35, 60, 62]⟩ : ByteArray), (⟨#[32, 34, 35, 60, 62, 39]⟩ : ByteArray), (⟨#[32, 34, 35, 60, 62, 63, 94, 96, 123, 125]⟩ : ByteArray)] : List ByteArray)) (inner := [.string (⟨#[]⟩ : ByteArray), .string (⟨#[]⟩ : ByteArray), .string (⟨#[32, 34, 60, 62, 96]⟩ : ByteArray), .string (⟨#[32, 34, 35, 60, 62]⟩ : ByteArray), .string (⟨#[32, 34, 35, 60, 62, 39]⟩ : ByteArray), .string (⟨#[32, 34, 35, 60, 62, 63, 94, 96, 123, 125]⟩ : ByteArray)]) (ok := fun _ => True) (okp := fun _ => True) ?hr ?hp (fun _ hk => hk) trivial (Below.refl _ _) (Nat.le_refl _) (by simp) ?_; (case hd => rfl); (case hg => rfl); (case hr => first | (go_simp; done) | (go_simp; rfl)); (case hp => exact (Reps.one (show Kd.M Kd.string _ _ _ (⟨#[]⟩ : ByteArray) [.string (⟨#[]⟩ : ByteArray)] from rfl) (Reps.one (show Kd.M Kd.string _ _ _ (⟨#[]⟩ : ByteArray) [.string (⟨#[]⟩ : ByteArray)] from rfl) (Reps.one (show Kd.M Kd.string _ _ _ (⟨#[32, 34, 60, 62, 96]⟩ : ByteArray) [.string (⟨#[32, 34, 60, 62, 96]⟩ : ByteArray)] from rfl) (Reps.one (show Kd.M Kd.string _ _ _ (⟨#[32, 34, 35, 60, 62]⟩ : ByteArray) [.string (⟨#[32, 34, 35, 60, 62]⟩ : ByteArray)] from rfl) (Reps.one (show Kd.M Kd.string _ _ _ (⟨#[32, 34, 35, 60, 62, 39]⟩ : ByteArray) [.string (⟨#[32, 34, 35, 60, 62, 39]⟩ : ByteArray)] from rfl) (Reps.one (show Kd.M Kd.string _ _ _ (⟨#[32, 34, 35, 60, 62, 63, 94, 96, 123, 125]⟩ : ByteArray) [.string (⟨#[32, 34, 35, 60, 62, 63, 94, 96, 123, 125]⟩ : ByteArray)] from rfl) (Reps.none _ _)))))))); intro v106 w11 ho12 hb hg_ hnew_; clear hg_ hnew_; (first | rw [← Ny105.out] at ho12 | (simp only [Int.reduceToNat] at ho12; rw [← Ny105.out] at ho12)); have n0_ := Aside0.mk (Kd.R_lower ho12 (below_size (by repeat (first | (with_reducible first | exact HB.out | apply below_alloc | apply pw_below_drewN | apply below_drew1) | exact HB.out)))); have n1_ := Aside0.mk (below_step (by repeat (first | (with_reducible first | exact HB.out | apply below_alloc | apply pw_below_drewN | apply below_drew1) | exact HB.out)) hb); clear HB; have HO107 := n0_; have HB := n1_; clear n0_ n1_; clear hb ho12; obtain ⟨Ao13, co13, eo13⟩ := Kd.R_slice HO107.out; subst eo13; have p108 : 0 ≤ (a0 : Int) := of_decide_eq_true (by first | (with_reducible assumption) | assumption); have q108 : a0 < (y105.length : Int) := of_decide_eq_true (by first | (with_reducible assumption) | assumption); obtain ⟨ad108, e108, hx108_0⟩ := Kd.at_string (Kd.R_reads' HO107.out).2.2 a0 p108 q108; cases e108; replace p108 := eq_true p108; replace q108 := eq_true q108) | ((with_reducible refine gate_callee (f := 18) rfl ?_); refine goesL_ (some 24) rfl rfl Try.func18 (by kernel_rfl) rfl #[.string (rdOf ByteArray.empty y105 a0), .int .u8 a1] rfl (by (try simp only [List.map_toArray, List.map_cons, List.map_nil]); first | done | rfl | (simp only [List.length_drop, List.length_take]; rfl)) ?_; (with_reducible refine (transeptref06_has.calls kj2 (rdOf ByteArray.empty y105 a0) a1 t109 _ A10.out).mono ?_); rintro e w' ⟨rfl, ⟨nd, rfl⟩⟩; refine ⟨_, rfl, ?_⟩))
                go_ret
                exact ⟨by first | rfl | (simp [errW_none, errW_some] <;> rfl) | (simp [*, errW_none, errW_some] <;> rfl), by repeat (first | (with_reducible first | exact HB.out | apply below_alloc | apply pw_below_drewN | apply below_drew1) | exact HB.out)⟩
              · rw [if_neg c9] at H
                exact absurd H (by simp)
            · rw [if_neg c8] at H
              exact absurd H (by simp)

end Go.Proofs.Ytpofepfkalighaa.Xa
