-- Written by a program of this session (wip/tools/xprint.py), in the manner of the print of the kit.
import Derived.Test.YtmlhlcdamppbfaaDoorXax0
import Derived.Test.YtmlhlcdamppbfaaDoorExt
namespace Go.Proofs.YtmlhlcdamppbfaaDoor.Xa
open Go.RowKit Go.Proofs.YtmlhlcdamppbfaaDoor.Ext Go.Proofs.YtmlhlcdamppbfaaDoorW.PrintWords Go.Proofs.YtmlhlcdamppbfaaDoorW.PrintLast Go.Proofs.YtmlhlcdamppbfaaDoorW.PrintMore
attribute [local go_sem] max2_int min2_int max_two min_two max_three min_three max_four min_four   -- for this text's walks alone
set_option linter.unusedVariables false
set_option linter.unusedSimpArgs false

/-! ### transeptlaw05_EventFirst: function 7 -/
mutual
def transeptlaw05_EventFirst.j0 : Nat → List Int → List Int → Bool → Int → Int → Bool → Option (Bool)
  | 0, _, _, _, _, _, _ => none
  | k + 1, x0, x1, x5, x7, x8, x32 => if x32 = true then (if x5 = true then (some (x7 == (x0.length : Int))) else (some false)) else (if x7 < 0 then (transeptlaw05_EventFirst.j1 k x0 x1 x5 x7 x8 true) else (transeptlaw05_EventFirst.j1 k x0 x1 x5 x7 x8 (decide (x7 ≥ (x0.length : Int)))))
def transeptlaw05_EventFirst.j1 : Nat → List Int → List Int → Bool → Int → Int → Bool → Option (Bool)
  | 0, _, _, _, _, _, _ => none
  | k + 1, x0, x1, x5, x7, x8, x47 => if x47 = true then (some false) else ((some (([] : List Int) : List Int)).bind fun y382 => (if 0 ≤ (wrap64 (x7 + 1)) then (if (wrap64 (x7 + 1)) ≤ (x0.length : Int) then (if y382.length + (x0.take ((wrap64 (x7 + 1)) : Int).toNat).length < 140737488355328 then ((some (y382 ++ (x0.take ((wrap64 (x7 + 1)) : Int).toNat) : List Int)).bind fun y386 => (if 0 ≤ (mn (x1.length : Int) 50) then (if (mn (x1.length : Int) 50) ≤ (x1.length : Int) then (if y386.length + (x1.take ((mn (x1.length : Int) 50) : Int).toNat).length < 140737488355328 then ((event_Decode.f (y386 ++ (x1.take ((mn (x1.length : Int) 50) : Int).toNat))).bind fun bt393 => (if 0 ≤ x7 then (if x7 ≤ (x0.length : Int) then ((event_Decode.f (x0.take (x7 : Int).toNat)).bind fun bt407 => (if x5 = true then (if bt393.2.2.2.2.2.2.2.2.2.2.1 = x7 then (if bt393.2.2.2.2.2.2.2.2.2.2.2 = x8 then (if bt407.2.2.2.2.2.2.2.2.2.2.1 = x7 then (if ((bt407.2.2.2.2.2.2.2.2.2.2.2 == 2) == (x8 != 8)) = true then (some ((bt407.2.2.2.2.2.2.2.2.2.2.2 == 0) == (x8 == 8))) else (some false)) else (some false)) else (some false)) else (some false)) else (some false))) else (none)) else (none))) else (none)) else (none)) else (none))) else (none)) else (none)) else (none)))
end
def transeptlaw05_EventFirst.f (k : Nat) (l0 : List Int) (l1 : List Int) : Option (Bool) := (transeptlaw05_shown.f).bind fun t367 => (if 0 ≤ (mn (l0.length : Int) 2000) then (if (mn (l0.length : Int) 2000) ≤ (l0.length : Int) then ((event_Decode.f (l0.take ((mn (l0.length : Int) 2000) : Int).toNat)).bind fun bt369 => (if bt369.2.2.2.2.2.2.2.2.2.2.2 = 0 then (transeptlaw05_EventFirst.j0 k (l0.take ((mn (l0.length : Int) 2000) : Int).toNat) l1 t367 bt369.2.2.2.2.2.2.2.2.2.2.1 bt369.2.2.2.2.2.2.2.2.2.2.2 true) else (transeptlaw05_EventFirst.j0 k (l0.take ((mn (l0.length : Int) 2000) : Int).toNat) l1 t367 bt369.2.2.2.2.2.2.2.2.2.2.1 bt369.2.2.2.2.2.2.2.2.2.2.2 (bt369.2.2.2.2.2.2.2.2.2.2.2 == 2)))) else (none)) else (none))
theorem transeptlaw05_EventFirst.mono_l : ∀ k, (∀ y0 y1 y2 y3 y4 y5, LeO (transeptlaw05_EventFirst.j0 k y0 y1 y2 y3 y4 y5) (transeptlaw05_EventFirst.j0 (k + 1) y0 y1 y2 y3 y4 y5)) ∧ (∀ y0 y1 y2 y3 y4 y5, LeO (transeptlaw05_EventFirst.j1 k y0 y1 y2 y3 y4 y5) (transeptlaw05_EventFirst.j1 (k + 1) y0 y1 y2 y3 y4 y5))
  | 0 => ⟨fun _ _ _ _ _ _ r h => by simp [transeptlaw05_EventFirst.j0] at h, fun _ _ _ _ _ _ r h => by simp [transeptlaw05_EventFirst.j1] at h⟩
  | k + 1 => by
    obtain ⟨ih0, ih1⟩ := transeptlaw05_EventFirst.mono_l k
    refine ⟨?_, ?_⟩
    · intro y0 y1 y2 y3 y4 y5
      unfold transeptlaw05_EventFirst.j0
      repeat' first
      | (with_reducible exact ih0 _ _ _ _ _ _)
      | (with_reducible exact ih1 _ _ _ _ _ _)
      | (with_reducible exact LeO.refl _)
      | (with_reducible exact LeO.none _)
      | (with_reducible refine LeO.ite ?_ ?_)
      | (with_reducible refine LeO.bind ?_ (fun _ => ?_))
      | exact ih0 _ _ _ _ _ _
      | exact ih1 _ _ _ _ _ _
      | exact LeO.none _
      | refine LeO.ite ?_ ?_
      | refine LeO.bind ?_ (fun _ => ?_)
    · intro y0 y1 y2 y3 y4 y5
      unfold transeptlaw05_EventFirst.j1
      repeat' first
      | (with_reducible exact ih0 _ _ _ _ _ _)
      | (with_reducible exact ih1 _ _ _ _ _ _)
      | (with_reducible exact LeO.refl _)
      | (with_reducible exact LeO.none _)
      | (with_reducible refine LeO.ite ?_ ?_)
      | (with_reducible refine LeO.bind ?_ (fun _ => ?_))
      | exact ih0 _ _ _ _ _ _
      | exact ih1 _ _ _ _ _ _
      | exact LeO.none _
      | refine LeO.ite ?_ ?_
      | refine LeO.bind ?_ (fun _ => ?_)
theorem transeptlaw05_EventFirst.mono : ∀ a0 a1 k, LeO (transeptlaw05_EventFirst.f k a0 a1) (transeptlaw05_EventFirst.f (k + 1) a0 a1) := by
  intro a0 a1 k
  obtain ⟨ih0, ih1⟩ := transeptlaw05_EventFirst.mono_l k
  unfold transeptlaw05_EventFirst.f
  repeat' first
      | (with_reducible exact ih0 _ _ _ _ _ _)
      | (with_reducible exact ih1 _ _ _ _ _ _)
      | (with_reducible exact LeO.refl _)
      | (with_reducible exact LeO.none _)
      | (with_reducible refine LeO.ite ?_ ?_)
      | (with_reducible refine LeO.bind ?_ (fun _ => ?_))
      | exact ih0 _ _ _ _ _ _
      | exact ih1 _ _ _ _ _ _
      | exact LeO.none _
      | refine LeO.ite ?_ ?_
      | refine LeO.bind ?_ (fun _ => ?_)
def transeptlaw05_EventFirst.T8 : Bool × List (List Nat × List Nat) := (true, [([], []), ([], []), ([], []), ([2], [2]), ([1, 3], [1, 3]), ([0, 4], [0, 4]), ([], []), ([], []), ([7], [7]), ([8], [8]), ([6, 9], [6, 9]), ([5, 10, 5], [5, 10]), ([11, 11], [11]), ([12], [12]), ([13], [13]), ([13], [13]), ([13], [13]), ([], []), ([17, 14, 12, 0, 1, 2, 3, 4, 5, 6, 7, 8, 9, 10, 11, 12, 13, 14, 17], [14, 17]), ([15, 18, 0, 1, 2, 3, 4, 5, 6, 7, 8, 9, 10, 11, 12, 13, 14, 15, 17, 18], [15]), ([16, 19, 0, 1, 2, 3, 4, 5, 6, 7, 8, 9, 10, 11, 12, 13, 14, 15, 16, 17, 18, 19], [16])])
def transeptlaw05_EventFirst.B8 : List Nat := [0, 0, 0, 4, 14, 31, 0, 0, 128, 384, 960, 2047, 4095, 8191, 16383, 16383, 16383, 0, 163839, 458751, 1048575]
theorem transeptlaw05_EventFirst.tab8 : rtab .any (opsOf Tryd.f7 8) = transeptlaw05_EventFirst.T8 := by kernel_rfl
theorem transeptlaw05_EventFirst.bits8 : waitsOk transeptlaw05_EventFirst.T8.2 transeptlaw05_EventFirst.B8 = true := by kernel_rfl
set_option maxHeartbeats 8000000 in
set_option maxRecDepth 100000 in
theorem transeptlaw05_EventFirst.calls (k : Nat) (A0 : Option Addr) (c0 : Nat) (l0 : List Int) (A1 : Option Addr) (c1 : Nat) (l1 : List Int) (r : Bool) (w : World) (hG : Glob w) (hr0 : Kd.C (Kd.int .u8) w A0 l0.length l0) (hc0 : l0.length ≤ c0) (hr1 : Kd.C (Kd.int .u8) w A1 l1.length l1) (hc1 : l1.length ≤ c1) (hT_ : r = true) (h : transeptlaw05_EventFirst.f k l0 l1 = some r) :
    Calls Tryd.prog 7 #[.slice A0 l0.length c0, .slice A1 l1.length c1] w fun e w' => e = .returned (.bool r) ∧ Below w.heap.size w w' := by
  have hu24 := Tryd.underlying24
  have HG := Aside0.mk hG
  clear hG
  have HT := Aside0.mk hT_
  clear hT_
  have HR0 := Aside0.mk hr0
  have HC0 := Aside0.mk hc0
  clear hr0 hc0
  have HR1 := Aside0.mk hr1
  have HC1 := Aside0.mk hc1
  clear hr1 hc1
  have HB := Aside0.mk (Below.refl w.heap.size w)
  have H : ((transeptlaw05_shown.f).bind fun t367 => (if 0 ≤ (mn (l0.length : Int) 2000) then (if (mn (l0.length : Int) 2000) ≤ (l0.length : Int) then ((event_Decode.f (l0.take ((mn (l0.length : Int) 2000) : Int).toNat)).bind fun bt369 => (if bt369.2.2.2.2.2.2.2.2.2.2.2 = 0 then (transeptlaw05_EventFirst.j0 k (l0.take ((mn (l0.length : Int) 2000) : Int).toNat) l1 t367 bt369.2.2.2.2.2.2.2.2.2.2.1 bt369.2.2.2.2.2.2.2.2.2.2.2 true) else (transeptlaw05_EventFirst.j0 k (l0.take ((mn (l0.length : Int) 2000) : Int).toNat) l1 t367 bt369.2.2.2.2.2.2.2.2.2.2.1 bt369.2.2.2.2.2.2.2.2.2.2.2 (bt369.2.2.2.2.2.2.2.2.2.2.2 == 2)))) else (none)) else (none))) = some r := h
  clear h
  replace H := Option.bind_eq_some_iff.mp H
  obtain ⟨t367, A30, H⟩ := H
  replace H : (if 0 ≤ (mn (l0.length : Int) 2000) then (if (mn (l0.length : Int) 2000) ≤ (l0.length : Int) then ((event_Decode.f (l0.take ((mn (l0.length : Int) 2000) : Int).toNat)).bind fun bt369 => (if bt369.2.2.2.2.2.2.2.2.2.2.2 = 0 then (transeptlaw05_EventFirst.j0 k (l0.take ((mn (l0.length : Int) 2000) : Int).toNat) l1 t367 bt369.2.2.2.2.2.2.2.2.2.2.1 bt369.2.2.2.2.2.2.2.2.2.2.2 true) else (transeptlaw05_EventFirst.j0 k (l0.take ((mn (l0.length : Int) 2000) : Int).toNat) l1 t367 bt369.2.2.2.2.2.2.2.2.2.2.1 bt369.2.2.2.2.2.2.2.2.2.2.2 (bt369.2.2.2.2.2.2.2.2.2.2.2 == 2)))) else (none)) else (none)) = some r := H
  have A3 := Aside0.mk A30
  clear A30
  obtain ⟨ji4, hji4⟩ : ∃ j_ : Int, (mn (l0.length : Int) 2000) = j_ := ⟨_, rfl⟩
  replace H : (if 0 ≤ (ji4) then (if (ji4) ≤ (l0.length : Int) then ((event_Decode.f (l0.take ((ji4) : Int).toNat)).bind fun bt369 => (if bt369.2.2.2.2.2.2.2.2.2.2.2 = 0 then (transeptlaw05_EventFirst.j0 k (l0.take ((ji4) : Int).toNat) l1 t367 bt369.2.2.2.2.2.2.2.2.2.2.1 bt369.2.2.2.2.2.2.2.2.2.2.2 true) else (transeptlaw05_EventFirst.j0 k (l0.take ((ji4) : Int).toNat) l1 t367 bt369.2.2.2.2.2.2.2.2.2.2.1 bt369.2.2.2.2.2.2.2.2.2.2.2 (bt369.2.2.2.2.2.2.2.2.2.2.2 == 2)))) else (none)) else (none)) = some r := by first | (rw [hji4] at H; exact H) | (simp only [hji4] at H ⊢; exact H)
  (try rw [hji4] at A3)
  (try (have hji4h : ji4 ≤ 2000 := by (rw [← hji4]; unfold mn; (repeat' split) <;> omega)))
  (try (have hji4g : ji4 ≤ 64 := by omega))
  (try (have hji4l : 0 ≤ ji4 := by (rw [← hji4]; unfold mn; (repeat' split) <;> omega)))
  (try (have hji4m : 0 ≤ ji4 := by omega))
  have hji4_ : (if 2000 < (l0.length : Int) then 2000 else (l0.length : Int)) = ji4 := hji4
  by_cases c5 : 0 ≤ (ji4)
  · rw [if_pos c5] at H
    have c5b0 := eq_true c5
    have c5b1 : decide (0 ≤ (ji4)) = true := decide_eq_true c5
    clear c5
    by_cases c6 : (ji4) ≤ (l0.length : Int)
    · rw [if_pos c6] at H
      have c6b0 := eq_true c6
      have c6b1 : decide ((ji4) ≤ (l0.length : Int)) = true := decide_eq_true c6
      clear c6
      replace H := Option.bind_eq_some_iff.mp H
      obtain ⟨⟨t369, t370, t371, t372, t373, t374, t375, t376, t377, t378, t379, t380⟩, A70, H⟩ := H
      replace H : (if t380 = 0 then (transeptlaw05_EventFirst.j0 k (l0.take ((ji4) : Int).toNat) l1 t367 t379 t380 true) else (transeptlaw05_EventFirst.j0 k (l0.take ((ji4) : Int).toNat) l1 t367 t379 t380 (t380 == 2))) = some r := H
      have A7 := Aside0.mk A70
      clear A70
      have HC8 := Aside0.mk H
      clear H
      obtain ⟨lb, hlb⟩ : ∃ b_ : List Int, (l0.take ((ji4) : Int).toNat) = b_ := ⟨_, rfl⟩
      have A7' := A7.out
      rw [hlb] at A7'
      clear A7
      have A7 := Aside0.mk A7'
      clear A7'
      have HC8' := HC8.out
      rw [hlb] at HC8'
      clear HC8
      have HC8 := Aside0.mk HC8'
      clear HC8'
      have HLlb := Aside0.mk hlb
      clear hlb
      go_enter Tryd.func7, Tryd.ntmps7
      go_upto_region 4 with (first | ((with_reducible refine gate_callee (f := 11) rfl ?_); refine goesL_ (some 15) rfl rfl Tryd.func11 (by kernel_rfl) rfl #[] rfl (by (try simp only [List.map_toArray, List.map_cons, List.map_nil]); first | done | rfl | (simp only [List.length_drop, List.length_take]; rfl)) ?_; (with_reducible refine (transeptlaw05_shown.calls  t367 _ ?side1 A3.out).mono ?_); (case side1 => first | exact HG.out | exact Glob.below HG.out HB.out | exact Glob.drewN (Glob.below HG.out HB.out) _ | exact Glob.drewN HG.out _ | (refine Glob.below HG.out ?_; (repeat (first | (with_reducible first | exact HB.out | apply below_alloc | apply pw_below_drewN | apply below_drew1) | exact HB.out)); done) | (repeat (first | exact HG.out | (with_reducible refine Glob.drewN ?_ _) | (with_reducible refine Glob.drew ?_) | (with_reducible refine Glob.alloc ?_ _)); done)); rintro e w9 ⟨rfl, hb⟩; refine ⟨_, rfl, ?_⟩; have n0_ := Aside0.mk (below_step (by repeat (first | (with_reducible first | exact HB.out | apply below_alloc | apply pw_below_drewN | apply below_drew1) | exact HB.out)) hb); clear HB; have HB := n0_; clear n0_; (try clear hb); (try clear hb2); (try clear hk); (try clear hi); obtain ⟨i010, hi010, _, hsz10, _⟩ := info_parts info5; obtain ⟨hcut10, hA10, hC10⟩ := print_take_of (P := Tryd.prog) (Value.int .u8) 0 27 5 .i64 Tryd.underlying27 hi010 hsz10 A0 c0 l0 (ji4) (of_decide_eq_true (by first | (with_reducible assumption) | assumption)) (of_decide_eq_true (by first | (with_reducible assumption) | assumption)) HC0.out; rw [HLlb.out] at hcut10 hA10 hC10; have HR368 := Aside0.mk (Kd.C_of_reads (h1 := fun _ => rfl) (hA10 _ (Kd.reads_of_C HR0.out))); have HC368 := Aside0.mk hC10; clear hA10 hC10 hi010 hsz10) | ((with_reducible refine gate_callee (f := 17) rfl ?_); refine goesL_ (some 23) rfl rfl Tryd.func17 (by kernel_rfl) rfl #[.slice A0 lb.length c0] rfl (by (try simp only [List.map_toArray, List.map_cons, List.map_nil]); first | done | (rw [show lb.length = (ji4).toNat from (by rw [List.length_take]; have h_ : ((ji4) : Int) ≤ (l0.length : Int) := of_decide_eq_true (by first | (with_reducible assumption) | assumption); omega)] <;> rfl) | (simp only [hji4]; rfl) | rfl | (simp only [List.length_drop, List.length_take]; rfl)) ?_; (with_reducible refine (event_Decode.calls _ _ lb t369 t370 t371 t372 t373 t374 t375 t376 t377 t378 t379 t380 _ ?side3 ?side1 ?side2 A7.out).mono ?_); (case side1 => repeat (first | exact (Kd.C_below HR368.out HB.out) | (with_reducible refine Kd.C_alloc ?_ _) | (with_reducible refine Kd.C_drewN ?_ _) | (with_reducible refine Kd.C_drew ?_))); (case side2 => exact HC368.out); (case side3 => first | exact HG.out | exact Glob.below HG.out HB.out | exact Glob.drewN (Glob.below HG.out HB.out) _ | exact Glob.drewN HG.out _ | (refine Glob.below HG.out ?_; (repeat (first | (with_reducible first | exact HB.out | apply below_alloc | apply pw_below_drewN | apply below_drew1) | exact HB.out)); done) | (repeat (first | exact HG.out | (with_reducible refine Glob.drewN ?_ _) | (with_reducible refine Glob.drew ?_) | (with_reducible refine Glob.alloc ?_ _)); done)); rintro e w11 ⟨rfl, hb⟩; refine ⟨_, rfl, ?_⟩; have n0_ := Aside0.mk (below_step (by repeat (first | (with_reducible first | exact HB.out | apply below_alloc | apply pw_below_drewN | apply below_drew1) | exact HB.out)) hb); clear HB; have HB := n0_; clear n0_; (try clear hb); (try clear hb2); (try clear hk); (try clear hi)) | ((with_reducible refine gate_dst (N := 6) rfl ?_); (try (refine gate_guard (by rfl) ?_; dsimp only)); refine box_event ?hg (N := 6) ?hd (cs := #[.int .i64 0, .int .u64 0, .int .u64 0, .string (⟨#[]⟩ : ByteArray), .string (⟨#[]⟩ : ByteArray), .string (⟨#[]⟩ : ByteArray), .string (⟨#[]⟩ : ByteArray), .int .i64 0, .int .i64 0, .int .i64 0]) (t := 24) ?hr ?_; (case hd => rfl); (case hg => rfl); (case hr => first | (go_simp; done) | (go_simp; rfl)); intro gb381 hg w12 hbox hb; have n0_ := Aside0.mk (below_step (by repeat (first | (with_reducible first | exact HB.out | apply below_alloc | apply pw_below_drewN | apply below_drew1) | exact HB.out)) hb); have n1_ := Aside0.mk (hbox); have n2_ := Aside0.mk ((by rw [hg]; exact (below_size (by repeat (first | (with_reducible first | exact HB.out | apply below_alloc | apply pw_below_drewN | apply below_drew1) | exact HB.out))) : w.heap.size ≤ gb381)); have n3_ := Aside0.mk ((by rw [hg]; exact (below_size (by repeat (first | (with_reducible first | exact HB.out | apply below_alloc | apply pw_below_drewN | apply below_drew1) | exact HB.out))) : w.heap.size ≤ gb381)); clear HB; have HB := n0_; have BK381 := n1_; have GW381 := n2_; have GE381 := n3_; clear n0_ n1_ n2_ n3_; clear hb hbox hg; have hcz13_0 : w12.cell? ⟨gb381, 0, none⟩ = some (.int .i64 0) := (blk_cell BK381.out 0).trans rfl; have hcz13_1 : w12.cell? ⟨gb381, 1, none⟩ = some (.int .u64 0) := (blk_cell BK381.out 1).trans rfl; have hcz13_2 : w12.cell? ⟨gb381, 2, none⟩ = some (.int .u64 0) := (blk_cell BK381.out 2).trans rfl; have hcz13_3 : w12.cell? ⟨gb381, 3, none⟩ = some (.string (⟨#[]⟩ : ByteArray)) := (blk_cell BK381.out 3).trans rfl; have hcz13_4 : w12.cell? ⟨gb381, 4, none⟩ = some (.string (⟨#[]⟩ : ByteArray)) := (blk_cell BK381.out 4).trans rfl; have hcz13_5 : w12.cell? ⟨gb381, 5, none⟩ = some (.string (⟨#[]⟩ : ByteArray)) := (blk_cell BK381.out 5).trans rfl; have hcz13_6 : w12.cell? ⟨gb381, 6, none⟩ = some (.string (⟨#[]⟩ : ByteArray)) := (blk_cell BK381.out 6).trans rfl; have hcz13_7 : w12.cell? ⟨gb381, 7, none⟩ = some (.int .i64 0) := (blk_cell BK381.out 7).trans rfl; have hcz13_8 : w12.cell? ⟨gb381, 8, none⟩ = some (.int .i64 0) := (blk_cell BK381.out 8).trans rfl; have hcz13_9 : w12.cell? ⟨gb381, 9, none⟩ = some (.int .i64 0) := (blk_cell BK381.out 9).trans rfl; have hfz13_0 := blk_frozen BK381.out 0; have hfz13_1 := blk_frozen BK381.out 1; have hfz13_2 := blk_frozen BK381.out 2; have hfz13_3 := blk_frozen BK381.out 3; have hfz13_4 := blk_frozen BK381.out 4; have hfz13_5 := blk_frozen BK381.out 5; have hfz13_6 := blk_frozen BK381.out 6; have hfz13_7 := blk_frozen BK381.out 7; have hfz13_8 := blk_frozen BK381.out 8; have hfz13_9 := blk_frozen BK381.out 9))
      (try simp only [Act.put, List.setIfInBounds_toArray, List.set_cons_zero, List.set_cons_succ])
      go_cut [32] (fun v32 wc => ∃ (kq : Nat) (x32_7 : Bool), v32 = .bool x32_7 ∧ Aside0 (transeptlaw05_EventFirst.j0 kq lb l1 t367 t379 t380 x32_7 = some r) ∧ Aside0 (kq ≤ k) ∧ Aside0 (wc.heap[gb381]? = some (.cells #[.int .i64 t369, .int .u64 t370, .int .u64 t371, .string t372, .string t373, .string t374, .string t375, .int .i64 t376, .int .i64 t377, .int .i64 t378] 24 (0, 0))) ∧ Aside0 (Below w.heap.size w wc))
      case first =>
        have H := HC8.out
        clear HC8
        by_cases c14 : t380 = 0
        · rw [if_pos c14] at H
          have c14b0 : (t380 == 0) = true := beq_iff_eq.mpr c14
          have c14b1 : (t380 != 0) = false := bne_eq_false_iff_eq.mpr c14
          clear c14
          (first | rw [c14b0] | (simp only [i64_w, i32_w]; rw [c14b0]) | skip)
          have H' := Aside0.mk H
          clear H
          go_wp2
          go_meet
          case rel => exact ⟨_, (true), (by first | rfl | (simp; done) | (simp [*]; done)), H', ⟨by first | omega | exact Nat.le_refl _⟩, ⟨by (with_reducible repeat (first | refine blk_drewN ?_ _ | refine blk_drew ?_ | refine blk_alloc ?_ _)); refine blk_put (cs := #[.int .i64 t369, .int .u64 t370, .int .u64 t371, .string t372, .string t373, .string t374, .string t375, .int .i64 t376, .int .i64 t377, .int .i64 0]) ?_ 9 _ rfl; (with_reducible repeat (first | refine blk_drewN ?_ _ | refine blk_drew ?_ | refine blk_alloc ?_ _)); refine blk_put (cs := #[.int .i64 t369, .int .u64 t370, .int .u64 t371, .string t372, .string t373, .string t374, .string t375, .int .i64 t376, .int .i64 0, .int .i64 0]) ?_ 8 _ rfl; (with_reducible repeat (first | refine blk_drewN ?_ _ | refine blk_drew ?_ | refine blk_alloc ?_ _)); refine blk_put (cs := #[.int .i64 t369, .int .u64 t370, .int .u64 t371, .string t372, .string t373, .string t374, .string t375, .int .i64 0, .int .i64 0, .int .i64 0]) ?_ 7 _ rfl; (with_reducible repeat (first | refine blk_drewN ?_ _ | refine blk_drew ?_ | refine blk_alloc ?_ _)); refine blk_put (cs := #[.int .i64 t369, .int .u64 t370, .int .u64 t371, .string t372, .string t373, .string t374, .string (⟨#[]⟩ : ByteArray), .int .i64 0, .int .i64 0, .int .i64 0]) ?_ 6 _ rfl; (with_reducible repeat (first | refine blk_drewN ?_ _ | refine blk_drew ?_ | refine blk_alloc ?_ _)); refine blk_put (cs := #[.int .i64 t369, .int .u64 t370, .int .u64 t371, .string t372, .string t373, .string (⟨#[]⟩ : ByteArray), .string (⟨#[]⟩ : ByteArray), .int .i64 0, .int .i64 0, .int .i64 0]) ?_ 5 _ rfl; (with_reducible repeat (first | refine blk_drewN ?_ _ | refine blk_drew ?_ | refine blk_alloc ?_ _)); refine blk_put (cs := #[.int .i64 t369, .int .u64 t370, .int .u64 t371, .string t372, .string (⟨#[]⟩ : ByteArray), .string (⟨#[]⟩ : ByteArray), .string (⟨#[]⟩ : ByteArray), .int .i64 0, .int .i64 0, .int .i64 0]) ?_ 4 _ rfl; (with_reducible repeat (first | refine blk_drewN ?_ _ | refine blk_drew ?_ | refine blk_alloc ?_ _)); refine blk_put (cs := #[.int .i64 t369, .int .u64 t370, .int .u64 t371, .string (⟨#[]⟩ : ByteArray), .string (⟨#[]⟩ : ByteArray), .string (⟨#[]⟩ : ByteArray), .string (⟨#[]⟩ : ByteArray), .int .i64 0, .int .i64 0, .int .i64 0]) ?_ 3 _ rfl; (with_reducible repeat (first | refine blk_drewN ?_ _ | refine blk_drew ?_ | refine blk_alloc ?_ _)); refine blk_put (cs := #[.int .i64 t369, .int .u64 t370, .int .u64 0, .string (⟨#[]⟩ : ByteArray), .string (⟨#[]⟩ : ByteArray), .string (⟨#[]⟩ : ByteArray), .string (⟨#[]⟩ : ByteArray), .int .i64 0, .int .i64 0, .int .i64 0]) ?_ 2 _ rfl; (with_reducible repeat (first | refine blk_drewN ?_ _ | refine blk_drew ?_ | refine blk_alloc ?_ _)); refine blk_put (cs := #[.int .i64 t369, .int .u64 0, .int .u64 0, .string (⟨#[]⟩ : ByteArray), .string (⟨#[]⟩ : ByteArray), .string (⟨#[]⟩ : ByteArray), .string (⟨#[]⟩ : ByteArray), .int .i64 0, .int .i64 0, .int .i64 0]) ?_ 1 _ rfl; (with_reducible repeat (first | refine blk_drewN ?_ _ | refine blk_drew ?_ | refine blk_alloc ?_ _)); refine blk_put (cs := #[.int .i64 0, .int .u64 0, .int .u64 0, .string (⟨#[]⟩ : ByteArray), .string (⟨#[]⟩ : ByteArray), .string (⟨#[]⟩ : ByteArray), .string (⟨#[]⟩ : ByteArray), .int .i64 0, .int .i64 0, .int .i64 0]) ?_ 0 _ rfl; (with_reducible repeat (first | refine blk_drewN ?_ _ | refine blk_drew ?_ | refine blk_alloc ?_ _)); exact BK381.out⟩, ⟨by repeat (first | (with_reducible first | exact HB.out | apply below_alloc | apply pw_below_drewN | apply below_drew1 | refine below_set ?_ GE381.out) | exact HB.out)⟩⟩
        · rw [if_neg c14] at H
          have c14b0 : (t380 == 0) = false := beq_eq_false_iff_ne.mpr c14
          have c14b1 : (t380 != 0) = true := bne_iff_ne.mpr c14
          (first | rw [c14b0] | (simp only [i64_w, i32_w]; rw [c14b0]) | skip)
          have H' := Aside0.mk H
          clear H
          go_wp2
          go_meet
          case rel => exact ⟨_, ((t380 == 2)), (by first | rfl | (simp; done) | (simp [*]; done)), H', ⟨by first | omega | exact Nat.le_refl _⟩, ⟨by (with_reducible repeat (first | refine blk_drewN ?_ _ | refine blk_drew ?_ | refine blk_alloc ?_ _)); refine blk_put (cs := #[.int .i64 t369, .int .u64 t370, .int .u64 t371, .string t372, .string t373, .string t374, .string t375, .int .i64 t376, .int .i64 t377, .int .i64 0]) ?_ 9 _ rfl; (with_reducible repeat (first | refine blk_drewN ?_ _ | refine blk_drew ?_ | refine blk_alloc ?_ _)); refine blk_put (cs := #[.int .i64 t369, .int .u64 t370, .int .u64 t371, .string t372, .string t373, .string t374, .string t375, .int .i64 t376, .int .i64 0, .int .i64 0]) ?_ 8 _ rfl; (with_reducible repeat (first | refine blk_drewN ?_ _ | refine blk_drew ?_ | refine blk_alloc ?_ _)); refine blk_put (cs := #[.int .i64 t369, .int .u64 t370, .int .u64 t371, .string t372, .string t373, .string t374, .string t375, .int .i64 0, .int .i64 0, .int .i64 0]) ?_ 7 _ rfl; (with_reducible repeat (first | refine blk_drewN ?_ _ | refine blk_drew ?_ | refine blk_alloc ?_ _)); refine blk_put (cs := #[.int .i64 t369, .int .u64 t370, .int .u64 t371, .string t372, .string t373, .string t374, .string (⟨#[]⟩ : ByteArray), .int .i64 0, .int .i64 0, .int .i64 0]) ?_ 6 _ rfl; (with_reducible repeat (first | refine blk_drewN ?_ _ | refine blk_drew ?_ | refine blk_alloc ?_ _)); refine blk_put (cs := #[.int .i64 t369, .int .u64 t370, .int .u64 t371, .string t372, .string t373, .string (⟨#[]⟩ : ByteArray), .string (⟨#[]⟩ : ByteArray), .int .i64 0, .int .i64 0, .int .i64 0]) ?_ 5 _ rfl; (with_reducible repeat (first | refine blk_drewN ?_ _ | refine blk_drew ?_ | refine blk_alloc ?_ _)); refine blk_put (cs := #[.int .i64 t369, .int .u64 t370, .int .u64 t371, .string t372, .string (⟨#[]⟩ : ByteArray), .string (⟨#[]⟩ : ByteArray), .string (⟨#[]⟩ : ByteArray), .int .i64 0, .int .i64 0, .int .i64 0]) ?_ 4 _ rfl; (with_reducible repeat (first | refine blk_drewN ?_ _ | refine blk_drew ?_ | refine blk_alloc ?_ _)); refine blk_put (cs := #[.int .i64 t369, .int .u64 t370, .int .u64 t371, .string (⟨#[]⟩ : ByteArray), .string (⟨#[]⟩ : ByteArray), .string (⟨#[]⟩ : ByteArray), .string (⟨#[]⟩ : ByteArray), .int .i64 0, .int .i64 0, .int .i64 0]) ?_ 3 _ rfl; (with_reducible repeat (first | refine blk_drewN ?_ _ | refine blk_drew ?_ | refine blk_alloc ?_ _)); refine blk_put (cs := #[.int .i64 t369, .int .u64 t370, .int .u64 0, .string (⟨#[]⟩ : ByteArray), .string (⟨#[]⟩ : ByteArray), .string (⟨#[]⟩ : ByteArray), .string (⟨#[]⟩ : ByteArray), .int .i64 0, .int .i64 0, .int .i64 0]) ?_ 2 _ rfl; (with_reducible repeat (first | refine blk_drewN ?_ _ | refine blk_drew ?_ | refine blk_alloc ?_ _)); refine blk_put (cs := #[.int .i64 t369, .int .u64 0, .int .u64 0, .string (⟨#[]⟩ : ByteArray), .string (⟨#[]⟩ : ByteArray), .string (⟨#[]⟩ : ByteArray), .string (⟨#[]⟩ : ByteArray), .int .i64 0, .int .i64 0, .int .i64 0]) ?_ 1 _ rfl; (with_reducible repeat (first | refine blk_drewN ?_ _ | refine blk_drew ?_ | refine blk_alloc ?_ _)); refine blk_put (cs := #[.int .i64 0, .int .u64 0, .int .u64 0, .string (⟨#[]⟩ : ByteArray), .string (⟨#[]⟩ : ByteArray), .string (⟨#[]⟩ : ByteArray), .string (⟨#[]⟩ : ByteArray), .int .i64 0, .int .i64 0, .int .i64 0]) ?_ 0 _ rfl; (with_reducible repeat (first | refine blk_drewN ?_ _ | refine blk_drew ?_ | refine blk_alloc ?_ _)); exact BK381.out⟩, ⟨by repeat (first | (with_reducible first | exact HB.out | apply below_alloc | apply pw_below_drewN | apply below_drew1 | refine below_set ?_ GE381.out) | exact HB.out)⟩⟩
      case rest =>
        clear HC8
        try clear c1
        try clear p2
        try clear c5
        try clear c5b0
        try clear c5b1
        try clear c6
        try clear c6b0
        try clear c6b1
        try clear c7
        try clear c11
        try clear c14
        try clear c14b0
        try clear c14b1
        try clear hcz13_0
        try clear hcz13_1
        try clear hcz13_2
        try clear hcz13_3
        try clear hcz13_4
        try clear hcz13_5
        try clear hcz13_6
        try clear hcz13_7
        try clear hcz13_8
        try clear hcz13_9
        try clear hfz13_0
        try clear hfz13_1
        try clear hfz13_2
        try clear hfz13_3
        try clear hfz13_4
        try clear hfz13_5
        try clear hfz13_6
        try clear hfz13_7
        try clear hfz13_8
        try clear hfz13_9
        obtain ⟨kq, x32_7, rfl, HA, HJ7, BK381, HB⟩ := hcut
        cases kq with
        | zero => exact absurd HA.out (by simp [transeptlaw05_EventFirst.j0])
        | succ kj7 =>
          have H := HA.out
          clear HA
          simp only [transeptlaw05_EventFirst.j0] at H
          by_cases c15 : x32_7 = true
          · subst c15
            have H1 : (if t367 = true then (some (t379 == (lb.length : Int))) else (some false)) = some r := by rw [if_pos rfl] at H; exact H
            clear H
            have H := H1
            clear H1
            by_cases c16 : t367 = true
            · subst c16
              have H1 : (some (t379 == (lb.length : Int))) = some r := by rw [if_pos rfl] at H; exact H
              clear H
              have H := H1
              clear H1
              obtain rfl := Option.some.inj H
              go_wp2
              go_ret
              exact ⟨by first | rfl | (simp [errW_none, errW_some] <;> rfl) | (simp only [← hji4]; first | rfl | (simp [errW_none, errW_some] <;> rfl)) | (simp [*, errW_none, errW_some] <;> rfl), by repeat (first | (with_reducible first | exact HB.out | apply below_alloc | apply pw_below_drewN | apply below_drew1 | refine below_set ?_ GE381.out) | exact HB.out)⟩
            · replace c16 := Bool.eq_false_iff.mpr c16
              subst c16
              have H1 : (some false) = some r := by rw [if_neg (show ¬ (false = true) by decide)] at H; exact H
              clear H
              have H := H1
              clear H1
              exact absurd HT.out (by rw [← Option.some.inj H]; decide)
          · replace c15 := Bool.eq_false_iff.mpr c15
            subst c15
            have H1 : (if t379 < 0 then (transeptlaw05_EventFirst.j1 kj7 lb l1 t367 t379 t380 true) else (transeptlaw05_EventFirst.j1 kj7 lb l1 t367 t379 t380 (decide (t379 ≥ (lb.length : Int))))) = some r := by rw [if_neg (show ¬ (false = true) by decide)] at H; exact H
            clear H
            have H := H1
            clear H1
            have HC17 := Aside0.mk H
            clear H
            go_upto_region 6 with (fail)
            go_cut [47] (fun v47 wc => ∃ (kq : Nat) (x47_16 : Bool), v47 = .bool x47_16 ∧ Aside0 (transeptlaw05_EventFirst.j1 kq lb l1 t367 t379 t380 x47_16 = some r) ∧ Aside0 (kq ≤ kj7) ∧ Aside0 (wc.heap[gb381]? = some (.cells #[.int .i64 t369, .int .u64 t370, .int .u64 t371, .string t372, .string t373, .string t374, .string t375, .int .i64 t376, .int .i64 t377, .int .i64 t378] 24 (0, 0))) ∧ Aside0 (Below w.heap.size w wc))
            case first =>
              have H := HC17.out
              clear HC17
              by_cases c18 : t379 < 0
              · rw [if_pos c18] at H
                have c18b0 : decide (t379 < 0) = true := decide_eq_true c18
                clear c18
                (first | rw [c18b0] | (simp only [i64_w, i32_w]; rw [c18b0]) | skip)
                have H' := Aside0.mk H
                clear H
                go_wp2
                go_meet
                case rel => exact ⟨_, (true), (by first | rfl | (simp; done) | (simp [*]; done)), H', ⟨by have := HJ7.out; first | omega | exact Nat.le_refl _⟩, ⟨by (with_reducible repeat (first | refine blk_drewN ?_ _ | refine blk_drew ?_ | refine blk_alloc ?_ _)); exact BK381.out⟩, ⟨by repeat (first | (with_reducible first | exact HB.out | apply below_alloc | apply pw_below_drewN | apply below_drew1 | refine below_set ?_ GE381.out) | exact HB.out)⟩⟩
              · rw [if_neg c18] at H
                have c18b0 : decide (t379 < 0) = false := decide_eq_false c18
                clear c18
                (first | rw [c18b0] | (simp only [i64_w, i32_w]; rw [c18b0]) | skip)
                have H' := Aside0.mk H
                clear H
                go_wp2
                go_meet
                case rel => exact ⟨_, (decide (t379 ≥ (lb.length : Int))), (by first | rfl | (simp; done) | (simp only [← hji4] <;> (first | rfl | simp)) | (simp [*]; done)), H', ⟨by have := HJ7.out; first | omega | exact Nat.le_refl _⟩, ⟨by (with_reducible repeat (first | refine blk_drewN ?_ _ | refine blk_drew ?_ | refine blk_alloc ?_ _)); exact BK381.out⟩, ⟨by repeat (first | (with_reducible first | exact HB.out | apply below_alloc | apply pw_below_drewN | apply below_drew1 | refine below_set ?_ GE381.out) | exact HB.out)⟩⟩
            case rest =>
              clear HC17
              try clear c1
              try clear p2
              try clear c5
              try clear c5b0
              try clear c5b1
              try clear c6
              try clear c6b0
              try clear c6b1
              try clear c7
              try clear c11
              try clear c14
              try clear c14b0
              try clear c14b1
              try clear c15
              try clear c16
              try clear c17
              try clear c18
              try clear c18b0
              try clear hcz13_0
              try clear hcz13_1
              try clear hcz13_2
              try clear hcz13_3
              try clear hcz13_4
              try clear hcz13_5
              try clear hcz13_6
              try clear hcz13_7
              try clear hcz13_8
              try clear hcz13_9
              try clear hfz13_0
              try clear hfz13_1
              try clear hfz13_2
              try clear hfz13_3
              try clear hfz13_4
              try clear hfz13_5
              try clear hfz13_6
              try clear hfz13_7
              try clear hfz13_8
              try clear hfz13_9
              try clear p2
              obtain ⟨kq, x47_16, rfl, HA, HJ16, BK381, HB⟩ := hcut
              cases kq with
              | zero => exact absurd HA.out (by simp [transeptlaw05_EventFirst.j1])
              | succ kj16 =>
                have H := HA.out
                clear HA
                simp only [transeptlaw05_EventFirst.j1] at H
                by_cases c19 : x47_16 = true
                · subst c19
                  have H1 : (some false) = some r := by rw [if_pos rfl] at H; exact H
                  clear H
                  have H := H1
                  clear H1
                  exact absurd HT.out (by rw [← Option.some.inj H]; decide)
                · replace c19 := Bool.eq_false_iff.mpr c19
                  subst c19
                  have H1 : ((some (([] : List Int) : List Int)).bind fun y382 => (if 0 ≤ (wrap64 (t379 + 1)) then (if (wrap64 (t379 + 1)) ≤ (lb.length : Int) then (if y382.length + (lb.take ((wrap64 (t379 + 1)) : Int).toNat).length < 140737488355328 then ((some (y382 ++ (lb.take ((wrap64 (t379 + 1)) : Int).toNat) : List Int)).bind fun y386 => (if 0 ≤ (mn (l1.length : Int) 50) then (if (mn (l1.length : Int) 50) ≤ (l1.length : Int) then (if y386.length + (l1.take ((mn (l1.length : Int) 50) : Int).toNat).length < 140737488355328 then ((event_Decode.f (y386 ++ (l1.take ((mn (l1.length : Int) 50) : Int).toNat))).bind fun bt393 => (if 0 ≤ t379 then (if t379 ≤ (lb.length : Int) then ((event_Decode.f (lb.take (t379 : Int).toNat)).bind fun bt407 => (if t367 = true then (if bt393.2.2.2.2.2.2.2.2.2.2.1 = t379 then (if bt393.2.2.2.2.2.2.2.2.2.2.2 = t380 then (if bt407.2.2.2.2.2.2.2.2.2.2.1 = t379 then (if ((bt407.2.2.2.2.2.2.2.2.2.2.2 == 2) == (t380 != 8)) = true then (some ((bt407.2.2.2.2.2.2.2.2.2.2.2 == 0) == (t380 == 8))) else (some false)) else (some false)) else (some false)) else (some false)) else (some false))) else (none)) else (none))) else (none)) else (none)) else (none))) else (none)) else (none)) else (none))) = some r := by rw [if_neg (show ¬ (false = true) by decide)] at H; exact H
                  clear H
                  have H := H1
                  clear H1
                  obtain ⟨y382, hy382⟩ : ∃ y_ : List Int, y_ = (([] : List Int)) := ⟨_, rfl⟩
                  replace H : (if 0 ≤ (wrap64 (t379 + 1)) then (if (wrap64 (t379 + 1)) ≤ (lb.length : Int) then (if y382.length + (lb.take ((wrap64 (t379 + 1)) : Int).toNat).length < 140737488355328 then ((some (y382 ++ (lb.take ((wrap64 (t379 + 1)) : Int).toNat) : List Int)).bind fun y386 => (if 0 ≤ (mn (l1.length : Int) 50) then (if (mn (l1.length : Int) 50) ≤ (l1.length : Int) then (if y386.length + (l1.take ((mn (l1.length : Int) 50) : Int).toNat).length < 140737488355328 then ((event_Decode.f (y386 ++ (l1.take ((mn (l1.length : Int) 50) : Int).toNat))).bind fun bt393 => (if 0 ≤ t379 then (if t379 ≤ (lb.length : Int) then ((event_Decode.f (lb.take (t379 : Int).toNat)).bind fun bt407 => (if t367 = true then (if bt393.2.2.2.2.2.2.2.2.2.2.1 = t379 then (if bt393.2.2.2.2.2.2.2.2.2.2.2 = t380 then (if bt407.2.2.2.2.2.2.2.2.2.2.1 = t379 then (if ((bt407.2.2.2.2.2.2.2.2.2.2.2 == 2) == (t380 != 8)) = true then (some ((bt407.2.2.2.2.2.2.2.2.2.2.2 == 0) == (t380 == 8))) else (some false)) else (some false)) else (some false)) else (some false)) else (some false))) else (none)) else (none))) else (none)) else (none)) else (none))) else (none)) else (none)) else (none)) = some r := by first | (rw [hy382]; with_reducible exact H) | (have H2_ := (Option.bind_some _ _).symm.trans H; rw [hy382]; with_reducible exact H2_) | (have H2_ := (Option.bind_some _ _).symm.trans H; with_reducible exact H2_) | with_reducible exact H | (rw [hy382]; exact H) | exact H
                  have Ny382 := Aside0.mk hy382
                  clear hy382
                  obtain ⟨ji20, hji20⟩ : ∃ j_ : Int, (wrap64 (t379 + 1)) = j_ := ⟨_, rfl⟩
                  replace H : (if 0 ≤ (ji20) then (if (ji20) ≤ (lb.length : Int) then (if y382.length + (lb.take ((ji20) : Int).toNat).length < 140737488355328 then ((some (y382 ++ (lb.take ((ji20) : Int).toNat) : List Int)).bind fun y386 => (if 0 ≤ (mn (l1.length : Int) 50) then (if (mn (l1.length : Int) 50) ≤ (l1.length : Int) then (if y386.length + (l1.take ((mn (l1.length : Int) 50) : Int).toNat).length < 140737488355328 then ((event_Decode.f (y386 ++ (l1.take ((mn (l1.length : Int) 50) : Int).toNat))).bind fun bt393 => (if 0 ≤ t379 then (if t379 ≤ (lb.length : Int) then ((event_Decode.f (lb.take (t379 : Int).toNat)).bind fun bt407 => (if t367 = true then (if bt393.2.2.2.2.2.2.2.2.2.2.1 = t379 then (if bt393.2.2.2.2.2.2.2.2.2.2.2 = t380 then (if bt407.2.2.2.2.2.2.2.2.2.2.1 = t379 then (if ((bt407.2.2.2.2.2.2.2.2.2.2.2 == 2) == (t380 != 8)) = true then (some ((bt407.2.2.2.2.2.2.2.2.2.2.2 == 0) == (t380 == 8))) else (some false)) else (some false)) else (some false)) else (some false)) else (some false))) else (none)) else (none))) else (none)) else (none)) else (none))) else (none)) else (none)) else (none)) = some r := by first | (rw [hji20] at H; exact H) | (simp only [hji20] at H ⊢; exact H)
                  have hji20w : (IntKind.i64.wrap (t379 + 1)) = ji20 := (i64_w _).trans hji20
                  by_cases c21 : 0 ≤ (ji20)
                  · rw [if_pos c21] at H
                    have c21b0 := eq_true c21
                    have c21b1 : decide (0 ≤ (ji20)) = true := decide_eq_true c21
                    clear c21
                    by_cases c22 : (ji20) ≤ (lb.length : Int)
                    · rw [if_pos c22] at H
                      have c22b0 := eq_true c22
                      have c22b1 : decide ((ji20) ≤ (lb.length : Int)) = true := decide_eq_true c22
                      try have c22b1x : decide ((ji20) ≤ (max ji4 0)) = true := by have z_ := c22b1; rw [List.length_take, Nat.min_eq_left (by first | omega | (simp only [decide_eq_true_eq] at *; omega)), show ((ji4.toNat : Nat) : Int) = max ji4 0 by omega] at z_; exact z_
                      clear c22
                      by_cases c23 : y382.length + (lb.take ((ji20) : Int).toNat).length < 140737488355328
                      · rw [if_pos c23] at H
                        have LMc23 := Aside0.mk c23
                        clear c23
                        obtain ⟨y386, hy386⟩ : ∃ y_ : List Int, y_ = (y382 ++ (lb.take ((ji20) : Int).toNat)) := ⟨_, rfl⟩
                        replace H : (if 0 ≤ (mn (l1.length : Int) 50) then (if (mn (l1.length : Int) 50) ≤ (l1.length : Int) then (if y386.length + (l1.take ((mn (l1.length : Int) 50) : Int).toNat).length < 140737488355328 then ((event_Decode.f (y386 ++ (l1.take ((mn (l1.length : Int) 50) : Int).toNat))).bind fun bt393 => (if 0 ≤ t379 then (if t379 ≤ (lb.length : Int) then ((event_Decode.f (lb.take (t379 : Int).toNat)).bind fun bt407 => (if t367 = true then (if bt393.2.2.2.2.2.2.2.2.2.2.1 = t379 then (if bt393.2.2.2.2.2.2.2.2.2.2.2 = t380 then (if bt407.2.2.2.2.2.2.2.2.2.2.1 = t379 then (if ((bt407.2.2.2.2.2.2.2.2.2.2.2 == 2) == (t380 != 8)) = true then (some ((bt407.2.2.2.2.2.2.2.2.2.2.2 == 0) == (t380 == 8))) else (some false)) else (some false)) else (some false)) else (some false)) else (some false))) else (none)) else (none))) else (none)) else (none)) else (none)) = some r := by first | (rw [hy386]; with_reducible exact H) | (have H2_ := (Option.bind_some _ _).symm.trans H; rw [hy386]; with_reducible exact H2_) | (have H2_ := (Option.bind_some _ _).symm.trans H; with_reducible exact H2_) | with_reducible exact H | (rw [hy386]; exact H) | exact H
                        have Ny386 := Aside0.mk hy386
                        clear hy386
                        obtain ⟨ji24, hji24⟩ : ∃ j_ : Int, (mn (l1.length : Int) 50) = j_ := ⟨_, rfl⟩
                        replace H : (if 0 ≤ (ji24) then (if (ji24) ≤ (l1.length : Int) then (if y386.length + (l1.take ((ji24) : Int).toNat).length < 140737488355328 then ((event_Decode.f (y386 ++ (l1.take ((ji24) : Int).toNat))).bind fun bt393 => (if 0 ≤ t379 then (if t379 ≤ (lb.length : Int) then ((event_Decode.f (lb.take (t379 : Int).toNat)).bind fun bt407 => (if t367 = true then (if bt393.2.2.2.2.2.2.2.2.2.2.1 = t379 then (if bt393.2.2.2.2.2.2.2.2.2.2.2 = t380 then (if bt407.2.2.2.2.2.2.2.2.2.2.1 = t379 then (if ((bt407.2.2.2.2.2.2.2.2.2.2.2 == 2) == (t380 != 8)) = true then (some ((bt407.2.2.2.2.2.2.2.2.2.2.2 == 0) == (t380 == 8))) else (some false)) else (some false)) else (some false)) else (some false)) else (some false))) else (none)) else (none))) else (none)) else (none)) else (none)) = some r := by first | (rw [hji24] at H; exact H) | (simp only [hji24] at H ⊢; exact H)
                        have hji24_ : (if 50 < (l1.length : Int) then 50 else (l1.length : Int)) = ji24 := hji24
                        by_cases c25 : 0 ≤ (ji24)
                        · rw [if_pos c25] at H
                          have c25b0 := eq_true c25
                          have c25b1 : decide (0 ≤ (ji24)) = true := decide_eq_true c25
                          clear c25
                          by_cases c26 : (ji24) ≤ (l1.length : Int)
                          · rw [if_pos c26] at H
                            have c26b0 := eq_true c26
                            have c26b1 : decide ((ji24) ≤ (l1.length : Int)) = true := decide_eq_true c26
                            clear c26
                            by_cases c27 : y386.length + (l1.take ((ji24) : Int).toNat).length < 140737488355328
                            · rw [if_pos c27] at H
                              have LMc27 := Aside0.mk c27
                              clear c27
                              obtain ⟨y390, hy390⟩ : ∃ y_ : List Int, y_ = (y386 ++ (l1.take ((ji24) : Int).toNat)) := ⟨_, rfl⟩
                              replace H : ((event_Decode.f y390).bind fun bt393 => (if 0 ≤ t379 then (if t379 ≤ (lb.length : Int) then ((event_Decode.f (lb.take (t379 : Int).toNat)).bind fun bt407 => (if t367 = true then (if bt393.2.2.2.2.2.2.2.2.2.2.1 = t379 then (if bt393.2.2.2.2.2.2.2.2.2.2.2 = t380 then (if bt407.2.2.2.2.2.2.2.2.2.2.1 = t379 then (if ((bt407.2.2.2.2.2.2.2.2.2.2.2 == 2) == (t380 != 8)) = true then (some ((bt407.2.2.2.2.2.2.2.2.2.2.2 == 0) == (t380 == 8))) else (some false)) else (some false)) else (some false)) else (some false)) else (some false))) else (none)) else (none))) = some r := by first | (rw [hy390]; with_reducible exact H) | (have H2_ := (Option.bind_some _ _).symm.trans H; rw [hy390]; with_reducible exact H2_) | (have H2_ := (Option.bind_some _ _).symm.trans H; with_reducible exact H2_) | with_reducible exact H | (rw [hy390]; exact H) | exact H
                              have Ny390 := Aside0.mk hy390
                              clear hy390
                              replace H := Option.bind_eq_some_iff.mp H
                              obtain ⟨⟨t393, t394, t395, t396, t397, t398, t399, t400, t401, t402, t403, t404⟩, A280, H⟩ := H
                              replace H : (if 0 ≤ t379 then (if t379 ≤ (lb.length : Int) then ((event_Decode.f (lb.take (t379 : Int).toNat)).bind fun bt407 => (if t367 = true then (if t403 = t379 then (if t404 = t380 then (if bt407.2.2.2.2.2.2.2.2.2.2.1 = t379 then (if ((bt407.2.2.2.2.2.2.2.2.2.2.2 == 2) == (t380 != 8)) = true then (some ((bt407.2.2.2.2.2.2.2.2.2.2.2 == 0) == (t380 == 8))) else (some false)) else (some false)) else (some false)) else (some false)) else (some false))) else (none)) else (none)) = some r := H
                              have A28 := Aside0.mk A280
                              clear A280
                              by_cases c29 : 0 ≤ t379
                              · rw [if_pos c29] at H
                                have c29b0 := eq_true c29
                                have c29b1 : decide (0 ≤ t379) = true := decide_eq_true c29
                                clear c29
                                by_cases c30 : t379 ≤ (lb.length : Int)
                                · rw [if_pos c30] at H
                                  have c30b0 := eq_true c30
                                  have c30b1 : decide (t379 ≤ (lb.length : Int)) = true := decide_eq_true c30
                                  try have c30b1x : decide (t379 ≤ (max ji4 0)) = true := by have z_ := c30b1; rw [List.length_take, Nat.min_eq_left (by first | omega | (simp only [decide_eq_true_eq] at *; omega)), show ((ji4.toNat : Nat) : Int) = max ji4 0 by omega] at z_; exact z_
                                  clear c30
                                  replace H := Option.bind_eq_some_iff.mp H
                                  obtain ⟨⟨t407, t408, t409, t410, t411, t412, t413, t414, t415, t416, t417, t418⟩, A310, H⟩ := H
                                  replace H : (if t367 = true then (if t403 = t379 then (if t404 = t380 then (if t417 = t379 then (if ((t418 == 2) == (t380 != 8)) = true then (some ((t418 == 0) == (t380 == 8))) else (some false)) else (some false)) else (some false)) else (some false)) else (some false)) = some r := H
                                  have A31 := Aside0.mk A310
                                  clear A310
                                  by_cases c32 : t367 = true
                                  · subst c32
                                    have H1 : (if t403 = t379 then (if t404 = t380 then (if t417 = t379 then (if ((t418 == 2) == (t380 != 8)) = true then (some ((t418 == 0) == (t380 == 8))) else (some false)) else (some false)) else (some false)) else (some false)) = some r := by rw [if_pos rfl] at H; exact H
                                    clear H
                                    have H := H1
                                    clear H1
                                    by_cases c33 : t403 = t379
                                    · rw [if_pos c33] at H
                                      have c33b0 : (t403 == t379) = true := beq_iff_eq.mpr c33
                                      have c33b1 : (t403 != t379) = false := bne_eq_false_iff_eq.mpr c33
                                      clear c33
                                      by_cases c34 : t404 = t380
                                      · rw [if_pos c34] at H
                                        have c34b0 : (t404 == t380) = true := beq_iff_eq.mpr c34
                                        have c34b1 : (t404 != t380) = false := bne_eq_false_iff_eq.mpr c34
                                        clear c34
                                        by_cases c35 : t417 = t379
                                        · rw [if_pos c35] at H
                                          have c35b0 : (t417 == t379) = true := beq_iff_eq.mpr c35
                                          have c35b1 : (t417 != t379) = false := bne_eq_false_iff_eq.mpr c35
                                          clear c35
                                          by_cases c36 : ((t418 == 2) == (t380 != 8)) = true
                                          · rw [if_pos c36] at H
                                            have c36b0 : ((t418 == 2) == (t380 != 8)) = true := c36
                                            (try (have c36b1 : decide ((t418 == 2) = (t380 != 8)) = true := by simpa using c36))
                                            (try (have c36b2 : ((t418 == 2) == (t380 != 8)) = true := by simpa using c36))
                                            clear c36
                                            obtain rfl := Option.some.inj H
                                            try go_wp2
                                            have n0_ := Aside0.mk (blk_drew BK381.out)
                                            have n1_ := Aside0.mk (below_drew1 HB.out)
                                            clear BK381
                                            clear HB
                                            have BK381 := n0_
                                            have HB := n1_
                                            clear n0_ n1_
                                            obtain ⟨i038, hi038, _, hsz38, _⟩ := info_parts info5
                                            obtain ⟨hcut38, hA38, hC38⟩ := print_take_of (P := Tryd.prog) (Value.int .u8) 0 27 5 .i64 Tryd.underlying27 hi038 hsz38 A0 c0 lb (ji20) (of_decide_eq_true (by first | (with_reducible assumption) | assumption)) (of_decide_eq_true (by first | (with_reducible assumption) | assumption)) HC368.out
                                            have hl38 := Aside0.mk (show (lb.take ((ji20) : Int).toNat).length = ((ji20) : Int).toNat from by have q0_ : 0 ≤ (ji20) := (of_decide_eq_true (by first | (with_reducible assumption) | assumption)); have q1_ : (ji20) ≤ (lb.length : Int) := (of_decide_eq_true (by first | (with_reducible assumption) | assumption)); (try simp only [List.length_drop, List.length_take] at q0_ q1_); (try simp only [List.length_drop, List.length_take] at q2_); simp only [List.length_drop, List.length_take]; first | done | omega)
                                            (try rw [hl38.out] at hcut38)
                                            have HR385 := Aside0.mk (Kd.C_of_reads (h1 := fun _ => rfl) (hA38 _ (Kd.reads_of_C HR368.out)))
                                            have HC385 := Aside0.mk hC38
                                            clear hA38 hC38 hi038 hsz38
                                            obtain ⟨i039, hi039, _, hsz39, _⟩ := info_parts info5
                                            obtain ⟨hcut39, hA39, hC39⟩ := print_take_of (P := Tryd.prog) (Value.int .u8) 0 27 5 .i64 Tryd.underlying27 hi039 hsz39 A1 c1 l1 (ji24) (of_decide_eq_true (by first | (with_reducible assumption) | assumption)) (of_decide_eq_true (by first | (with_reducible assumption) | assumption)) HC1.out
                                            have hl39 := Aside0.mk (show (l1.take ((ji24) : Int).toNat).length = ((ji24) : Int).toNat from by have q0_ : 0 ≤ (ji24) := (of_decide_eq_true (by first | (with_reducible assumption) | assumption)); have q1_ : (ji24) ≤ (l1.length : Int) := (of_decide_eq_true (by first | (with_reducible assumption) | assumption)); (try simp only [List.length_drop, List.length_take] at q0_ q1_); (try simp only [List.length_drop, List.length_take] at q2_); simp only [List.length_drop, List.length_take]; first | done | omega)
                                            (try rw [hl39.out] at hcut39)
                                            have HR389 := Aside0.mk (Kd.C_of_reads (h1 := fun _ => rfl) (hA39 _ (Kd.reads_of_C HR1.out)))
                                            have HC389 := Aside0.mk hC39
                                            clear hA39 hC39 hi039 hsz39
                                            refine start_ (n := 21) (S := fun w' => True) (ds := []) #[false, false, false, false, false, false, false, false, false, false, false, false, false, false, false, false, false, false, false, false, false] (by kernel_rfl) rfl rfl trivial (fun hHeld => ?_); refine with_tabW transeptlaw05_EventFirst.tab8 transeptlaw05_EventFirst.bits8 (fun HT_ HW_ => ?_)
                                            generalize wc.drew = w37 at BK381 HB HR385 HR389 hHeld ⊢
                                            refine pure_ (i := 1) (N := some 50) (v := ?_) (a' := ?_) #[false, true, false, false, false, false, false, false, false, false, false, false, false, false, false, false, false, false, false, false, false] rfl rfl (any_of HT_.out (by kernel_rfl)) (fun _ _ _ h => h) (Or.inl ⟨by rfl, ?_⟩) ?_ ?_
                                            rotate_left
                                            · intro w'
                                              go_simp
                                              with_reducible rfl
                                            rotate_left
                                            · simp only [Act.put, List.setIfInBounds_toArray, List.set_cons_zero, List.set_cons_succ, i64_w, i32_w]
                                              rfl
                                            refine pure_ (i := 2) (N := some 51) (v := ?_) (a' := ?_) #[false, true, true, false, false, false, false, false, false, false, false, false, false, false, false, false, false, false, false, false, false] rfl rfl (any_of HT_.out (by kernel_rfl)) (fun _ _ _ h => h) (Or.inl ⟨by rfl, ?_⟩) ?_ ?_
                                            rotate_left
                                            · intro w'
                                              go_simp
                                              with_reducible rfl
                                            rotate_left
                                            · simp only [Act.put, List.setIfInBounds_toArray, List.set_cons_zero, List.set_cons_succ, i64_w, i32_w]
                                              rfl
                                            refine pure_ (i := 3) (N := some 52) (v := ?_) (a' := ?_) #[false, true, true, true, false, false, false, false, false, false, false, false, false, false, false, false, false, false, false, false, false] rfl rfl (any_of HT_.out (by kernel_rfl)) (fun _ _ _ h => h) (Or.inl ⟨by rfl, ?_⟩) ?_ ?_
                                            rotate_left
                                            · intro w'
                                              go_simp
                                              with_reducible rfl
                                            rotate_left
                                            · simp only [Act.put, List.setIfInBounds_toArray, List.set_cons_zero, List.set_cons_succ, i64_w, i32_w]
                                              rfl
                                            refine pure_ (i := 4) (N := some 53) (v := ?_) (a' := ?_) #[false, true, true, true, true, false, false, false, false, false, false, false, false, false, false, false, false, false, false, false, false] rfl rfl (any_of HT_.out (by kernel_rfl)) (fun _ _ _ h => h) (Or.inl ⟨by rfl, ?_⟩) ?_ ?_
                                            rotate_left
                                            · intro w'
                                              go_simp
                                              with_reducible rfl
                                            rotate_left
                                            · simp only [Act.put, List.setIfInBounds_toArray, List.set_cons_zero, List.set_cons_succ, i64_w, i32_w]
                                              rfl
                                            refine pure_ (i := 6) (N := some 55) (v := ?_) (a' := ?_) #[false, true, true, true, true, false, true, false, false, false, false, false, false, false, false, false, false, false, false, false, false] rfl rfl (any_of HT_.out (by kernel_rfl)) (fun _ _ _ h => h) (Or.inl ⟨by rfl, ?_⟩) ?_ ?_
                                            rotate_left
                                            · intro w'
                                              go_simp
                                              with_reducible rfl
                                            rotate_left
                                            · simp only [Act.put, List.setIfInBounds_toArray, List.set_cons_zero, List.set_cons_succ, i64_w, i32_w]
                                              rfl
                                            refine pure_ (i := 7) (N := some 56) (v := ?_) (a' := ?_) #[false, true, true, true, true, false, true, true, false, false, false, false, false, false, false, false, false, false, false, false, false] rfl rfl (any_of HT_.out (by kernel_rfl)) (fun _ _ _ h => h) (Or.inl ⟨by rfl, ?_⟩) ?_ ?_
                                            rotate_left
                                            · intro w'
                                              go_simp
                                              with_reducible rfl
                                            rotate_left
                                            · simp only [Act.put, List.setIfInBounds_toArray, List.set_cons_zero, List.set_cons_succ, i64_w, i32_w]
                                              rfl
                                            refine pure_ (i := 8) (N := some 57) (v := ?_) (a' := ?_) #[false, true, true, true, true, false, true, true, true, false, false, false, false, false, false, false, false, false, false, false, false] rfl rfl (any_of HT_.out (by kernel_rfl)) (fun _ _ _ h => h) (Or.inl ⟨by rfl, ?_⟩) ?_ ?_
                                            rotate_left
                                            · intro w'
                                              go_simp
                                              with_reducible rfl
                                            rotate_left
                                            · simp only [Act.put, List.setIfInBounds_toArray, List.set_cons_zero, List.set_cons_succ, i64_w, i32_w]
                                              rfl
                                            refine pure_ (i := 9) (N := some 58) (v := ?_) (a' := ?_) #[false, true, true, true, true, false, true, true, true, true, false, false, false, false, false, false, false, false, false, false, false] rfl rfl (any_of HT_.out (by kernel_rfl)) (fun _ _ _ h => h) (Or.inl ⟨by rfl, ?_⟩) ?_ ?_
                                            rotate_left
                                            · intro w'
                                              go_simp
                                              with_reducible rfl
                                            rotate_left
                                            · simp only [Act.put, List.setIfInBounds_toArray, List.set_cons_zero, List.set_cons_succ, i64_w, i32_w]
                                              rfl
                                            refine pure_ (i := 10) (N := some 59) (v := ?_) (a' := ?_) #[false, true, true, true, true, false, true, true, true, true, true, false, false, false, false, false, false, false, false, false, false] rfl rfl (any_of HT_.out (by kernel_rfl)) (fun _ _ _ h => h) (Or.inl ⟨by rfl, ?_⟩) ?_ ?_
                                            rotate_left
                                            · intro w'
                                              go_simp
                                              with_reducible rfl
                                            rotate_left
                                            · simp only [Act.put, List.setIfInBounds_toArray, List.set_cons_zero, List.set_cons_succ, i64_w, i32_w]
                                              rfl
                                            refine join_ (σ := Value × Value × Value × Nat) 3 #[true, true, true, true, true, true, true, true, true, true, true, true, true, true, true, true, true, true, false, false, false] (fun s_ => [(49, s_.1), (54, s_.2.1), (60, s_.2.2.1), (61, .tuple #[.agg #[.int .i64 t393, .int .u64 t394, .int .u64 t395, .string t396, .string t397, .string t398, .string t399, .int .i64 t400, .int .i64 t401, .int .i64 t402], .int .i64 t403, .int .i64 t404]), (9, .pointer (some ⟨s_.2.2.2, 0, none⟩)), (48, .tuple #[.agg #[.int .i64 t393, .int .u64 t394, .int .u64 t395, .string t396, .string t397, .string t398, .string t399, .int .i64 t400, .int .i64 t401, .int .i64 t402], .int .i64 t403, .int .i64 t404]), (62, .agg #[.int .i64 t393, .int .u64 t394, .int .u64 t395, .string t396, .string t397, .string t398, .string t399, .int .i64 t400, .int .i64 t401, .int .i64 t402]), (63, .int .i64 t403), (64, .int .i64 t404)]) (fun s_ w' => (Kd.R (Kd.int .u8) 5 w' w.heap.size (fun _ => True) s_.2.2.1 y390) ∧ (w'.heap[gb381]? = some (.cells #[.int .i64 t369, .int .u64 t370, .int .u64 t371, .string t372, .string t373, .string t374, .string t375, .int .i64 t376, .int .i64 t377, .int .i64 t378] 24 (0, 0))) ∧ (w'.heap[s_.2.2.2]? = some (.cells #[.int .i64 0, .int .u64 0, .int .u64 0, .string (⟨#[]⟩ : ByteArray), .string (⟨#[]⟩ : ByteArray), .string (⟨#[]⟩ : ByteArray), .string (⟨#[]⟩ : ByteArray), .int .i64 0, .int .i64 0, .int .i64 0] 24 (0, 0))) ∧ (w.heap.size ≤ s_.2.2.2) ∧ (w.heap.size ≤ s_.2.2.2) ∧ (gb381 ≠ s_.2.2.2) ∧ (s_.2.2.2 ≠ gb381) ∧ (Below w.heap.size w w')) ?_ ?_
                                            rotate_left
                                            · intro hJ0_5_11_12_17
                                              refine join_ (σ := Value × Value × Value) 4 #[true, true, true, true, true, true, true, true, true, true, true, true, true, true, true, true, true, false, false, false, false] (fun s_ => [(49, s_.1), (54, s_.2.1), (60, s_.2.2), (61, .tuple #[.agg #[.int .i64 t393, .int .u64 t394, .int .u64 t395, .string t396, .string t397, .string t398, .string t399, .int .i64 t400, .int .i64 t401, .int .i64 t402], .int .i64 t403, .int .i64 t404]), (48, .tuple #[.agg #[.int .i64 t393, .int .u64 t394, .int .u64 t395, .string t396, .string t397, .string t398, .string t399, .int .i64 t400, .int .i64 t401, .int .i64 t402], .int .i64 t403, .int .i64 t404]), (62, .agg #[.int .i64 t393, .int .u64 t394, .int .u64 t395, .string t396, .string t397, .string t398, .string t399, .int .i64 t400, .int .i64 t401, .int .i64 t402]), (63, .int .i64 t403), (64, .int .i64 t404)]) (fun s_ w' => (Kd.R (Kd.int .u8) 5 w' w.heap.size (fun _ => True) s_.2.2 y390) ∧ (w'.heap[gb381]? = some (.cells #[.int .i64 t369, .int .u64 t370, .int .u64 t371, .string t372, .string t373, .string t374, .string t375, .int .i64 t376, .int .i64 t377, .int .i64 t378] 24 (0, 0))) ∧ (Below w.heap.size w w')) ?_ ?_
                                              rotate_left
                                              · intro hJ0_5_11_12
                                                refine join_ (σ := Value × Value × Value × Nat) 8 #[true, true, true, true, true, true, true, true, true, true, true, true, false, false, false, false, false, true, false, false, false] (fun s_ => [(49, s_.1), (54, s_.2.1), (60, s_.2.2.1), (9, .pointer (some ⟨s_.2.2.2, 0, none⟩))]) (fun s_ w' => (Kd.R (Kd.int .u8) 5 w' w.heap.size (fun _ => True) s_.2.2.1 y390) ∧ (w'.heap[gb381]? = some (.cells #[.int .i64 t369, .int .u64 t370, .int .u64 t371, .string t372, .string t373, .string t374, .string t375, .int .i64 t376, .int .i64 t377, .int .i64 t378] 24 (0, 0))) ∧ (w'.heap[s_.2.2.2]? = some (.cells #[.int .i64 0, .int .u64 0, .int .u64 0, .string (⟨#[]⟩ : ByteArray), .string (⟨#[]⟩ : ByteArray), .string (⟨#[]⟩ : ByteArray), .string (⟨#[]⟩ : ByteArray), .int .i64 0, .int .i64 0, .int .i64 0] 24 (0, 0))) ∧ (w.heap.size ≤ s_.2.2.2) ∧ (w.heap.size ≤ s_.2.2.2) ∧ (gb381 ≠ s_.2.2.2) ∧ (s_.2.2.2 ≠ gb381) ∧ (Below w.heap.size w w')) ?_ ?_
                                                rotate_left
                                                · intro hJ0_5_11_17
                                                  refine join_ (σ := Value × Value × Value) 9 #[true, true, true, true, true, true, true, true, true, true, true, true, false, false, false, false, false, false, false, false, false] (fun s_ => [(49, s_.1), (54, s_.2.1), (60, s_.2.2)]) (fun s_ w' => (Kd.R (Kd.int .u8) 5 w' w.heap.size (fun _ => True) s_.2.2 y390) ∧ (w'.heap[gb381]? = some (.cells #[.int .i64 t369, .int .u64 t370, .int .u64 t371, .string t372, .string t373, .string t374, .string t375, .int .i64 t376, .int .i64 t377, .int .i64 t378] 24 (0, 0))) ∧ (Below w.heap.size w w')) ?_ ?_
                                                  rotate_left
                                                  · intro hJ0_5_11
                                                    refine join_ (σ := Value × Value × Nat) 9 #[true, true, true, true, true, true, true, true, true, true, true, false, false, false, false, false, false, true, false, false, false] (fun s_ => [(49, s_.1), (54, s_.2.1), (9, .pointer (some ⟨s_.2.2, 0, none⟩))]) (fun s_ w' => (Kd.R (Kd.int .u8) 5 w' w.heap.size (fun _ => True) s_.2.1 y386) ∧ (w'.heap[gb381]? = some (.cells #[.int .i64 t369, .int .u64 t370, .int .u64 t371, .string t372, .string t373, .string t374, .string t375, .int .i64 t376, .int .i64 t377, .int .i64 t378] 24 (0, 0))) ∧ (w'.heap[s_.2.2]? = some (.cells #[.int .i64 0, .int .u64 0, .int .u64 0, .string (⟨#[]⟩ : ByteArray), .string (⟨#[]⟩ : ByteArray), .string (⟨#[]⟩ : ByteArray), .string (⟨#[]⟩ : ByteArray), .int .i64 0, .int .i64 0, .int .i64 0] 24 (0, 0))) ∧ (w.heap.size ≤ s_.2.2) ∧ (w.heap.size ≤ s_.2.2) ∧ (gb381 ≠ s_.2.2) ∧ (s_.2.2 ≠ gb381) ∧ (Below w.heap.size w w')) ?_ ?_
                                                    rotate_left
                                                    · intro hJ0_5_17
                                                      refine join_ (σ := Value × Value) 10 #[true, true, true, true, true, true, true, true, true, true, true, false, false, false, false, false, false, false, false, false, false] (fun s_ => [(49, s_.1), (54, s_.2)]) (fun s_ w' => (Kd.R (Kd.int .u8) 5 w' w.heap.size (fun _ => True) s_.2 y386) ∧ (w'.heap[gb381]? = some (.cells #[.int .i64 t369, .int .u64 t370, .int .u64 t371, .string t372, .string t373, .string t374, .string t375, .int .i64 t376, .int .i64 t377, .int .i64 t378] 24 (0, 0))) ∧ (Below w.heap.size w w')) ?_ ?_
                                                      rotate_left
                                                      · intro hJ0_5
                                                        refine join_ (σ := Value × Nat) 10 #[true, true, true, true, true, false, true, true, true, true, true, false, false, false, false, false, false, true, false, false, false] (fun s_ => [(49, s_.1), (9, .pointer (some ⟨s_.2, 0, none⟩))]) (fun s_ w' => (Kd.R (Kd.int .u8) 5 w' w.heap.size (fun _ => True) s_.1 y382) ∧ (w'.heap[gb381]? = some (.cells #[.int .i64 t369, .int .u64 t370, .int .u64 t371, .string t372, .string t373, .string t374, .string t375, .int .i64 t376, .int .i64 t377, .int .i64 t378] 24 (0, 0))) ∧ (w'.heap[s_.2]? = some (.cells #[.int .i64 0, .int .u64 0, .int .u64 0, .string (⟨#[]⟩ : ByteArray), .string (⟨#[]⟩ : ByteArray), .string (⟨#[]⟩ : ByteArray), .string (⟨#[]⟩ : ByteArray), .int .i64 0, .int .i64 0, .int .i64 0] 24 (0, 0))) ∧ (w.heap.size ≤ s_.2) ∧ (w.heap.size ≤ s_.2) ∧ (gb381 ≠ s_.2) ∧ (s_.2 ≠ gb381) ∧ (Below w.heap.size w w')) ?_ ?_
                                                        rotate_left
                                                        · intro hJ0_17
                                                          refine join_ (σ := Value) 11 #[true, true, true, true, true, false, true, true, true, true, true, false, false, false, false, false, false, false, false, false, false] (fun s_ => [(49, s_)]) (fun s_ w' => (Kd.R (Kd.int .u8) 5 w' w.heap.size (fun _ => True) s_ y382) ∧ (w'.heap[gb381]? = some (.cells #[.int .i64 t369, .int .u64 t370, .int .u64 t371, .string t372, .string t373, .string t374, .string t375, .int .i64 t376, .int .i64 t377, .int .i64 t378] 24 (0, 0))) ∧ (Below w.heap.size w w')) ?_ ?_
                                                          rotate_left
                                                          · intro hJ0
                                                            refine join_ (σ := Nat) 11 #[false, true, true, true, true, false, true, true, true, true, true, false, false, false, false, false, false, true, false, false, false] (fun s_ => [(9, .pointer (some ⟨s_, 0, none⟩))]) (fun s_ w' => (w'.heap[gb381]? = some (.cells #[.int .i64 t369, .int .u64 t370, .int .u64 t371, .string t372, .string t373, .string t374, .string t375, .int .i64 t376, .int .i64 t377, .int .i64 t378] 24 (0, 0))) ∧ (w'.heap[s_]? = some (.cells #[.int .i64 0, .int .u64 0, .int .u64 0, .string (⟨#[]⟩ : ByteArray), .string (⟨#[]⟩ : ByteArray), .string (⟨#[]⟩ : ByteArray), .string (⟨#[]⟩ : ByteArray), .int .i64 0, .int .i64 0, .int .i64 0] 24 (0, 0))) ∧ (w.heap.size ≤ s_) ∧ (w.heap.size ≤ s_) ∧ (gb381 ≠ s_) ∧ (s_ ≠ gb381) ∧ (Below w.heap.size w w')) ?_ ?_
                                                            rotate_left
                                                            · intro hJ17
                                                              refine two_ (i := 0) (j := 17) (Ni := some 49) (Nj := some 9) #[true, true, true, true, true, false, true, true, true, true, true, false, false, false, false, false, false, false, false, false, false] #[false, true, true, true, true, false, true, true, true, true, true, false, false, false, false, false, false, true, false, false, false] rfl rfl rfl rfl (two_of HT_.out (by kernel_rfl)) (by decide) (by decide) (fun K hK => ?_) (fun K hK => ?_)
                                                              · skip
                                                                refine Kd.R_lit_step (Kd.int .u8) _ 5 ?hg (N := 49) ?hd (xs := ([] : List Int)) (inner := []) (ok := fun _ => True) (okp := fun _ => True) ?hr ?hp (fun _ hk => hk) trivial (Below.refl _ _) (Nat.le_refl _) (by simp) ?_; (case hd => rfl); (case hg => rfl); (case hr => first | (go_simp; done) | (go_simp; rfl)); (case hp => exact (Reps.none _ _))
                                                                intro v383 w40 ho41 hb hg_ hnew_
                                                                clear hg_ hnew_
                                                                (first | rw [← Ny382.out] at ho41 | (simp only [Int.reduceToNat] at ho41; rw [← Ny382.out] at ho41))
                                                                have n0_ := Aside0.mk (Kd.R_lower ho41 (below_size (by repeat (first | (with_reducible first | exact HB.out | apply below_alloc | apply pw_below_drewN | apply below_drew1 | refine below_set ?_ GE381.out) | exact HB.out))))
                                                                have n1_ := Aside0.mk (blk_below (g := gb381) (o := .cells #[.int .i64 t369, .int .u64 t370, .int .u64 t371, .string t372, .string t373, .string t374, .string t375, .int .i64 t376, .int .i64 t377, .int .i64 t378] 24 (0, 0)) (by (with_reducible repeat (first | refine blk_drewN ?_ _ | refine blk_drew ?_ | refine blk_alloc ?_ _)); exact BK381.out) hb)
                                                                have n2_ := Aside0.mk (below_step (by repeat (first | (with_reducible first | exact HB.out | apply below_alloc | apply pw_below_drewN | apply below_drew1 | refine below_set ?_ GE381.out) | exact HB.out)) hb)
                                                                clear BK381
                                                                clear HB
                                                                have HO384 := n0_
                                                                have BK381 := n1_
                                                                have HB := n2_
                                                                clear n0_ n1_ n2_
                                                                clear hb ho41
                                                                refine hK.out _ _ trivial (fun hHeld => ?_)
                                                                clear hK K
                                                                refine norm_ (a' := ?_) ?_ ?_
                                                                rotate_left
                                                                · show Act.put _ (some 49) _ = _
                                                                  simp only [Act.put, List.setIfInBounds_toArray, List.set_cons_zero, List.set_cons_succ, i64_w, i32_w]
                                                                  rfl
                                                                exact norm_ (by first | (simp only [putAll, Act.put, List.setIfInBounds_toArray, List.set_cons_zero, List.set_cons_succ]; done) | (simp only [putAll, Act.put, List.setIfInBounds_toArray, List.set_cons_zero, List.set_cons_succ]; rfl)) (hJ0 (v383) _ ⟨(by (with_reducible repeat (first | apply Kd.R_alloc | apply Kd.R_drewN | apply Kd.R_drew)); exact HO384.out), (by (with_reducible repeat (first | refine blk_drewN ?_ _ | refine blk_drew ?_ | refine blk_alloc ?_ _)); exact BK381.out), (by repeat (first | (with_reducible first | exact HB.out | apply below_alloc | apply pw_below_drewN | apply below_drew1 | refine below_set ?_ GE381.out) | exact HB.out))⟩)
                                                              · skip
                                                                refine box_step ?hg (N := 9) ?hd (cs := #[.int .i64 0, .int .u64 0, .int .u64 0, .string (⟨#[]⟩ : ByteArray), .string (⟨#[]⟩ : ByteArray), .string (⟨#[]⟩ : ByteArray), .string (⟨#[]⟩ : ByteArray), .int .i64 0, .int .i64 0, .int .i64 0]) (t := 24) ?hr ?_; (case hd => rfl); (case hg => rfl); (case hr => first | (go_simp; done) | (go_simp; rfl))
                                                                intro gb405 hg w40 hbox hb
                                                                have n0_ := Aside0.mk (blk_below (g := gb381) (o := .cells #[.int .i64 t369, .int .u64 t370, .int .u64 t371, .string t372, .string t373, .string t374, .string t375, .int .i64 t376, .int .i64 t377, .int .i64 t378] 24 (0, 0)) (by (with_reducible repeat (first | refine blk_drewN ?_ _ | refine blk_drew ?_ | refine blk_alloc ?_ _)); exact BK381.out) hb)
                                                                have n1_ := Aside0.mk (below_step (by repeat (first | (with_reducible first | exact HB.out | apply below_alloc | apply pw_below_drewN | apply below_drew1 | refine below_set ?_ GE381.out) | exact HB.out)) hb)
                                                                have n2_ := Aside0.mk (hbox)
                                                                have n3_ := Aside0.mk ((by rw [hg]; exact (below_size (by repeat (first | (with_reducible first | exact HB.out | apply below_alloc | apply pw_below_drewN | apply below_drew1 | refine below_set ?_ GE381.out) | exact HB.out))) : w.heap.size ≤ gb405))
                                                                have n4_ := Aside0.mk ((by rw [hg]; exact (below_size (by repeat (first | (with_reducible first | exact HB.out | apply below_alloc | apply pw_below_drewN | apply below_drew1 | refine below_set ?_ GE381.out) | exact HB.out))) : w.heap.size ≤ gb405))
                                                                have n5_ := Aside0.mk ((by rw [hg]; exact Nat.ne_of_lt (blk_lt (g := gb381) (o := .cells #[.int .i64 t369, .int .u64 t370, .int .u64 t371, .string t372, .string t373, .string t374, .string t375, .int .i64 t376, .int .i64 t377, .int .i64 t378] 24 (0, 0)) (by (with_reducible repeat (first | refine blk_drewN ?_ _ | refine blk_drew ?_ | refine blk_alloc ?_ _)); exact BK381.out)) : gb381 ≠ gb405))
                                                                have n6_ := Aside0.mk ((by rw [hg]; exact Nat.ne_of_gt (blk_lt (g := gb381) (o := .cells #[.int .i64 t369, .int .u64 t370, .int .u64 t371, .string t372, .string t373, .string t374, .string t375, .int .i64 t376, .int .i64 t377, .int .i64 t378] 24 (0, 0)) (by (with_reducible repeat (first | refine blk_drewN ?_ _ | refine blk_drew ?_ | refine blk_alloc ?_ _)); exact BK381.out)) : gb405 ≠ gb381))
                                                                clear BK381
                                                                clear HB
                                                                have BK381 := n0_
                                                                have HB := n1_
                                                                have BK405 := n2_
                                                                have GW405 := n3_
                                                                have GE405 := n4_
                                                                have NB381_405 := n5_
                                                                have NB405_381 := n6_
                                                                clear n0_ n1_ n2_ n3_ n4_ n5_ n6_
                                                                clear hb hbox hg
                                                                refine hK.out _ _ trivial (fun hHeld => ?_)
                                                                clear hK K
                                                                refine norm_ (a' := ?_) ?_ ?_
                                                                rotate_left
                                                                · show Act.put _ (some 9) _ = _
                                                                  simp only [Act.put, List.setIfInBounds_toArray, List.set_cons_zero, List.set_cons_succ, i64_w, i32_w]
                                                                  rfl
                                                                exact norm_ (by first | (simp only [putAll, Act.put, List.setIfInBounds_toArray, List.set_cons_zero, List.set_cons_succ]; done) | (simp only [putAll, Act.put, List.setIfInBounds_toArray, List.set_cons_zero, List.set_cons_succ]; rfl)) (hJ17 (gb405) _ ⟨(by (with_reducible repeat (first | refine blk_drewN ?_ _ | refine blk_drew ?_ | refine blk_alloc ?_ _)); exact BK381.out), (by (with_reducible repeat (first | refine blk_drewN ?_ _ | refine blk_drew ?_ | refine blk_alloc ?_ _)); exact BK405.out), GW405.out, GE405.out, NB381_405.out, NB405_381.out, (by repeat (first | (with_reducible first | exact HB.out | apply below_alloc | apply pw_below_drewN | apply below_drew1 | refine below_set ?_ GE381.out | refine below_set ?_ GE405.out) | exact HB.out))⟩)
                                                            · skip
                                                              rintro gb405 w41 ⟨h0_, h1_, h2_, h3_, h4_, h5_, h6_⟩
                                                              have n0_ : Aside0 (w41.heap[gb381]? = some (.cells #[.int .i64 t369, .int .u64 t370, .int .u64 t371, .string t372, .string t373, .string t374, .string t375, .int .i64 t376, .int .i64 t377, .int .i64 t378] 24 (0, 0))) := ⟨h0_⟩
                                                              have n1_ : Aside0 (w41.heap[gb405]? = some (.cells #[.int .i64 0, .int .u64 0, .int .u64 0, .string (⟨#[]⟩ : ByteArray), .string (⟨#[]⟩ : ByteArray), .string (⟨#[]⟩ : ByteArray), .string (⟨#[]⟩ : ByteArray), .int .i64 0, .int .i64 0, .int .i64 0] 24 (0, 0))) := ⟨h1_⟩
                                                              have n2_ : Aside0 (w.heap.size ≤ gb405) := ⟨h2_⟩
                                                              have n3_ : Aside0 (w.heap.size ≤ gb405) := ⟨h3_⟩
                                                              have n4_ : Aside0 (gb381 ≠ gb405) := ⟨h4_⟩
                                                              have n5_ : Aside0 (gb405 ≠ gb381) := ⟨h5_⟩
                                                              have n6_ : Aside0 (Below w.heap.size w w41) := ⟨h6_⟩
                                                              clear BK381
                                                              clear HB
                                                              clear h0_ h1_ h2_ h3_ h4_ h5_ h6_
                                                              have BK381 := n0_
                                                              have BK405 := n1_
                                                              have GW405 := n2_
                                                              have GE405 := n3_
                                                              have NB381_405 := n4_
                                                              have NB405_381 := n5_
                                                              have HB := n6_
                                                              clear n0_ n1_ n2_ n3_ n4_ n5_ n6_
                                                              have hHeld := trivial
                                                              refine norm_ (a' := ?_) ?_ ?_
                                                              rotate_left
                                                              · simp only [putAll, Act.put, List.setIfInBounds_toArray, List.set_cons_zero, List.set_cons_succ, *]
                                                                rfl
                                                              refine one_ (i := 0) (N := some 49) #[true, true, true, true, true, false, true, true, true, true, true, false, false, false, false, false, false, true, false, false, false] rfl rfl (one_of HT_.out (by kernel_rfl)) (by decide) (fun K hK => ?_)
                                                              refine Kd.R_lit_step (Kd.int .u8) _ 5 ?hg (N := 49) ?hd (xs := ([] : List Int)) (inner := []) (ok := fun _ => True) (okp := fun _ => True) ?hr ?hp (fun _ hk => hk) trivial (Below.refl _ _) (Nat.le_refl _) (by simp) ?_; (case hd => rfl); (case hg => rfl); (case hr => first | (go_simp; done) | (go_simp; rfl)); (case hp => exact (Reps.none _ _))
                                                              intro v383 w42 ho43 hb hg_ hnew_
                                                              clear hg_ hnew_
                                                              (first | rw [← Ny382.out] at ho43 | (simp only [Int.reduceToNat] at ho43; rw [← Ny382.out] at ho43))
                                                              have n0_ := Aside0.mk (Kd.R_lower ho43 (below_size (by repeat (first | (with_reducible first | exact HB.out | apply below_alloc | apply pw_below_drewN | apply below_drew1 | refine below_set ?_ GE381.out | refine below_set ?_ GE405.out) | exact HB.out))))
                                                              have n1_ := Aside0.mk (blk_below (g := gb381) (o := .cells #[.int .i64 t369, .int .u64 t370, .int .u64 t371, .string t372, .string t373, .string t374, .string t375, .int .i64 t376, .int .i64 t377, .int .i64 t378] 24 (0, 0)) (by (with_reducible repeat (first | refine blk_drewN ?_ _ | refine blk_drew ?_ | refine blk_alloc ?_ _)); exact BK381.out) hb)
                                                              have n2_ := Aside0.mk (blk_below (g := gb405) (o := .cells #[.int .i64 0, .int .u64 0, .int .u64 0, .string (⟨#[]⟩ : ByteArray), .string (⟨#[]⟩ : ByteArray), .string (⟨#[]⟩ : ByteArray), .string (⟨#[]⟩ : ByteArray), .int .i64 0, .int .i64 0, .int .i64 0] 24 (0, 0)) (by (with_reducible repeat (first | refine blk_drewN ?_ _ | refine blk_drew ?_ | refine blk_alloc ?_ _)); exact BK405.out) hb)
                                                              have n3_ := Aside0.mk (below_step (by repeat (first | (with_reducible first | exact HB.out | apply below_alloc | apply pw_below_drewN | apply below_drew1 | refine below_set ?_ GE381.out | refine below_set ?_ GE405.out) | exact HB.out)) hb)
                                                              clear BK381
                                                              clear BK405
                                                              clear HB
                                                              have HO384 := n0_
                                                              have BK381 := n1_
                                                              have BK405 := n2_
                                                              have HB := n3_
                                                              clear n0_ n1_ n2_ n3_
                                                              clear hb ho43
                                                              refine hK.out _ _ trivial (fun hHeld => ?_)
                                                              clear hK K
                                                              refine norm_ (a' := ?_) ?_ ?_
                                                              rotate_left
                                                              · show Act.put _ (some 49) _ = _
                                                                simp only [Act.put, List.setIfInBounds_toArray, List.set_cons_zero, List.set_cons_succ, i64_w, i32_w]
                                                                rfl
                                                              exact norm_ (by first | (simp only [putAll, Act.put, List.setIfInBounds_toArray, List.set_cons_zero, List.set_cons_succ]; done) | (simp only [putAll, Act.put, List.setIfInBounds_toArray, List.set_cons_zero, List.set_cons_succ]; rfl)) (hJ0_17 (v383, gb405) _ ⟨(by (with_reducible repeat (first | apply Kd.R_alloc | apply Kd.R_drewN | apply Kd.R_drew)); exact HO384.out), (by (with_reducible repeat (first | refine blk_drewN ?_ _ | refine blk_drew ?_ | refine blk_alloc ?_ _)); exact BK381.out), (by (with_reducible repeat (first | refine blk_drewN ?_ _ | refine blk_drew ?_ | refine blk_alloc ?_ _)); exact BK405.out), GW405.out, GE405.out, NB381_405.out, NB405_381.out, (by repeat (first | (with_reducible first | exact HB.out | apply below_alloc | apply pw_below_drewN | apply below_drew1 | refine below_set ?_ GE381.out | refine below_set ?_ GE405.out) | exact HB.out))⟩)
                                                          · skip
                                                            rintro v383 w42 ⟨h0_, h1_, h2_⟩
                                                            have n0_ : Aside0 (Kd.R (Kd.int .u8) 5 w42 w.heap.size (fun _ => True) v383 y382) := ⟨h0_⟩
                                                            have n1_ : Aside0 (w42.heap[gb381]? = some (.cells #[.int .i64 t369, .int .u64 t370, .int .u64 t371, .string t372, .string t373, .string t374, .string t375, .int .i64 t376, .int .i64 t377, .int .i64 t378] 24 (0, 0))) := ⟨h1_⟩
                                                            have n2_ : Aside0 (Below w.heap.size w w42) := ⟨h2_⟩
                                                            clear BK381
                                                            clear HB
                                                            clear h0_ h1_ h2_
                                                            have HO384 := n0_
                                                            have BK381 := n1_
                                                            have HB := n2_
                                                            clear n0_ n1_ n2_
                                                            have hHeld := trivial
                                                            refine norm_ (a' := ?_) ?_ ?_
                                                            rotate_left
                                                            · simp only [putAll, Act.put, List.setIfInBounds_toArray, List.set_cons_zero, List.set_cons_succ, *]
                                                              rfl
                                                            refine two_ (i := 5) (j := 17) (Ni := some 54) (Nj := some 9) #[true, true, true, true, true, true, true, true, true, true, true, false, false, false, false, false, false, false, false, false, false] #[true, true, true, true, true, false, true, true, true, true, true, false, false, false, false, false, false, true, false, false, false] rfl rfl rfl rfl (two_of HT_.out (by kernel_rfl)) (by decide) (by decide) (fun K hK => ?_) (fun K hK => ?_)
                                                            · skip
                                                              refine Kd.R_append_rows_step (Kd.int .u8) (w0 := w) w.heap.size (by rfl) (.tmp 49) (.tmp 53) 27 5 (.int .u8 0) 1 rfl Tryd.underlying27 info5 rfl (by decide) (by omega) v383 y382 (lb.take ((ji20) : Int).toNat) _ _ _ (fun _ => True) (fun _ => False) rfl rfl ?aO ?aR (fun _ _ h => h) (fun _ h => h.elim) ?aF ?aB ?aS ?aL ?_
                                                              (case aR => first | (refine Kd_C_len (show (lb.take ((ji20) : Int).toNat).length = (ji20).toNat from (by rw [List.length_take]; have h_ : ((ji20) : Int) ≤ (lb.length : Int) := of_decide_eq_true (by first | (with_reducible assumption) | assumption); omega)) ?_; repeat (first | exact (Kd.C_below HR385.out HB.out) | (with_reducible refine Kd.C_alloc ?_ _) | (with_reducible refine Kd.C_drewN ?_ _) | (with_reducible refine Kd.C_drew ?_))) | (repeat (first | exact (Kd.C_below HR385.out HB.out) | (with_reducible refine Kd.C_alloc ?_ _) | (with_reducible refine Kd.C_drewN ?_ _) | (with_reducible refine Kd.C_drew ?_))))
                                                              (case aB => exact (by repeat (first | (with_reducible first | exact HB.out | apply below_alloc | apply pw_below_drewN | apply below_drew1 | refine below_set ?_ GE381.out) | exact HB.out)))
                                                              (case aF => exact (fun _ _ => trivial))
                                                              (case aO => exact (by (with_reducible repeat (first | apply Kd.R_alloc | apply Kd.R_drewN | apply Kd.R_drew)); exact HO384.out))
                                                              (case aS => exact (below_size (by repeat (first | (with_reducible first | exact HB.out | apply below_alloc | apply pw_below_drewN | apply below_drew1 | refine below_set ?_ GE381.out) | exact HB.out))))
                                                              (case aL => have := LMc23.out; have hlx_ := (show (lb.take ((ji20) : Int).toNat).length = (ji20).toNat from (by rw [List.length_take]; have h_ : ((ji20) : Int) ≤ (lb.length : Int) := of_decide_eq_true (by first | (with_reducible assumption) | assumption); omega)); omega)
                                                              intro v387 w43 ho hb hg hat
                                                              rw [← Ny386.out] at ho
                                                              have n0_ := Aside0.mk (blk_grown (g := gb381) (o := .cells #[.int .i64 t369, .int .u64 t370, .int .u64 t371, .string t372, .string t373, .string t374, .string t375, .int .i64 t376, .int .i64 t377, .int .i64 t378] 24 (0, 0)) (by (with_reducible repeat (first | refine blk_drewN ?_ _ | refine blk_drew ?_ | refine blk_alloc ?_ _)); exact BK381.out) hg (Kd.R_ne HO384.out BK381.out (by decide)))
                                                              have n1_ := Aside0.mk (hb)
                                                              have n2_ := Aside0.mk (ho)
                                                              clear BK381
                                                              clear HB
                                                              clear HO384
                                                              have BK381 := n0_
                                                              have HB := n1_
                                                              have HO388 := n2_
                                                              clear n0_ n1_ n2_
                                                              clear ho hb hg hat
                                                              refine hK.out _ _ trivial (fun hHeld => ?_)
                                                              clear hK K
                                                              refine norm_ (a' := ?_) ?_ ?_
                                                              rotate_left
                                                              · show Act.put _ (some 54) _ = _
                                                                simp only [Act.put, List.setIfInBounds_toArray, List.set_cons_zero, List.set_cons_succ, i64_w, i32_w]
                                                                rfl
                                                              exact norm_ (by first | (simp only [putAll, Act.put, List.setIfInBounds_toArray, List.set_cons_zero, List.set_cons_succ]; done) | (simp only [putAll, Act.put, List.setIfInBounds_toArray, List.set_cons_zero, List.set_cons_succ]; rfl)) (hJ0_5 (v383, v387) _ ⟨(by (with_reducible repeat (first | apply Kd.R_alloc | apply Kd.R_drewN | apply Kd.R_drew)); exact HO388.out), (by (with_reducible repeat (first | refine blk_drewN ?_ _ | refine blk_drew ?_ | refine blk_alloc ?_ _)); exact BK381.out), (by repeat (first | (with_reducible first | exact HB.out | apply below_alloc | apply pw_below_drewN | apply below_drew1 | refine below_set ?_ GE381.out) | exact HB.out))⟩)
                                                            · skip
                                                              refine box_step ?hg (N := 9) ?hd (cs := #[.int .i64 0, .int .u64 0, .int .u64 0, .string (⟨#[]⟩ : ByteArray), .string (⟨#[]⟩ : ByteArray), .string (⟨#[]⟩ : ByteArray), .string (⟨#[]⟩ : ByteArray), .int .i64 0, .int .i64 0, .int .i64 0]) (t := 24) ?hr ?_; (case hd => rfl); (case hg => rfl); (case hr => first | (go_simp; done) | (go_simp; rfl))
                                                              intro gb405 hg w43 hbox hb
                                                              have n0_ := Aside0.mk (Kd.R_below (by (with_reducible repeat (first | apply Kd.R_alloc | apply Kd.R_drewN | apply Kd.R_drew)); exact HO384.out) hb)
                                                              have n1_ := Aside0.mk (blk_below (g := gb381) (o := .cells #[.int .i64 t369, .int .u64 t370, .int .u64 t371, .string t372, .string t373, .string t374, .string t375, .int .i64 t376, .int .i64 t377, .int .i64 t378] 24 (0, 0)) (by (with_reducible repeat (first | refine blk_drewN ?_ _ | refine blk_drew ?_ | refine blk_alloc ?_ _)); exact BK381.out) hb)
                                                              have n2_ := Aside0.mk (below_step (by repeat (first | (with_reducible first | exact HB.out | apply below_alloc | apply pw_below_drewN | apply below_drew1 | refine below_set ?_ GE381.out) | exact HB.out)) hb)
                                                              have n3_ := Aside0.mk (hbox)
                                                              have n4_ := Aside0.mk ((by rw [hg]; exact (below_size (by repeat (first | (with_reducible first | exact HB.out | apply below_alloc | apply pw_below_drewN | apply below_drew1 | refine below_set ?_ GE381.out) | exact HB.out))) : w.heap.size ≤ gb405))
                                                              have n5_ := Aside0.mk ((by rw [hg]; exact (below_size (by repeat (first | (with_reducible first | exact HB.out | apply below_alloc | apply pw_below_drewN | apply below_drew1 | refine below_set ?_ GE381.out) | exact HB.out))) : w.heap.size ≤ gb405))
                                                              have n6_ := Aside0.mk ((by rw [hg]; exact Nat.ne_of_lt (blk_lt (g := gb381) (o := .cells #[.int .i64 t369, .int .u64 t370, .int .u64 t371, .string t372, .string t373, .string t374, .string t375, .int .i64 t376, .int .i64 t377, .int .i64 t378] 24 (0, 0)) (by (with_reducible repeat (first | refine blk_drewN ?_ _ | refine blk_drew ?_ | refine blk_alloc ?_ _)); exact BK381.out)) : gb381 ≠ gb405))
                                                              have n7_ := Aside0.mk ((by rw [hg]; exact Nat.ne_of_gt (blk_lt (g := gb381) (o := .cells #[.int .i64 t369, .int .u64 t370, .int .u64 t371, .string t372, .string t373, .string t374, .string t375, .int .i64 t376, .int .i64 t377, .int .i64 t378] 24 (0, 0)) (by (with_reducible repeat (first | refine blk_drewN ?_ _ | refine blk_drew ?_ | refine blk_alloc ?_ _)); exact BK381.out)) : gb405 ≠ gb381))
                                                              clear HO384
                                                              clear BK381
                                                              clear HB
                                                              have HO384 := n0_
                                                              have BK381 := n1_
                                                              have HB := n2_
                                                              have BK405 := n3_
                                                              have GW405 := n4_
                                                              have GE405 := n5_
                                                              have NB381_405 := n6_
                                                              have NB405_381 := n7_
                                                              clear n0_ n1_ n2_ n3_ n4_ n5_ n6_ n7_
                                                              clear hb hbox hg
                                                              refine hK.out _ _ trivial (fun hHeld => ?_)
                                                              clear hK K
                                                              refine norm_ (a' := ?_) ?_ ?_
                                                              rotate_left
                                                              · show Act.put _ (some 9) _ = _
                                                                simp only [Act.put, List.setIfInBounds_toArray, List.set_cons_zero, List.set_cons_succ, i64_w, i32_w]
                                                                rfl
                                                              exact norm_ (by first | (simp only [putAll, Act.put, List.setIfInBounds_toArray, List.set_cons_zero, List.set_cons_succ]; done) | (simp only [putAll, Act.put, List.setIfInBounds_toArray, List.set_cons_zero, List.set_cons_succ]; rfl)) (hJ0_17 (v383, gb405) _ ⟨(by (with_reducible repeat (first | apply Kd.R_alloc | apply Kd.R_drewN | apply Kd.R_drew)); exact HO384.out), (by (with_reducible repeat (first | refine blk_drewN ?_ _ | refine blk_drew ?_ | refine blk_alloc ?_ _)); exact BK381.out), (by (with_reducible repeat (first | refine blk_drewN ?_ _ | refine blk_drew ?_ | refine blk_alloc ?_ _)); exact BK405.out), GW405.out, GE405.out, NB381_405.out, NB405_381.out, (by repeat (first | (with_reducible first | exact HB.out | apply below_alloc | apply pw_below_drewN | apply below_drew1 | refine below_set ?_ GE381.out | refine below_set ?_ GE405.out) | exact HB.out))⟩)
                                                        · skip
                                                          rintro ⟨v383, gb405⟩ w43 ⟨h0_, h1_, h2_, h3_, h4_, h5_, h6_, h7_⟩
                                                          have n0_ : Aside0 (Kd.R (Kd.int .u8) 5 w43 w.heap.size (fun _ => True) v383 y382) := ⟨h0_⟩
                                                          have n1_ : Aside0 (w43.heap[gb381]? = some (.cells #[.int .i64 t369, .int .u64 t370, .int .u64 t371, .string t372, .string t373, .string t374, .string t375, .int .i64 t376, .int .i64 t377, .int .i64 t378] 24 (0, 0))) := ⟨h1_⟩
                                                          have n2_ : Aside0 (w43.heap[gb405]? = some (.cells #[.int .i64 0, .int .u64 0, .int .u64 0, .string (⟨#[]⟩ : ByteArray), .string (⟨#[]⟩ : ByteArray), .string (⟨#[]⟩ : ByteArray), .string (⟨#[]⟩ : ByteArray), .int .i64 0, .int .i64 0, .int .i64 0] 24 (0, 0))) := ⟨h2_⟩
                                                          have n3_ : Aside0 (w.heap.size ≤ gb405) := ⟨h3_⟩
                                                          have n4_ : Aside0 (w.heap.size ≤ gb405) := ⟨h4_⟩
                                                          have n5_ : Aside0 (gb381 ≠ gb405) := ⟨h5_⟩
                                                          have n6_ : Aside0 (gb405 ≠ gb381) := ⟨h6_⟩
                                                          have n7_ : Aside0 (Below w.heap.size w w43) := ⟨h7_⟩
                                                          clear BK381
                                                          clear HB
                                                          clear h0_ h1_ h2_ h3_ h4_ h5_ h6_ h7_
                                                          have HO384 := n0_
                                                          have BK381 := n1_
                                                          have BK405 := n2_
                                                          have GW405 := n3_
                                                          have GE405 := n4_
                                                          have NB381_405 := n5_
                                                          have NB405_381 := n6_
                                                          have HB := n7_
                                                          clear n0_ n1_ n2_ n3_ n4_ n5_ n6_ n7_
                                                          have hHeld := trivial
                                                          refine norm_ (a' := ?_) ?_ ?_
                                                          rotate_left
                                                          · simp only [putAll, Act.put, List.setIfInBounds_toArray, List.set_cons_zero, List.set_cons_succ, *]
                                                            rfl
                                                          refine one_ (i := 5) (N := some 54) #[true, true, true, true, true, true, true, true, true, true, true, false, false, false, false, false, false, true, false, false, false] rfl rfl (one_of HT_.out (by kernel_rfl)) (by decide) (fun K hK => ?_)
                                                          refine Kd.R_append_rows_step (Kd.int .u8) (w0 := w) w.heap.size (by rfl) (.tmp 49) (.tmp 53) 27 5 (.int .u8 0) 1 rfl Tryd.underlying27 info5 rfl (by decide) (by omega) v383 y382 (lb.take ((ji20) : Int).toNat) _ _ _ (fun _ => True) (fun _ => False) rfl rfl ?aO ?aR (fun _ _ h => h) (fun _ h => h.elim) ?aF ?aB ?aS ?aL ?_
                                                          (case aR => first | (refine Kd_C_len (show (lb.take ((ji20) : Int).toNat).length = (ji20).toNat from (by rw [List.length_take]; have h_ : ((ji20) : Int) ≤ (lb.length : Int) := of_decide_eq_true (by first | (with_reducible assumption) | assumption); omega)) ?_; repeat (first | exact (Kd.C_below HR385.out HB.out) | (with_reducible refine Kd.C_alloc ?_ _) | (with_reducible refine Kd.C_drewN ?_ _) | (with_reducible refine Kd.C_drew ?_))) | (repeat (first | exact (Kd.C_below HR385.out HB.out) | (with_reducible refine Kd.C_alloc ?_ _) | (with_reducible refine Kd.C_drewN ?_ _) | (with_reducible refine Kd.C_drew ?_))))
                                                          (case aB => exact (by repeat (first | (with_reducible first | exact HB.out | apply below_alloc | apply pw_below_drewN | apply below_drew1 | refine below_set ?_ GE381.out | refine below_set ?_ GE405.out) | exact HB.out)))
                                                          (case aF => exact (fun _ _ => trivial))
                                                          (case aO => exact (by (with_reducible repeat (first | apply Kd.R_alloc | apply Kd.R_drewN | apply Kd.R_drew)); exact HO384.out))
                                                          (case aS => exact (below_size (by repeat (first | (with_reducible first | exact HB.out | apply below_alloc | apply pw_below_drewN | apply below_drew1 | refine below_set ?_ GE381.out | refine below_set ?_ GE405.out) | exact HB.out))))
                                                          (case aL => have := LMc23.out; have hlx_ := (show (lb.take ((ji20) : Int).toNat).length = (ji20).toNat from (by rw [List.length_take]; have h_ : ((ji20) : Int) ≤ (lb.length : Int) := of_decide_eq_true (by first | (with_reducible assumption) | assumption); omega)); omega)
                                                          intro v387 w44 ho hb hg hat
                                                          rw [← Ny386.out] at ho
                                                          have n0_ := Aside0.mk (blk_grown (g := gb381) (o := .cells #[.int .i64 t369, .int .u64 t370, .int .u64 t371, .string t372, .string t373, .string t374, .string t375, .int .i64 t376, .int .i64 t377, .int .i64 t378] 24 (0, 0)) (by (with_reducible repeat (first | refine blk_drewN ?_ _ | refine blk_drew ?_ | refine blk_alloc ?_ _)); exact BK381.out) hg (Kd.R_ne HO384.out BK381.out (by decide)))
                                                          have n1_ := Aside0.mk (blk_grown (g := gb405) (o := .cells #[.int .i64 0, .int .u64 0, .int .u64 0, .string (⟨#[]⟩ : ByteArray), .string (⟨#[]⟩ : ByteArray), .string (⟨#[]⟩ : ByteArray), .string (⟨#[]⟩ : ByteArray), .int .i64 0, .int .i64 0, .int .i64 0] 24 (0, 0)) (by (with_reducible repeat (first | refine blk_drewN ?_ _ | refine blk_drew ?_ | refine blk_alloc ?_ _)); exact BK405.out) hg (Kd.R_ne HO384.out BK405.out (by decide)))
                                                          have n2_ := Aside0.mk (hb)
                                                          have n3_ := Aside0.mk (ho)
                                                          clear BK381
                                                          clear BK405
                                                          clear HB
                                                          clear HO384
                                                          have BK381 := n0_
                                                          have BK405 := n1_
                                                          have HB := n2_
                                                          have HO388 := n3_
                                                          clear n0_ n1_ n2_ n3_
                                                          clear ho hb hg hat
                                                          refine hK.out _ _ trivial (fun hHeld => ?_)
                                                          clear hK K
                                                          refine norm_ (a' := ?_) ?_ ?_
                                                          rotate_left
                                                          · show Act.put _ (some 54) _ = _
                                                            simp only [Act.put, List.setIfInBounds_toArray, List.set_cons_zero, List.set_cons_succ, i64_w, i32_w]
                                                            rfl
                                                          exact norm_ (by first | (simp only [putAll, Act.put, List.setIfInBounds_toArray, List.set_cons_zero, List.set_cons_succ]; done) | (simp only [putAll, Act.put, List.setIfInBounds_toArray, List.set_cons_zero, List.set_cons_succ]; rfl)) (hJ0_5_17 (v383, v387, gb405) _ ⟨(by (with_reducible repeat (first | apply Kd.R_alloc | apply Kd.R_drewN | apply Kd.R_drew)); exact HO388.out), (by (with_reducible repeat (first | refine blk_drewN ?_ _ | refine blk_drew ?_ | refine blk_alloc ?_ _)); exact BK381.out), (by (with_reducible repeat (first | refine blk_drewN ?_ _ | refine blk_drew ?_ | refine blk_alloc ?_ _)); exact BK405.out), GW405.out, GE405.out, NB381_405.out, NB405_381.out, (by repeat (first | (with_reducible first | exact HB.out | apply below_alloc | apply pw_below_drewN | apply below_drew1 | refine below_set ?_ GE381.out | refine below_set ?_ GE405.out) | exact HB.out))⟩)
                                                      · skip
                                                        rintro ⟨v383, v387⟩ w43 ⟨h0_, h1_, h2_⟩
                                                        have n0_ : Aside0 (Kd.R (Kd.int .u8) 5 w43 w.heap.size (fun _ => True) v387 y386) := ⟨h0_⟩
                                                        have n1_ : Aside0 (w43.heap[gb381]? = some (.cells #[.int .i64 t369, .int .u64 t370, .int .u64 t371, .string t372, .string t373, .string t374, .string t375, .int .i64 t376, .int .i64 t377, .int .i64 t378] 24 (0, 0))) := ⟨h1_⟩
                                                        have n2_ : Aside0 (Below w.heap.size w w43) := ⟨h2_⟩
                                                        clear BK381
                                                        clear HB
                                                        clear h0_ h1_ h2_
                                                        have HO388 := n0_
                                                        have BK381 := n1_
                                                        have HB := n2_
                                                        clear n0_ n1_ n2_
                                                        have hHeld := trivial
                                                        refine norm_ (a' := ?_) ?_ ?_
                                                        rotate_left
                                                        · simp only [putAll, Act.put, List.setIfInBounds_toArray, List.set_cons_zero, List.set_cons_succ, *]
                                                          rfl
                                                        refine two_ (i := 11) (j := 17) (Ni := some 60) (Nj := some 9) #[true, true, true, true, true, true, true, true, true, true, true, true, false, false, false, false, false, false, false, false, false] #[true, true, true, true, true, true, true, true, true, true, true, false, false, false, false, false, false, true, false, false, false] rfl rfl rfl rfl (two_of HT_.out (by kernel_rfl)) (by decide) (by decide) (fun K hK => ?_) (fun K hK => ?_)
                                                        · skip
                                                          refine Kd.R_append_rows_step (Kd.int .u8) (w0 := w) w.heap.size (by rfl) (.tmp 54) (.tmp 59) 27 5 (.int .u8 0) 1 rfl Tryd.underlying27 info5 rfl (by decide) (by omega) v387 y386 (l1.take ((ji24) : Int).toNat) _ _ _ (fun _ => True) (fun _ => False) rfl rfl ?aO ?aR (fun _ _ h => h) (fun _ h => h.elim) ?aF ?aB ?aS ?aL ?_
                                                          (case aR => first | (refine Kd_C_len (show (l1.take ((ji24) : Int).toNat).length = (ji24).toNat from (by rw [List.length_take]; have h_ : ((ji24) : Int) ≤ (l1.length : Int) := of_decide_eq_true (by first | (with_reducible assumption) | assumption); omega)) ?_; repeat (first | exact (Kd.C_below HR389.out HB.out) | (with_reducible refine Kd.C_alloc ?_ _) | (with_reducible refine Kd.C_drewN ?_ _) | (with_reducible refine Kd.C_drew ?_))) | (repeat (first | exact (Kd.C_below HR389.out HB.out) | (with_reducible refine Kd.C_alloc ?_ _) | (with_reducible refine Kd.C_drewN ?_ _) | (with_reducible refine Kd.C_drew ?_))))
                                                          (case aB => exact (by repeat (first | (with_reducible first | exact HB.out | apply below_alloc | apply pw_below_drewN | apply below_drew1 | refine below_set ?_ GE381.out) | exact HB.out)))
                                                          (case aF => exact (fun _ _ => trivial))
                                                          (case aO => exact (by (with_reducible repeat (first | apply Kd.R_alloc | apply Kd.R_drewN | apply Kd.R_drew)); exact HO388.out))
                                                          (case aS => exact (below_size (by repeat (first | (with_reducible first | exact HB.out | apply below_alloc | apply pw_below_drewN | apply below_drew1 | refine below_set ?_ GE381.out) | exact HB.out))))
                                                          (case aL => have := LMc27.out; have hlx_ := (show (l1.take ((ji24) : Int).toNat).length = (ji24).toNat from (by rw [List.length_take]; have h_ : ((ji24) : Int) ≤ (l1.length : Int) := of_decide_eq_true (by first | (with_reducible assumption) | assumption); omega)); omega)
                                                          intro v391 w44 ho hb hg hat
                                                          rw [← Ny390.out] at ho
                                                          have n0_ := Aside0.mk (blk_grown (g := gb381) (o := .cells #[.int .i64 t369, .int .u64 t370, .int .u64 t371, .string t372, .string t373, .string t374, .string t375, .int .i64 t376, .int .i64 t377, .int .i64 t378] 24 (0, 0)) (by (with_reducible repeat (first | refine blk_drewN ?_ _ | refine blk_drew ?_ | refine blk_alloc ?_ _)); exact BK381.out) hg (Kd.R_ne HO388.out BK381.out (by decide)))
                                                          have n1_ := Aside0.mk (hb)
                                                          have n2_ := Aside0.mk (ho)
                                                          clear BK381
                                                          clear HB
                                                          clear HO388
                                                          have BK381 := n0_
                                                          have HB := n1_
                                                          have HO392 := n2_
                                                          clear n0_ n1_ n2_
                                                          clear ho hb hg hat
                                                          refine hK.out _ _ trivial (fun hHeld => ?_)
                                                          clear hK K
                                                          refine norm_ (a' := ?_) ?_ ?_
                                                          rotate_left
                                                          · show Act.put _ (some 60) _ = _
                                                            simp only [Act.put, List.setIfInBounds_toArray, List.set_cons_zero, List.set_cons_succ, i64_w, i32_w]
                                                            rfl
                                                          exact norm_ (by first | (simp only [putAll, Act.put, List.setIfInBounds_toArray, List.set_cons_zero, List.set_cons_succ]; done) | (simp only [putAll, Act.put, List.setIfInBounds_toArray, List.set_cons_zero, List.set_cons_succ]; rfl)) (hJ0_5_11 (v383, v387, v391) _ ⟨(by (with_reducible repeat (first | apply Kd.R_alloc | apply Kd.R_drewN | apply Kd.R_drew)); exact HO392.out), (by (with_reducible repeat (first | refine blk_drewN ?_ _ | refine blk_drew ?_ | refine blk_alloc ?_ _)); exact BK381.out), (by repeat (first | (with_reducible first | exact HB.out | apply below_alloc | apply pw_below_drewN | apply below_drew1 | refine below_set ?_ GE381.out) | exact HB.out))⟩)
                                                        · skip
                                                          refine box_step ?hg (N := 9) ?hd (cs := #[.int .i64 0, .int .u64 0, .int .u64 0, .string (⟨#[]⟩ : ByteArray), .string (⟨#[]⟩ : ByteArray), .string (⟨#[]⟩ : ByteArray), .string (⟨#[]⟩ : ByteArray), .int .i64 0, .int .i64 0, .int .i64 0]) (t := 24) ?hr ?_; (case hd => rfl); (case hg => rfl); (case hr => first | (go_simp; done) | (go_simp; rfl))
                                                          intro gb405 hg w44 hbox hb
                                                          have n0_ := Aside0.mk (Kd.R_below (by (with_reducible repeat (first | apply Kd.R_alloc | apply Kd.R_drewN | apply Kd.R_drew)); exact HO388.out) hb)
                                                          have n1_ := Aside0.mk (blk_below (g := gb381) (o := .cells #[.int .i64 t369, .int .u64 t370, .int .u64 t371, .string t372, .string t373, .string t374, .string t375, .int .i64 t376, .int .i64 t377, .int .i64 t378] 24 (0, 0)) (by (with_reducible repeat (first | refine blk_drewN ?_ _ | refine blk_drew ?_ | refine blk_alloc ?_ _)); exact BK381.out) hb)
                                                          have n2_ := Aside0.mk (below_step (by repeat (first | (with_reducible first | exact HB.out | apply below_alloc | apply pw_below_drewN | apply below_drew1 | refine below_set ?_ GE381.out) | exact HB.out)) hb)
                                                          have n3_ := Aside0.mk (hbox)
                                                          have n4_ := Aside0.mk ((by rw [hg]; exact (below_size (by repeat (first | (with_reducible first | exact HB.out | apply below_alloc | apply pw_below_drewN | apply below_drew1 | refine below_set ?_ GE381.out) | exact HB.out))) : w.heap.size ≤ gb405))
                                                          have n5_ := Aside0.mk ((by rw [hg]; exact (below_size (by repeat (first | (with_reducible first | exact HB.out | apply below_alloc | apply pw_below_drewN | apply below_drew1 | refine below_set ?_ GE381.out) | exact HB.out))) : w.heap.size ≤ gb405))
                                                          have n6_ := Aside0.mk ((by rw [hg]; exact Nat.ne_of_lt (blk_lt (g := gb381) (o := .cells #[.int .i64 t369, .int .u64 t370, .int .u64 t371, .string t372, .string t373, .string t374, .string t375, .int .i64 t376, .int .i64 t377, .int .i64 t378] 24 (0, 0)) (by (with_reducible repeat (first | refine blk_drewN ?_ _ | refine blk_drew ?_ | refine blk_alloc ?_ _)); exact BK381.out)) : gb381 ≠ gb405))
                                                          have n7_ := Aside0.mk ((by rw [hg]; exact Nat.ne_of_gt (blk_lt (g := gb381) (o := .cells #[.int .i64 t369, .int .u64 t370, .int .u64 t371, .string t372, .string t373, .string t374, .string t375, .int .i64 t376, .int .i64 t377, .int .i64 t378] 24 (0, 0)) (by (with_reducible repeat (first | refine blk_drewN ?_ _ | refine blk_drew ?_ | refine blk_alloc ?_ _)); exact BK381.out)) : gb405 ≠ gb381))
                                                          clear HO388
                                                          clear BK381
                                                          clear HB
                                                          have HO388 := n0_
                                                          have BK381 := n1_
                                                          have HB := n2_
                                                          have BK405 := n3_
                                                          have GW405 := n4_
                                                          have GE405 := n5_
                                                          have NB381_405 := n6_
                                                          have NB405_381 := n7_
                                                          clear n0_ n1_ n2_ n3_ n4_ n5_ n6_ n7_
                                                          clear hb hbox hg
                                                          refine hK.out _ _ trivial (fun hHeld => ?_)
                                                          clear hK K
                                                          refine norm_ (a' := ?_) ?_ ?_
                                                          rotate_left
                                                          · show Act.put _ (some 9) _ = _
                                                            simp only [Act.put, List.setIfInBounds_toArray, List.set_cons_zero, List.set_cons_succ, i64_w, i32_w]
                                                            rfl
                                                          exact norm_ (by first | (simp only [putAll, Act.put, List.setIfInBounds_toArray, List.set_cons_zero, List.set_cons_succ]; done) | (simp only [putAll, Act.put, List.setIfInBounds_toArray, List.set_cons_zero, List.set_cons_succ]; rfl)) (hJ0_5_17 (v383, v387, gb405) _ ⟨(by (with_reducible repeat (first | apply Kd.R_alloc | apply Kd.R_drewN | apply Kd.R_drew)); exact HO388.out), (by (with_reducible repeat (first | refine blk_drewN ?_ _ | refine blk_drew ?_ | refine blk_alloc ?_ _)); exact BK381.out), (by (with_reducible repeat (first | refine blk_drewN ?_ _ | refine blk_drew ?_ | refine blk_alloc ?_ _)); exact BK405.out), GW405.out, GE405.out, NB381_405.out, NB405_381.out, (by repeat (first | (with_reducible first | exact HB.out | apply below_alloc | apply pw_below_drewN | apply below_drew1 | refine below_set ?_ GE381.out | refine below_set ?_ GE405.out) | exact HB.out))⟩)
                                                    · skip
                                                      rintro ⟨v383, v387, gb405⟩ w44 ⟨h0_, h1_, h2_, h3_, h4_, h5_, h6_, h7_⟩
                                                      have n0_ : Aside0 (Kd.R (Kd.int .u8) 5 w44 w.heap.size (fun _ => True) v387 y386) := ⟨h0_⟩
                                                      have n1_ : Aside0 (w44.heap[gb381]? = some (.cells #[.int .i64 t369, .int .u64 t370, .int .u64 t371, .string t372, .string t373, .string t374, .string t375, .int .i64 t376, .int .i64 t377, .int .i64 t378] 24 (0, 0))) := ⟨h1_⟩
                                                      have n2_ : Aside0 (w44.heap[gb405]? = some (.cells #[.int .i64 0, .int .u64 0, .int .u64 0, .string (⟨#[]⟩ : ByteArray), .string (⟨#[]⟩ : ByteArray), .string (⟨#[]⟩ : ByteArray), .string (⟨#[]⟩ : ByteArray), .int .i64 0, .int .i64 0, .int .i64 0] 24 (0, 0))) := ⟨h2_⟩
                                                      have n3_ : Aside0 (w.heap.size ≤ gb405) := ⟨h3_⟩
                                                      have n4_ : Aside0 (w.heap.size ≤ gb405) := ⟨h4_⟩
                                                      have n5_ : Aside0 (gb381 ≠ gb405) := ⟨h5_⟩
                                                      have n6_ : Aside0 (gb405 ≠ gb381) := ⟨h6_⟩
                                                      have n7_ : Aside0 (Below w.heap.size w w44) := ⟨h7_⟩
                                                      clear BK381
                                                      clear HB
                                                      clear h0_ h1_ h2_ h3_ h4_ h5_ h6_ h7_
                                                      have HO388 := n0_
                                                      have BK381 := n1_
                                                      have BK405 := n2_
                                                      have GW405 := n3_
                                                      have GE405 := n4_
                                                      have NB381_405 := n5_
                                                      have NB405_381 := n6_
                                                      have HB := n7_
                                                      clear n0_ n1_ n2_ n3_ n4_ n5_ n6_ n7_
                                                      have hHeld := trivial
                                                      refine norm_ (a' := ?_) ?_ ?_
                                                      rotate_left
                                                      · simp only [putAll, Act.put, List.setIfInBounds_toArray, List.set_cons_zero, List.set_cons_succ, *]
                                                        rfl
                                                      refine one_ (i := 11) (N := some 60) #[true, true, true, true, true, true, true, true, true, true, true, true, false, false, false, false, false, true, false, false, false] rfl rfl (one_of HT_.out (by kernel_rfl)) (by decide) (fun K hK => ?_)
                                                      refine Kd.R_append_rows_step (Kd.int .u8) (w0 := w) w.heap.size (by rfl) (.tmp 54) (.tmp 59) 27 5 (.int .u8 0) 1 rfl Tryd.underlying27 info5 rfl (by decide) (by omega) v387 y386 (l1.take ((ji24) : Int).toNat) _ _ _ (fun _ => True) (fun _ => False) rfl rfl ?aO ?aR (fun _ _ h => h) (fun _ h => h.elim) ?aF ?aB ?aS ?aL ?_
                                                      (case aR => first | (refine Kd_C_len (show (l1.take ((ji24) : Int).toNat).length = (ji24).toNat from (by rw [List.length_take]; have h_ : ((ji24) : Int) ≤ (l1.length : Int) := of_decide_eq_true (by first | (with_reducible assumption) | assumption); omega)) ?_; repeat (first | exact (Kd.C_below HR389.out HB.out) | (with_reducible refine Kd.C_alloc ?_ _) | (with_reducible refine Kd.C_drewN ?_ _) | (with_reducible refine Kd.C_drew ?_))) | (repeat (first | exact (Kd.C_below HR389.out HB.out) | (with_reducible refine Kd.C_alloc ?_ _) | (with_reducible refine Kd.C_drewN ?_ _) | (with_reducible refine Kd.C_drew ?_))))
                                                      (case aB => exact (by repeat (first | (with_reducible first | exact HB.out | apply below_alloc | apply pw_below_drewN | apply below_drew1 | refine below_set ?_ GE381.out | refine below_set ?_ GE405.out) | exact HB.out)))
                                                      (case aF => exact (fun _ _ => trivial))
                                                      (case aO => exact (by (with_reducible repeat (first | apply Kd.R_alloc | apply Kd.R_drewN | apply Kd.R_drew)); exact HO388.out))
                                                      (case aS => exact (below_size (by repeat (first | (with_reducible first | exact HB.out | apply below_alloc | apply pw_below_drewN | apply below_drew1 | refine below_set ?_ GE381.out | refine below_set ?_ GE405.out) | exact HB.out))))
                                                      (case aL => have := LMc27.out; have hlx_ := (show (l1.take ((ji24) : Int).toNat).length = (ji24).toNat from (by rw [List.length_take]; have h_ : ((ji24) : Int) ≤ (l1.length : Int) := of_decide_eq_true (by first | (with_reducible assumption) | assumption); omega)); omega)
                                                      intro v391 w45 ho hb hg hat
                                                      rw [← Ny390.out] at ho
                                                      have n0_ := Aside0.mk (blk_grown (g := gb381) (o := .cells #[.int .i64 t369, .int .u64 t370, .int .u64 t371, .string t372, .string t373, .string t374, .string t375, .int .i64 t376, .int .i64 t377, .int .i64 t378] 24 (0, 0)) (by (with_reducible repeat (first | refine blk_drewN ?_ _ | refine blk_drew ?_ | refine blk_alloc ?_ _)); exact BK381.out) hg (Kd.R_ne HO388.out BK381.out (by decide)))
                                                      have n1_ := Aside0.mk (blk_grown (g := gb405) (o := .cells #[.int .i64 0, .int .u64 0, .int .u64 0, .string (⟨#[]⟩ : ByteArray), .string (⟨#[]⟩ : ByteArray), .string (⟨#[]⟩ : ByteArray), .string (⟨#[]⟩ : ByteArray), .int .i64 0, .int .i64 0, .int .i64 0] 24 (0, 0)) (by (with_reducible repeat (first | refine blk_drewN ?_ _ | refine blk_drew ?_ | refine blk_alloc ?_ _)); exact BK405.out) hg (Kd.R_ne HO388.out BK405.out (by decide)))
                                                      have n2_ := Aside0.mk (hb)
                                                      have n3_ := Aside0.mk (ho)
                                                      clear BK381
                                                      clear BK405
                                                      clear HB
                                                      clear HO388
                                                      have BK381 := n0_
                                                      have BK405 := n1_
                                                      have HB := n2_
                                                      have HO392 := n3_
                                                      clear n0_ n1_ n2_ n3_
                                                      clear ho hb hg hat
                                                      refine hK.out _ _ trivial (fun hHeld => ?_)
                                                      clear hK K
                                                      refine norm_ (a' := ?_) ?_ ?_
                                                      rotate_left
                                                      · show Act.put _ (some 60) _ = _
                                                        simp only [Act.put, List.setIfInBounds_toArray, List.set_cons_zero, List.set_cons_succ, i64_w, i32_w]
                                                        rfl
                                                      exact norm_ (by first | (simp only [putAll, Act.put, List.setIfInBounds_toArray, List.set_cons_zero, List.set_cons_succ]; done) | (simp only [putAll, Act.put, List.setIfInBounds_toArray, List.set_cons_zero, List.set_cons_succ]; rfl)) (hJ0_5_11_17 (v383, v387, v391, gb405) _ ⟨(by (with_reducible repeat (first | apply Kd.R_alloc | apply Kd.R_drewN | apply Kd.R_drew)); exact HO392.out), (by (with_reducible repeat (first | refine blk_drewN ?_ _ | refine blk_drew ?_ | refine blk_alloc ?_ _)); exact BK381.out), (by (with_reducible repeat (first | refine blk_drewN ?_ _ | refine blk_drew ?_ | refine blk_alloc ?_ _)); exact BK405.out), GW405.out, GE405.out, NB381_405.out, NB405_381.out, (by repeat (first | (with_reducible first | exact HB.out | apply below_alloc | apply pw_below_drewN | apply below_drew1 | refine below_set ?_ GE381.out | refine below_set ?_ GE405.out) | exact HB.out))⟩)
                                                  · skip
                                                    rintro ⟨v383, v387, v391⟩ w44 ⟨h0_, h1_, h2_⟩
                                                    have n0_ : Aside0 (Kd.R (Kd.int .u8) 5 w44 w.heap.size (fun _ => True) v391 y390) := ⟨h0_⟩
                                                    have n1_ : Aside0 (w44.heap[gb381]? = some (.cells #[.int .i64 t369, .int .u64 t370, .int .u64 t371, .string t372, .string t373, .string t374, .string t375, .int .i64 t376, .int .i64 t377, .int .i64 t378] 24 (0, 0))) := ⟨h1_⟩
                                                    have n2_ : Aside0 (Below w.heap.size w w44) := ⟨h2_⟩
                                                    clear BK381
                                                    clear HB
                                                    clear h0_ h1_ h2_
                                                    have HO392 := n0_
                                                    have BK381 := n1_
                                                    have HB := n2_
                                                    clear n0_ n1_ n2_
                                                    have hHeld := trivial
                                                    obtain ⟨Ao45, co45, eo45⟩ := Kd.R_slice HO392.out
                                                    (first | subst eo45 | (injection eo45 with f1_ f2_ f3_; have f4_ := f1_.symm; have f5_ := f3_.symm; clear f1_ f2_ f3_; subst f4_; subst f5_))
                                                    refine norm_ (a' := ?_) ?_ ?_
                                                    rotate_left
                                                    · simp only [putAll, Act.put, List.setIfInBounds_toArray, List.set_cons_zero, List.set_cons_succ, *]
                                                      rfl
                                                    refine two_ (i := 12) (j := 17) (Ni := some 61) (Nj := some 9) #[true, true, true, true, true, true, true, true, true, true, true, true, true, false, false, false, false, false, false, false, false] #[true, true, true, true, true, true, true, true, true, true, true, true, false, false, false, false, false, true, false, false, false] rfl rfl rfl rfl (two_of HT_.out (by kernel_rfl)) (by decide) (by decide) (fun K hK => ?_) (fun K hK => ?_)
                                                    · skip
                                                      refine goes_ Tryd.func17 (by kernel_rfl) rfl #[.slice Ao45 y390.length co45] (by rfl) rfl rfl (by (try simp only [List.map_toArray, List.map_cons, List.map_nil]); first | done | rfl | (simp only [List.length_drop, List.length_take]; rfl)) ?_
                                                      with_reducible refine (event_Decode.calls _ _ y390 t393 t394 t395 t396 t397 t398 t399 t400 t401 t402 t403 t404 _ ?side3 ?side1 ?side2 A28.out).mono ?_
                                                      (case side1 => repeat (first | exact (Kd.R_reads' HO392.out).2.2 | (with_reducible refine Kd.C_alloc ?_ _) | (with_reducible refine Kd.C_drewN ?_ _) | (with_reducible refine Kd.C_drew ?_)))
                                                      (case side2 => exact (Kd.R_reads' HO392.out).2.1)
                                                      (case side3 => first | exact HG.out | exact Glob.below HG.out HB.out | exact Glob.drewN (Glob.below HG.out HB.out) _ | exact Glob.drewN HG.out _ | (refine Glob.below HG.out ?_; (repeat (first | (with_reducible first | exact HB.out | apply below_alloc | apply pw_below_drewN | apply below_drew1 | refine below_set ?_ GE381.out) | exact HB.out)); done) | (repeat (first | exact HG.out | (with_reducible refine Glob.drewN ?_ _) | (with_reducible refine Glob.drew ?_) | (with_reducible refine Glob.alloc ?_ _)); done))
                                                      rintro e w46 ⟨rfl, hb⟩
                                                      refine ⟨_, rfl, ?_⟩
                                                      have n0_ := Aside0.mk (Kd.R_below (by (with_reducible repeat (first | apply Kd.R_alloc | apply Kd.R_drewN | apply Kd.R_drew)); exact HO392.out) hb)
                                                      have n1_ := Aside0.mk (blk_below (g := gb381) (o := .cells #[.int .i64 t369, .int .u64 t370, .int .u64 t371, .string t372, .string t373, .string t374, .string t375, .int .i64 t376, .int .i64 t377, .int .i64 t378] 24 (0, 0)) (by (with_reducible repeat (first | refine blk_drewN ?_ _ | refine blk_drew ?_ | refine blk_alloc ?_ _)); exact BK381.out) hb)
                                                      have n2_ := Aside0.mk (below_step (by repeat (first | (with_reducible first | exact HB.out | apply below_alloc | apply pw_below_drewN | apply below_drew1 | refine below_set ?_ GE381.out) | exact HB.out)) hb)
                                                      clear HO392
                                                      clear BK381
                                                      clear HB
                                                      have HO392 := n0_
                                                      have BK381 := n1_
                                                      have HB := n2_
                                                      clear n0_ n1_ n2_
                                                      (try clear hb)
                                                      (try clear hb2)
                                                      (try clear hk)
                                                      (try clear hi)
                                                      refine hK.out _ _ trivial (fun hHeld => ?_)
                                                      clear hK K
                                                      refine norm_ (a' := ?_) ?_ ?_
                                                      rotate_left
                                                      · show Act.put _ (some 61) _ = _
                                                        simp only [Act.put, List.setIfInBounds_toArray, List.set_cons_zero, List.set_cons_succ, i64_w, i32_w]
                                                        rfl
                                                      refine pure_ (i := 13) (N := some 48) (v := ?_) (a' := ?_) #[true, true, true, true, true, true, true, true, true, true, true, true, true, true, false, false, false, false, false, false, false] rfl rfl (any_of HT_.out (by kernel_rfl)) (fun _ _ _ h => h) (Or.inl ⟨by rfl, ?_⟩) ?_ ?_
                                                      rotate_left
                                                      · intro w'
                                                        go_simp
                                                        with_reducible rfl
                                                      rotate_left
                                                      · simp only [Act.put, List.setIfInBounds_toArray, List.set_cons_zero, List.set_cons_succ, i64_w, i32_w]
                                                        rfl
                                                      refine pure_ (i := 14) (N := some 62) (v := ?_) (a' := ?_) #[true, true, true, true, true, true, true, true, true, true, true, true, true, true, true, false, false, false, false, false, false] rfl rfl (any_of HT_.out (by kernel_rfl)) (fun _ _ _ h => h) (Or.inl ⟨by rfl, ?_⟩) ?_ ?_
                                                      rotate_left
                                                      · intro w'
                                                        go_simp
                                                        with_reducible rfl
                                                      rotate_left
                                                      · simp only [Act.put, List.setIfInBounds_toArray, List.set_cons_zero, List.set_cons_succ, i64_w, i32_w]
                                                        rfl
                                                      refine pure_ (i := 15) (N := some 63) (v := ?_) (a' := ?_) #[true, true, true, true, true, true, true, true, true, true, true, true, true, true, true, true, false, false, false, false, false] rfl rfl (any_of HT_.out (by kernel_rfl)) (fun _ _ _ h => h) (Or.inl ⟨by rfl, ?_⟩) ?_ ?_
                                                      rotate_left
                                                      · intro w'
                                                        go_simp
                                                        with_reducible rfl
                                                      rotate_left
                                                      · simp only [Act.put, List.setIfInBounds_toArray, List.set_cons_zero, List.set_cons_succ, i64_w, i32_w]
                                                        rfl
                                                      refine pure_ (i := 16) (N := some 64) (v := ?_) (a' := ?_) #[true, true, true, true, true, true, true, true, true, true, true, true, true, true, true, true, true, false, false, false, false] rfl rfl (any_of HT_.out (by kernel_rfl)) (fun _ _ _ h => h) (Or.inl ⟨by rfl, ?_⟩) ?_ ?_
                                                      rotate_left
                                                      · intro w'
                                                        go_simp
                                                        with_reducible rfl
                                                      rotate_left
                                                      · simp only [Act.put, List.setIfInBounds_toArray, List.set_cons_zero, List.set_cons_succ, i64_w, i32_w]
                                                        rfl
                                                      exact norm_ (by first | (simp only [putAll, Act.put, List.setIfInBounds_toArray, List.set_cons_zero, List.set_cons_succ]; done) | (simp only [putAll, Act.put, List.setIfInBounds_toArray, List.set_cons_zero, List.set_cons_succ]; rfl)) (hJ0_5_11_12 (v383, v387, .slice Ao45 y390.length co45) _ ⟨(by (with_reducible repeat (first | apply Kd.R_alloc | apply Kd.R_drewN | apply Kd.R_drew)); exact HO392.out), (by (with_reducible repeat (first | refine blk_drewN ?_ _ | refine blk_drew ?_ | refine blk_alloc ?_ _)); exact BK381.out), (by repeat (first | (with_reducible first | exact HB.out | apply below_alloc | apply pw_below_drewN | apply below_drew1 | refine below_set ?_ GE381.out) | exact HB.out))⟩)
                                                    · skip
                                                      refine box_step ?hg (N := 9) ?hd (cs := #[.int .i64 0, .int .u64 0, .int .u64 0, .string (⟨#[]⟩ : ByteArray), .string (⟨#[]⟩ : ByteArray), .string (⟨#[]⟩ : ByteArray), .string (⟨#[]⟩ : ByteArray), .int .i64 0, .int .i64 0, .int .i64 0]) (t := 24) ?hr ?_; (case hd => rfl); (case hg => rfl); (case hr => first | (go_simp; done) | (go_simp; rfl))
                                                      intro gb405 hg w45 hbox hb
                                                      have n0_ := Aside0.mk (Kd.R_below (by (with_reducible repeat (first | apply Kd.R_alloc | apply Kd.R_drewN | apply Kd.R_drew)); exact HO392.out) hb)
                                                      have n1_ := Aside0.mk (blk_below (g := gb381) (o := .cells #[.int .i64 t369, .int .u64 t370, .int .u64 t371, .string t372, .string t373, .string t374, .string t375, .int .i64 t376, .int .i64 t377, .int .i64 t378] 24 (0, 0)) (by (with_reducible repeat (first | refine blk_drewN ?_ _ | refine blk_drew ?_ | refine blk_alloc ?_ _)); exact BK381.out) hb)
                                                      have n2_ := Aside0.mk (below_step (by repeat (first | (with_reducible first | exact HB.out | apply below_alloc | apply pw_below_drewN | apply below_drew1 | refine below_set ?_ GE381.out) | exact HB.out)) hb)
                                                      have n3_ := Aside0.mk (hbox)
                                                      have n4_ := Aside0.mk ((by rw [hg]; exact (below_size (by repeat (first | (with_reducible first | exact HB.out | apply below_alloc | apply pw_below_drewN | apply below_drew1 | refine below_set ?_ GE381.out) | exact HB.out))) : w.heap.size ≤ gb405))
                                                      have n5_ := Aside0.mk ((by rw [hg]; exact (below_size (by repeat (first | (with_reducible first | exact HB.out | apply below_alloc | apply pw_below_drewN | apply below_drew1 | refine below_set ?_ GE381.out) | exact HB.out))) : w.heap.size ≤ gb405))
                                                      have n6_ := Aside0.mk ((by rw [hg]; exact Nat.ne_of_lt (blk_lt (g := gb381) (o := .cells #[.int .i64 t369, .int .u64 t370, .int .u64 t371, .string t372, .string t373, .string t374, .string t375, .int .i64 t376, .int .i64 t377, .int .i64 t378] 24 (0, 0)) (by (with_reducible repeat (first | refine blk_drewN ?_ _ | refine blk_drew ?_ | refine blk_alloc ?_ _)); exact BK381.out)) : gb381 ≠ gb405))
                                                      have n7_ := Aside0.mk ((by rw [hg]; exact Nat.ne_of_gt (blk_lt (g := gb381) (o := .cells #[.int .i64 t369, .int .u64 t370, .int .u64 t371, .string t372, .string t373, .string t374, .string t375, .int .i64 t376, .int .i64 t377, .int .i64 t378] 24 (0, 0)) (by (with_reducible repeat (first | refine blk_drewN ?_ _ | refine blk_drew ?_ | refine blk_alloc ?_ _)); exact BK381.out)) : gb405 ≠ gb381))
                                                      clear HO392
                                                      clear BK381
                                                      clear HB
                                                      have HO392 := n0_
                                                      have BK381 := n1_
                                                      have HB := n2_
                                                      have BK405 := n3_
                                                      have GW405 := n4_
                                                      have GE405 := n5_
                                                      have NB381_405 := n6_
                                                      have NB405_381 := n7_
                                                      clear n0_ n1_ n2_ n3_ n4_ n5_ n6_ n7_
                                                      clear hb hbox hg
                                                      refine hK.out _ _ trivial (fun hHeld => ?_)
                                                      clear hK K
                                                      refine norm_ (a' := ?_) ?_ ?_
                                                      rotate_left
                                                      · show Act.put _ (some 9) _ = _
                                                        simp only [Act.put, List.setIfInBounds_toArray, List.set_cons_zero, List.set_cons_succ, i64_w, i32_w]
                                                        rfl
                                                      exact norm_ (by first | (simp only [putAll, Act.put, List.setIfInBounds_toArray, List.set_cons_zero, List.set_cons_succ]; done) | (simp only [putAll, Act.put, List.setIfInBounds_toArray, List.set_cons_zero, List.set_cons_succ]; rfl)) (hJ0_5_11_17 (v383, v387, (.slice Ao45 y390.length co45 : Value), gb405) _ ⟨(by (with_reducible repeat (first | apply Kd.R_alloc | apply Kd.R_drewN | apply Kd.R_drew)); exact HO392.out), (by (with_reducible repeat (first | refine blk_drewN ?_ _ | refine blk_drew ?_ | refine blk_alloc ?_ _)); exact BK381.out), (by (with_reducible repeat (first | refine blk_drewN ?_ _ | refine blk_drew ?_ | refine blk_alloc ?_ _)); exact BK405.out), GW405.out, GE405.out, NB381_405.out, NB405_381.out, (by repeat (first | (with_reducible first | exact HB.out | apply below_alloc | apply pw_below_drewN | apply below_drew1 | refine below_set ?_ GE381.out | refine below_set ?_ GE405.out) | exact HB.out))⟩)
                                                · skip
                                                  rintro ⟨v383, v387, v391, gb405⟩ w45 ⟨h0_, h1_, h2_, h3_, h4_, h5_, h6_, h7_⟩
                                                  have n0_ : Aside0 (Kd.R (Kd.int .u8) 5 w45 w.heap.size (fun _ => True) v391 y390) := ⟨h0_⟩
                                                  have n1_ : Aside0 (w45.heap[gb381]? = some (.cells #[.int .i64 t369, .int .u64 t370, .int .u64 t371, .string t372, .string t373, .string t374, .string t375, .int .i64 t376, .int .i64 t377, .int .i64 t378] 24 (0, 0))) := ⟨h1_⟩
                                                  have n2_ : Aside0 (w45.heap[gb405]? = some (.cells #[.int .i64 0, .int .u64 0, .int .u64 0, .string (⟨#[]⟩ : ByteArray), .string (⟨#[]⟩ : ByteArray), .string (⟨#[]⟩ : ByteArray), .string (⟨#[]⟩ : ByteArray), .int .i64 0, .int .i64 0, .int .i64 0] 24 (0, 0))) := ⟨h2_⟩
                                                  have n3_ : Aside0 (w.heap.size ≤ gb405) := ⟨h3_⟩
                                                  have n4_ : Aside0 (w.heap.size ≤ gb405) := ⟨h4_⟩
                                                  have n5_ : Aside0 (gb381 ≠ gb405) := ⟨h5_⟩
                                                  have n6_ : Aside0 (gb405 ≠ gb381) := ⟨h6_⟩
                                                  have n7_ : Aside0 (Below w.heap.size w w45) := ⟨h7_⟩
                                                  clear BK381
                                                  clear HB
                                                  clear h0_ h1_ h2_ h3_ h4_ h5_ h6_ h7_
                                                  have HO392 := n0_
                                                  have BK381 := n1_
                                                  have BK405 := n2_
                                                  have GW405 := n3_
                                                  have GE405 := n4_
                                                  have NB381_405 := n5_
                                                  have NB405_381 := n6_
                                                  have HB := n7_
                                                  clear n0_ n1_ n2_ n3_ n4_ n5_ n6_ n7_
                                                  have hHeld := trivial
                                                  obtain ⟨Ao46, co46, eo46⟩ := Kd.R_slice HO392.out
                                                  (first | subst eo46 | (injection eo46 with f1_ f2_ f3_; have f4_ := f1_.symm; have f5_ := f3_.symm; clear f1_ f2_ f3_; subst f4_; subst f5_))
                                                  refine norm_ (a' := ?_) ?_ ?_
                                                  rotate_left
                                                  · simp only [putAll, Act.put, List.setIfInBounds_toArray, List.set_cons_zero, List.set_cons_succ, *]
                                                    rfl
                                                  refine one_ (i := 12) (N := some 61) #[true, true, true, true, true, true, true, true, true, true, true, true, true, false, false, false, false, true, false, false, false] rfl rfl (one_of HT_.out (by kernel_rfl)) (by decide) (fun K hK => ?_)
                                                  refine goes_ Tryd.func17 (by kernel_rfl) rfl #[.slice Ao46 y390.length co46] (by rfl) rfl rfl (by (try simp only [List.map_toArray, List.map_cons, List.map_nil]); first | done | rfl | (simp only [List.length_drop, List.length_take]; rfl)) ?_
                                                  with_reducible refine (event_Decode.calls _ _ y390 t393 t394 t395 t396 t397 t398 t399 t400 t401 t402 t403 t404 _ ?side3 ?side1 ?side2 A28.out).mono ?_
                                                  (case side1 => repeat (first | exact (Kd.R_reads' HO392.out).2.2 | (with_reducible refine Kd.C_alloc ?_ _) | (with_reducible refine Kd.C_drewN ?_ _) | (with_reducible refine Kd.C_drew ?_)))
                                                  (case side2 => exact (Kd.R_reads' HO392.out).2.1)
                                                  (case side3 => first | exact HG.out | exact Glob.below HG.out HB.out | exact Glob.drewN (Glob.below HG.out HB.out) _ | exact Glob.drewN HG.out _ | (refine Glob.below HG.out ?_; (repeat (first | (with_reducible first | exact HB.out | apply below_alloc | apply pw_below_drewN | apply below_drew1 | refine below_set ?_ GE381.out | refine below_set ?_ GE405.out) | exact HB.out)); done) | (repeat (first | exact HG.out | (with_reducible refine Glob.drewN ?_ _) | (with_reducible refine Glob.drew ?_) | (with_reducible refine Glob.alloc ?_ _)); done))
                                                  rintro e w47 ⟨rfl, hb⟩
                                                  refine ⟨_, rfl, ?_⟩
                                                  have n0_ := Aside0.mk (Kd.R_below (by (with_reducible repeat (first | apply Kd.R_alloc | apply Kd.R_drewN | apply Kd.R_drew)); exact HO392.out) hb)
                                                  have n1_ := Aside0.mk (blk_below (g := gb381) (o := .cells #[.int .i64 t369, .int .u64 t370, .int .u64 t371, .string t372, .string t373, .string t374, .string t375, .int .i64 t376, .int .i64 t377, .int .i64 t378] 24 (0, 0)) (by (with_reducible repeat (first | refine blk_drewN ?_ _ | refine blk_drew ?_ | refine blk_alloc ?_ _)); exact BK381.out) hb)
                                                  have n2_ := Aside0.mk (blk_below (g := gb405) (o := .cells #[.int .i64 0, .int .u64 0, .int .u64 0, .string (⟨#[]⟩ : ByteArray), .string (⟨#[]⟩ : ByteArray), .string (⟨#[]⟩ : ByteArray), .string (⟨#[]⟩ : ByteArray), .int .i64 0, .int .i64 0, .int .i64 0] 24 (0, 0)) (by (with_reducible repeat (first | refine blk_drewN ?_ _ | refine blk_drew ?_ | refine blk_alloc ?_ _)); exact BK405.out) hb)
                                                  have n3_ := Aside0.mk (below_step (by repeat (first | (with_reducible first | exact HB.out | apply below_alloc | apply pw_below_drewN | apply below_drew1 | refine below_set ?_ GE381.out | refine below_set ?_ GE405.out) | exact HB.out)) hb)
                                                  clear HO392
                                                  clear BK381
                                                  clear BK405
                                                  clear HB
                                                  have HO392 := n0_
                                                  have BK381 := n1_
                                                  have BK405 := n2_
                                                  have HB := n3_
                                                  clear n0_ n1_ n2_ n3_
                                                  (try clear hb)
                                                  (try clear hb2)
                                                  (try clear hk)
                                                  (try clear hi)
                                                  refine hK.out _ _ trivial (fun hHeld => ?_)
                                                  clear hK K
                                                  refine norm_ (a' := ?_) ?_ ?_
                                                  rotate_left
                                                  · show Act.put _ (some 61) _ = _
                                                    simp only [Act.put, List.setIfInBounds_toArray, List.set_cons_zero, List.set_cons_succ, i64_w, i32_w]
                                                    rfl
                                                  refine pure_ (i := 13) (N := some 48) (v := ?_) (a' := ?_) #[true, true, true, true, true, true, true, true, true, true, true, true, true, true, false, false, false, true, false, false, false] rfl rfl (any_of HT_.out (by kernel_rfl)) (fun _ _ _ h => h) (Or.inl ⟨by rfl, ?_⟩) ?_ ?_
                                                  rotate_left
                                                  · intro w'
                                                    go_simp
                                                    with_reducible rfl
                                                  rotate_left
                                                  · simp only [Act.put, List.setIfInBounds_toArray, List.set_cons_zero, List.set_cons_succ, i64_w, i32_w]
                                                    rfl
                                                  refine pure_ (i := 14) (N := some 62) (v := ?_) (a' := ?_) #[true, true, true, true, true, true, true, true, true, true, true, true, true, true, true, false, false, true, false, false, false] rfl rfl (any_of HT_.out (by kernel_rfl)) (fun _ _ _ h => h) (Or.inl ⟨by rfl, ?_⟩) ?_ ?_
                                                  rotate_left
                                                  · intro w'
                                                    go_simp
                                                    with_reducible rfl
                                                  rotate_left
                                                  · simp only [Act.put, List.setIfInBounds_toArray, List.set_cons_zero, List.set_cons_succ, i64_w, i32_w]
                                                    rfl
                                                  refine pure_ (i := 15) (N := some 63) (v := ?_) (a' := ?_) #[true, true, true, true, true, true, true, true, true, true, true, true, true, true, true, true, false, true, false, false, false] rfl rfl (any_of HT_.out (by kernel_rfl)) (fun _ _ _ h => h) (Or.inl ⟨by rfl, ?_⟩) ?_ ?_
                                                  rotate_left
                                                  · intro w'
                                                    go_simp
                                                    with_reducible rfl
                                                  rotate_left
                                                  · simp only [Act.put, List.setIfInBounds_toArray, List.set_cons_zero, List.set_cons_succ, i64_w, i32_w]
                                                    rfl
                                                  refine pure_ (i := 16) (N := some 64) (v := ?_) (a' := ?_) #[true, true, true, true, true, true, true, true, true, true, true, true, true, true, true, true, true, true, false, false, false] rfl rfl (any_of HT_.out (by kernel_rfl)) (fun _ _ _ h => h) (Or.inl ⟨by rfl, ?_⟩) ?_ ?_
                                                  rotate_left
                                                  · intro w'
                                                    go_simp
                                                    with_reducible rfl
                                                  rotate_left
                                                  · simp only [Act.put, List.setIfInBounds_toArray, List.set_cons_zero, List.set_cons_succ, i64_w, i32_w]
                                                    rfl
                                                  exact norm_ (by first | (simp only [putAll, Act.put, List.setIfInBounds_toArray, List.set_cons_zero, List.set_cons_succ]; done) | (simp only [putAll, Act.put, List.setIfInBounds_toArray, List.set_cons_zero, List.set_cons_succ]; rfl)) (hJ0_5_11_12_17 (v383, v387, .slice Ao46 y390.length co46, gb405) _ ⟨(by (with_reducible repeat (first | apply Kd.R_alloc | apply Kd.R_drewN | apply Kd.R_drew)); exact HO392.out), (by (with_reducible repeat (first | refine blk_drewN ?_ _ | refine blk_drew ?_ | refine blk_alloc ?_ _)); exact BK381.out), (by (with_reducible repeat (first | refine blk_drewN ?_ _ | refine blk_drew ?_ | refine blk_alloc ?_ _)); exact BK405.out), GW405.out, GE405.out, NB381_405.out, NB405_381.out, (by repeat (first | (with_reducible first | exact HB.out | apply below_alloc | apply pw_below_drewN | apply below_drew1 | refine below_set ?_ GE381.out | refine below_set ?_ GE405.out) | exact HB.out))⟩)
                                              · skip
                                                rintro ⟨v383, v387, v391⟩ w46 ⟨h0_, h1_, h2_⟩
                                                have n0_ : Aside0 (Kd.R (Kd.int .u8) 5 w46 w.heap.size (fun _ => True) v391 y390) := ⟨h0_⟩
                                                have n1_ : Aside0 (w46.heap[gb381]? = some (.cells #[.int .i64 t369, .int .u64 t370, .int .u64 t371, .string t372, .string t373, .string t374, .string t375, .int .i64 t376, .int .i64 t377, .int .i64 t378] 24 (0, 0))) := ⟨h1_⟩
                                                have n2_ : Aside0 (Below w.heap.size w w46) := ⟨h2_⟩
                                                clear BK381
                                                clear HB
                                                clear h0_ h1_ h2_
                                                have HO392 := n0_
                                                have BK381 := n1_
                                                have HB := n2_
                                                clear n0_ n1_ n2_
                                                have hHeld := trivial
                                                refine norm_ (a' := ?_) ?_ ?_
                                                rotate_left
                                                · simp only [putAll, Act.put, List.setIfInBounds_toArray, List.set_cons_zero, List.set_cons_succ, *]
                                                  rfl
                                                refine one_ (i := 17) (N := some 9) #[true, true, true, true, true, true, true, true, true, true, true, true, true, true, true, true, true, true, false, false, false] rfl rfl (one_of HT_.out (by kernel_rfl)) (by decide) (fun K hK => ?_)
                                                refine box_step ?hg (N := 9) ?hd (cs := #[.int .i64 0, .int .u64 0, .int .u64 0, .string (⟨#[]⟩ : ByteArray), .string (⟨#[]⟩ : ByteArray), .string (⟨#[]⟩ : ByteArray), .string (⟨#[]⟩ : ByteArray), .int .i64 0, .int .i64 0, .int .i64 0]) (t := 24) ?hr ?_; (case hd => rfl); (case hg => rfl); (case hr => first | (go_simp; done) | (go_simp; rfl))
                                                intro gb405 hg w47 hbox hb
                                                have n0_ := Aside0.mk (Kd.R_below (by (with_reducible repeat (first | apply Kd.R_alloc | apply Kd.R_drewN | apply Kd.R_drew)); exact HO392.out) hb)
                                                have n1_ := Aside0.mk (blk_below (g := gb381) (o := .cells #[.int .i64 t369, .int .u64 t370, .int .u64 t371, .string t372, .string t373, .string t374, .string t375, .int .i64 t376, .int .i64 t377, .int .i64 t378] 24 (0, 0)) (by (with_reducible repeat (first | refine blk_drewN ?_ _ | refine blk_drew ?_ | refine blk_alloc ?_ _)); exact BK381.out) hb)
                                                have n2_ := Aside0.mk (below_step (by repeat (first | (with_reducible first | exact HB.out | apply below_alloc | apply pw_below_drewN | apply below_drew1 | refine below_set ?_ GE381.out) | exact HB.out)) hb)
                                                have n3_ := Aside0.mk (hbox)
                                                have n4_ := Aside0.mk ((by rw [hg]; exact (below_size (by repeat (first | (with_reducible first | exact HB.out | apply below_alloc | apply pw_below_drewN | apply below_drew1 | refine below_set ?_ GE381.out) | exact HB.out))) : w.heap.size ≤ gb405))
                                                have n5_ := Aside0.mk ((by rw [hg]; exact (below_size (by repeat (first | (with_reducible first | exact HB.out | apply below_alloc | apply pw_below_drewN | apply below_drew1 | refine below_set ?_ GE381.out) | exact HB.out))) : w.heap.size ≤ gb405))
                                                have n6_ := Aside0.mk ((by rw [hg]; exact Nat.ne_of_lt (blk_lt (g := gb381) (o := .cells #[.int .i64 t369, .int .u64 t370, .int .u64 t371, .string t372, .string t373, .string t374, .string t375, .int .i64 t376, .int .i64 t377, .int .i64 t378] 24 (0, 0)) (by (with_reducible repeat (first | refine blk_drewN ?_ _ | refine blk_drew ?_ | refine blk_alloc ?_ _)); exact BK381.out)) : gb381 ≠ gb405))
                                                have n7_ := Aside0.mk ((by rw [hg]; exact Nat.ne_of_gt (blk_lt (g := gb381) (o := .cells #[.int .i64 t369, .int .u64 t370, .int .u64 t371, .string t372, .string t373, .string t374, .string t375, .int .i64 t376, .int .i64 t377, .int .i64 t378] 24 (0, 0)) (by (with_reducible repeat (first | refine blk_drewN ?_ _ | refine blk_drew ?_ | refine blk_alloc ?_ _)); exact BK381.out)) : gb405 ≠ gb381))
                                                clear HO392
                                                clear BK381
                                                clear HB
                                                have HO392 := n0_
                                                have BK381 := n1_
                                                have HB := n2_
                                                have BK405 := n3_
                                                have GW405 := n4_
                                                have GE405 := n5_
                                                have NB381_405 := n6_
                                                have NB405_381 := n7_
                                                clear n0_ n1_ n2_ n3_ n4_ n5_ n6_ n7_
                                                clear hb hbox hg
                                                refine hK.out _ _ trivial (fun hHeld => ?_)
                                                clear hK K
                                                refine norm_ (a' := ?_) ?_ ?_
                                                rotate_left
                                                · show Act.put _ (some 9) _ = _
                                                  simp only [Act.put, List.setIfInBounds_toArray, List.set_cons_zero, List.set_cons_succ, i64_w, i32_w]
                                                  rfl
                                                exact norm_ (by first | (simp only [putAll, Act.put, List.setIfInBounds_toArray, List.set_cons_zero, List.set_cons_succ]; done) | (simp only [putAll, Act.put, List.setIfInBounds_toArray, List.set_cons_zero, List.set_cons_succ]; rfl)) (hJ0_5_11_12_17 (v383, v387, v391, gb405) _ ⟨(by (with_reducible repeat (first | apply Kd.R_alloc | apply Kd.R_drewN | apply Kd.R_drew)); exact HO392.out), (by (with_reducible repeat (first | refine blk_drewN ?_ _ | refine blk_drew ?_ | refine blk_alloc ?_ _)); exact BK381.out), (by (with_reducible repeat (first | refine blk_drewN ?_ _ | refine blk_drew ?_ | refine blk_alloc ?_ _)); exact BK405.out), GW405.out, GE405.out, NB381_405.out, NB405_381.out, (by repeat (first | (with_reducible first | exact HB.out | apply below_alloc | apply pw_below_drewN | apply below_drew1 | refine below_set ?_ GE381.out | refine below_set ?_ GE405.out) | exact HB.out))⟩)
                                            rintro ⟨v383, v387, v391, gb405⟩ w47 ⟨h0_, h1_, h2_, h3_, h4_, h5_, h6_, h7_⟩
                                            have n0_ : Aside0 (Kd.R (Kd.int .u8) 5 w47 w.heap.size (fun _ => True) v391 y390) := ⟨h0_⟩
                                            have n1_ : Aside0 (w47.heap[gb381]? = some (.cells #[.int .i64 t369, .int .u64 t370, .int .u64 t371, .string t372, .string t373, .string t374, .string t375, .int .i64 t376, .int .i64 t377, .int .i64 t378] 24 (0, 0))) := ⟨h1_⟩
                                            have n2_ : Aside0 (w47.heap[gb405]? = some (.cells #[.int .i64 0, .int .u64 0, .int .u64 0, .string (⟨#[]⟩ : ByteArray), .string (⟨#[]⟩ : ByteArray), .string (⟨#[]⟩ : ByteArray), .string (⟨#[]⟩ : ByteArray), .int .i64 0, .int .i64 0, .int .i64 0] 24 (0, 0))) := ⟨h2_⟩
                                            have n3_ : Aside0 (w.heap.size ≤ gb405) := ⟨h3_⟩
                                            have n4_ : Aside0 (w.heap.size ≤ gb405) := ⟨h4_⟩
                                            have n5_ : Aside0 (gb381 ≠ gb405) := ⟨h5_⟩
                                            have n6_ : Aside0 (gb405 ≠ gb381) := ⟨h6_⟩
                                            have n7_ : Aside0 (Below w.heap.size w w47) := ⟨h7_⟩
                                            clear BK381
                                            clear HB
                                            clear h0_ h1_ h2_ h3_ h4_ h5_ h6_ h7_
                                            have HO392 := n0_
                                            have BK381 := n1_
                                            have BK405 := n2_
                                            have GW405 := n3_
                                            have GE405 := n4_
                                            have NB381_405 := n5_
                                            have NB405_381 := n6_
                                            have HB := n7_
                                            clear n0_ n1_ n2_ n3_ n4_ n5_ n6_ n7_
                                            have hHeld := trivial
                                            refine norm_ (a' := ?_) ?_ ?_
                                            rotate_left
                                            · simp only [putAll, Act.put, List.setIfInBounds_toArray, List.set_cons_zero, List.set_cons_succ, *]
                                              rfl
                                            refine one_ (i := 18) (N := none) #[true, true, true, true, true, true, true, true, true, true, true, true, true, true, true, true, true, true, true, false, false] rfl rfl (one_of HT_.out (by kernel_rfl)) (by decide) (fun K hK => ?_)
                                            have hs48 : w47.cell? ⟨gb405, 0, none⟩ = some (.int .i64 0) := (blk_cell BK405.out 0).trans rfl
                                            have hfs48 := blk_frozen BK405.out 0
                                            have hns48_0 := NB381_405.out
                                            have hms48_0 := NB405_381.out
                                            have hs49 : w47.cell? ⟨gb405, 1, none⟩ = some (.int .u64 0) := (blk_cell BK405.out 1).trans rfl
                                            have hfs49 := blk_frozen BK405.out 1
                                            have hns49_0 := NB381_405.out
                                            have hms49_0 := NB405_381.out
                                            have hs50 : w47.cell? ⟨gb405, 2, none⟩ = some (.int .u64 0) := (blk_cell BK405.out 2).trans rfl
                                            have hfs50 := blk_frozen BK405.out 2
                                            have hns50_0 := NB381_405.out
                                            have hms50_0 := NB405_381.out
                                            have hs51 : w47.cell? ⟨gb405, 3, none⟩ = some (.string (⟨#[]⟩ : ByteArray)) := (blk_cell BK405.out 3).trans rfl
                                            have hfs51 := blk_frozen BK405.out 3
                                            have hns51_0 := NB381_405.out
                                            have hms51_0 := NB405_381.out
                                            have hs52 : w47.cell? ⟨gb405, 4, none⟩ = some (.string (⟨#[]⟩ : ByteArray)) := (blk_cell BK405.out 4).trans rfl
                                            have hfs52 := blk_frozen BK405.out 4
                                            have hns52_0 := NB381_405.out
                                            have hms52_0 := NB405_381.out
                                            have hs53 : w47.cell? ⟨gb405, 5, none⟩ = some (.string (⟨#[]⟩ : ByteArray)) := (blk_cell BK405.out 5).trans rfl
                                            have hfs53 := blk_frozen BK405.out 5
                                            have hns53_0 := NB381_405.out
                                            have hms53_0 := NB405_381.out
                                            have hs54 : w47.cell? ⟨gb405, 6, none⟩ = some (.string (⟨#[]⟩ : ByteArray)) := (blk_cell BK405.out 6).trans rfl
                                            have hfs54 := blk_frozen BK405.out 6
                                            have hns54_0 := NB381_405.out
                                            have hms54_0 := NB405_381.out
                                            have hs55 : w47.cell? ⟨gb405, 7, none⟩ = some (.int .i64 0) := (blk_cell BK405.out 7).trans rfl
                                            have hfs55 := blk_frozen BK405.out 7
                                            have hns55_0 := NB381_405.out
                                            have hms55_0 := NB405_381.out
                                            have hs56 : w47.cell? ⟨gb405, 8, none⟩ = some (.int .i64 0) := (blk_cell BK405.out 8).trans rfl
                                            have hfs56 := blk_frozen BK405.out 8
                                            have hns56_0 := NB381_405.out
                                            have hms56_0 := NB405_381.out
                                            have hs57 : w47.cell? ⟨gb405, 9, none⟩ = some (.int .i64 0) := (blk_cell BK405.out 9).trans rfl
                                            have hfs57 := blk_frozen BK405.out 9
                                            have hns57_0 := NB381_405.out
                                            have hms57_0 := NB405_381.out
                                            refine skip_ (w1 := ?_) (by rfl) rfl ?_ ?_
                                            rotate_left
                                            · go_simp
                                              rfl
                                            refine hK.out _ _ trivial (fun hHeld => ?_)
                                            clear hK K
                                            refine pure_ (i := 19) (N := some 10) (v := ?_) (a' := ?_) #[true, true, true, true, true, true, true, true, true, true, true, true, true, true, true, true, true, true, true, true, false] rfl rfl (any_of HT_.out (by kernel_rfl)) (fun _ _ _ h => h) (Or.inl ⟨by rfl, ?_⟩) ?_ ?_
                                            rotate_left
                                            · intro w'
                                              go_simp
                                              with_reducible rfl
                                            rotate_left
                                            · simp only [Act.put, List.setIfInBounds_toArray, List.set_cons_zero, List.set_cons_succ, i64_w, i32_w]
                                              rfl
                                            refine pure_ (i := 20) (N := some 11) (v := ?_) (a' := ?_) #[true, true, true, true, true, true, true, true, true, true, true, true, true, true, true, true, true, true, true, true, true] rfl rfl (any_of HT_.out (by kernel_rfl)) (fun _ _ _ h => h) (Or.inl ⟨by rfl, ?_⟩) ?_ ?_
                                            rotate_left
                                            · intro w'
                                              go_simp
                                              with_reducible rfl
                                            rotate_left
                                            · simp only [Act.put, List.setIfInBounds_toArray, List.set_cons_zero, List.set_cons_succ, i64_w, i32_w]
                                              rfl
                                            refine done_ (done_of HT_.out (by kernel_rfl)) ?_
                                            obtain ⟨WZ, hWZ⟩ : ∃ W_ : World, W_ = ((((((((((w47.setCell ⟨gb405, 0, none⟩ (.int .i64 t393)).setCell ⟨gb405, 1, none⟩ (.int .u64 t394)).setCell ⟨gb405, 2, none⟩ (.int .u64 t395)).setCell ⟨gb405, 3, none⟩ (.string t396)).setCell ⟨gb405, 4, none⟩ (.string t397)).setCell ⟨gb405, 5, none⟩ (.string t398)).setCell ⟨gb405, 6, none⟩ (.string t399)).setCell ⟨gb405, 7, none⟩ (.int .i64 t400)).setCell ⟨gb405, 8, none⟩ (.int .i64 t401)).setCell ⟨gb405, 9, none⟩ (.int .i64 t402)) := ⟨_, rfl⟩
                                            rw [← hWZ]
                                            have HBZ := Aside0.mk (show Below w.heap.size w WZ by rw [hWZ]; exact ((((((((((HB.out.setCell GE405.out _).setCell GE405.out _).setCell GE405.out _).setCell GE405.out _).setCell GE405.out _).setCell GE405.out _).setCell GE405.out _).setCell GE405.out _).setCell GE405.out _).setCell GE405.out _))
                                            clear hWZ HB BK381 BK405 HO392
                                            have HB := HBZ
                                            clear HBZ
                                            obtain ⟨i058, hi058, _, hsz58, _⟩ := info_parts info5
                                            obtain ⟨hcut58, hA58, hC58⟩ := print_take_of (P := Tryd.prog) (Value.int .u8) 0 27 5 .i64 Tryd.underlying27 hi058 hsz58 A0 c0 lb t379 (of_decide_eq_true (by first | (with_reducible assumption) | assumption)) (of_decide_eq_true (by first | (with_reducible assumption) | assumption)) HC368.out
                                            have hl58 := Aside0.mk (show (lb.take (t379 : Int).toNat).length = (t379 : Int).toNat from by have q0_ : 0 ≤ t379 := (of_decide_eq_true (by first | (with_reducible assumption) | assumption)); have q1_ : t379 ≤ (lb.length : Int) := (of_decide_eq_true (by first | (with_reducible assumption) | assumption)); (try simp only [List.length_drop, List.length_take] at q0_ q1_); (try simp only [List.length_drop, List.length_take] at q2_); simp only [List.length_drop, List.length_take]; first | done | omega)
                                            (try rw [hl58.out] at hcut58)
                                            have HR406 := Aside0.mk (Kd.C_of_reads (h1 := fun _ => rfl) (hA58 _ (Kd.reads_of_C HR368.out)))
                                            have HC406 := Aside0.mk hC58
                                            clear hA58 hC58 hi058 hsz58
                                            go_wp2_with (first | ((with_reducible refine gate_callee (f := 17) rfl ?_); refine goesL_ (some 69) rfl rfl Tryd.func17 (by kernel_rfl) rfl #[.slice A0 (lb.take (t379 : Int).toNat).length c0] rfl (by (try simp only [List.map_toArray, List.map_cons, List.map_nil]); first | done | (rw [show (lb.take (t379 : Int).toNat).length = t379.toNat from (by rw [List.length_take]; have h_ : (t379 : Int) ≤ (lb.length : Int) := of_decide_eq_true (by first | (with_reducible assumption) | assumption); omega)] <;> rfl) | (simp only [hji4]; rfl) | rfl | (simp only [List.length_drop, List.length_take]; rfl)) ?_; (with_reducible refine (event_Decode.calls _ _ (lb.take (t379 : Int).toNat) t407 t408 t409 t410 t411 t412 t413 t414 t415 t416 t417 t418 _ ?side3 ?side1 ?side2 A31.out).mono ?_); (case side1 => exact Kd.C_below HR406.out (by repeat (first | (with_reducible first | exact HB.out | apply below_alloc | apply pw_below_drewN | apply below_drew1 | refine below_set ?_ GE381.out | refine below_set ?_ GE405.out) | exact HB.out))); (case side2 => exact HC406.out); (case side3 => first | exact HG.out | exact Glob.below HG.out HB.out | exact Glob.drewN (Glob.below HG.out HB.out) _ | exact Glob.drewN HG.out _ | (refine Glob.below HG.out ?_; (repeat (first | (with_reducible first | exact HB.out | apply below_alloc | apply pw_below_drewN | apply below_drew1 | refine below_set ?_ GE381.out | refine below_set ?_ GE405.out) | exact HB.out)); done) | (repeat (first | exact HG.out | (with_reducible refine Glob.drewN ?_ _) | (with_reducible refine Glob.drew ?_) | (with_reducible refine Glob.alloc ?_ _)); done)); rintro e w59 ⟨rfl, hb⟩; refine ⟨_, rfl, ?_⟩; have n3_ := Aside0.mk (below_step (by repeat (first | (with_reducible first | exact HB.out | apply below_alloc | apply pw_below_drewN | apply below_drew1 | refine below_set ?_ GE381.out | refine below_set ?_ GE405.out) | exact HB.out)) hb); clear HB; have HB := n3_; clear n3_; (try clear hb); (try clear hb2); (try clear hk); (try clear hi)))
                                            go_ret
                                            exact ⟨by first | rfl | (simp [errW_none, errW_some] <;> rfl) | (simp only [← hji4, ← hji20, ← hji24]; first | rfl | (simp [errW_none, errW_some] <;> rfl)) | (simp [*, errW_none, errW_some] <;> rfl), by repeat (first | (with_reducible first | exact HB.out | apply below_alloc | apply pw_below_drewN | apply below_drew1 | refine below_set ?_ GE381.out | refine below_set ?_ GE405.out | refine below_set ?_ GE419.out) | exact HB.out)⟩
                                          · rw [if_neg c36] at H
                                            have c36b0 : ((t418 == 2) == (t380 != 8)) = false := by simpa using c36
                                            (try (have c36b1 : decide ((t418 == 2) = (t380 != 8)) = false := by simpa using c36))
                                            (try (have c36b2 : ((t418 == 2) == (t380 != 8)) = false := by simpa using c36))
                                            (try (have c36b3 : ¬ ((t418 == 2) = (t380 != 8)) := by simpa using c36))
                                            clear c36
                                            exact absurd HT.out (by rw [← Option.some.inj H]; decide)
                                        · rw [if_neg c35] at H
                                          have c35b0 : (t417 == t379) = false := beq_eq_false_iff_ne.mpr c35
                                          have c35b1 : (t417 != t379) = true := bne_iff_ne.mpr c35
                                          exact absurd HT.out (by rw [← Option.some.inj H]; decide)
                                      · rw [if_neg c34] at H
                                        have c34b0 : (t404 == t380) = false := beq_eq_false_iff_ne.mpr c34
                                        have c34b1 : (t404 != t380) = true := bne_iff_ne.mpr c34
                                        exact absurd HT.out (by rw [← Option.some.inj H]; decide)
                                    · rw [if_neg c33] at H
                                      have c33b0 : (t403 == t379) = false := beq_eq_false_iff_ne.mpr c33
                                      have c33b1 : (t403 != t379) = true := bne_iff_ne.mpr c33
                                      exact absurd HT.out (by rw [← Option.some.inj H]; decide)
                                  · replace c32 := Bool.eq_false_iff.mpr c32
                                    subst c32
                                    have H1 : (some false) = some r := by rw [if_neg (show ¬ (false = true) by decide)] at H; exact H
                                    clear H
                                    have H := H1
                                    clear H1
                                    exact absurd HT.out (by rw [← Option.some.inj H]; decide)
                                · rw [if_neg c30] at H
                                  exact absurd H (by simp)
                              · rw [if_neg c29] at H
                                exact absurd H (by simp)
                            · rw [if_neg c27] at H
                              exact absurd H (by simp)
                          · rw [if_neg c26] at H
                            exact absurd H (by simp)
                        · rw [if_neg c25] at H
                          exact absurd H (by simp)
                      · rw [if_neg c23] at H
                        exact absurd H (by simp)
                    · rw [if_neg c22] at H
                      exact absurd H (by simp)
                  · rw [if_neg c21] at H
                    exact absurd H (by simp)
    · rw [if_neg c6] at H
      exact absurd H (by simp)
  · rw [if_neg c5] at H
    exact absurd H (by simp)

/-- THE ONE PURE STATEMENT of transeptlaw05_EventFirst: yours. -/
def transeptlaw05_EventFirst.Pure : Prop := ∀ (l0 : List Int) (l1 : List Int), l0.length ≤ maxLen → l0.length * 1 ≤ 140737488351232 → (∀ x ∈ l0, (Lit.int .u8 x).wf = true) → l1.length ≤ maxLen → l1.length * 1 ≤ 140737488351232 → (∀ x ∈ l1, (Lit.int .u8 x).wf = true) → ∃ k, transeptlaw05_EventFirst.f k l0 l1 = some true
theorem transeptlaw05_EventFirst.walk (P : transeptlaw05_EventFirst.Pure) (a0 : Option Addr) (len0 cap0 : Nat) (z0 : List Int) (a1 : Option Addr) (len1 cap1 : Nat) (z1 : List Int) (w : World) (hG : Glob w) (w0 : (a0 = none ∧ len0 = 0 ∧ cap0 = 0 ∧ z0 = []) ∨ ∃ x, a0 = some x ∧ len0 ≤ cap0 ∧ cap0 ≤ maxLen ∧ z0.length = cap0 ∧ (∀ i, i < z0.length → w.cell? (x.add i) = some (.int .u8 (z0.getD i 0))) ∧ ∀ n ∈ z0, (Lit.int .u8 n).wf = true) (y0 : len0 * 1 ≤ 140737488351232) (w1 : (a1 = none ∧ len1 = 0 ∧ cap1 = 0 ∧ z1 = []) ∨ ∃ x, a1 = some x ∧ len1 ≤ cap1 ∧ cap1 ≤ maxLen ∧ z1.length = cap1 ∧ (∀ i, i < z1.length → w.cell? (x.add i) = some (.int .u8 (z1.getD i 0))) ∧ ∀ n ∈ z1, (Lit.int .u8 n).wf = true) (y1 : len1 * 1 ≤ 140737488351232) :
    Calls Tryd.prog 7 #[.slice a0 len0 cap0, .slice a1 len1 cap1] w fun e w' => e = .returned (.bool true) ∧ Below w.heap.size w w' := by
  obtain ⟨l0, rfl, hr0, hm0, hw0, hc0⟩ := ReadsInt.ofRowC w0
  obtain ⟨l1, rfl, hr1, hm1, hw1, hc1⟩ := ReadsInt.ofRowC w1
  obtain ⟨k, h⟩ := P l0 l1 hm0 y0 hw0 hm1 y1 hw1
  refine (transeptlaw05_EventFirst.calls k _ _ l0 _ _ l1 true w hG (Kd.C_of_reads (d := (0 : Int)) (h1 := fun _ => rfl) hr0) hc0 (Kd.C_of_reads (d := (0 : Int)) (h1 := fun _ => rfl) hr1) hc1 rfl h).mono ?_
  rintro e w' ⟨rfl, hd⟩
  exact ⟨rfl, hd⟩

end Go.Proofs.YtmlhlcdamppbfaaDoor.Xa
