-- Written by a program of this session (wip/tools/xprint.py), in the manner of the print of the kit.
import Derived.Test.YtojagnoobaleaaaDoorXpx0
import Derived.Test.YtojagnoobaleaaaDoorXpm
import Derived.Test.YtojagnoobaleaaaDoorStr
import Derived.Test.YtojagnoobaleaaaDoorFrZ
namespace Go.Proofs.YtojagnoobaleaaaDoor.Xp
open Go.RowKit Go.Proofs.YtojagnoobaleaaaDoor.Ext Go.Proofs.YtojagnoobaleaaaDoorW.PrintWords Go.Proofs.YtojagnoobaleaaaDoorW.PrintLast Go.Proofs.YtojagnoobaleaaaDoorW.PrintMore
attribute [local go_sem] max2_int min2_int max_two min_two max_three min_three max_four min_four   -- for this text's walks alone
set_option linter.unusedVariables false
set_option linter.unusedSimpArgs false

/-! ### transeptlaw04_FrameJoins: function 10 -/
def transeptlaw04_FrameJoins.j0 : Nat → Bool → List ByteArray → List ByteArray → List Int → List Int → Bool → Option (Bool)
  | 0, _, _, _, _, _, _ => none
  | k + 1, x5, x7, x9, x10, x12, x48 => if x48 = true then (some false) else ((some (([] : List Int) : List Int)).bind fun y393 => (if y393.length + x10.length < 140737488355328 then ((some (y393 ++ x10 : List Int)).bind fun y396 => (if 4 ≤ (x12.length : Int) then ((some (x12.drop 4 : List Int)).bind fun y399 => (if y396.length + y399.length < 140737488355328 then ((frame_Split.f (y396 ++ y399)).bind fun bt406 => (if x5 = true then (if bt406.2.2 = 0 then (if bt406.2.1 = (wrap64 ((wrap64 ((x10.length : Int) + (x12.length : Int))) - 4)) then (if (bt406.1.length : Int) = (wrap64 ((x7.length : Int) + (x9.length : Int))) then (if 0 ≤ (x7.length : Int) then (if (x7.length : Int) ≤ (bt406.1.length : Int) then ((transeptlaw04_same.f k (bt406.1.take ((x7.length : Int) : Int).toNat) x7).bind fun t415 => (if t415 = true then ((transeptlaw04_same.f k (bt406.1.drop ((x7.length : Int) : Int).toNat) x9).bind fun t420 => (some t420)) else (some false))) else (none)) else (none)) else (some false)) else (some false)) else (some false)) else (some false))) else (none))) else (none))) else (none)))
def transeptlaw04_FrameJoins.f (k : Nat) (l0 : List (List Int)) (l1 : List (List Int)) : Option (Bool) := (transeptlaw04_shown.f).bind fun t372 => ((transeptlaw04_few.f k l0).bind fun bt373 => ((transeptlaw04_few.f k l1).bind fun bt379 => ((frame_Join.f bt373.1).bind fun bt385 => ((frame_Join.f bt379.1).bind fun bt389 => (if bt385.2 = 0 then (if bt389.2 = 0 then (transeptlaw04_FrameJoins.j0 k t372 bt373.2 bt379.2 bt385.1 bt389.1 (decide ((bt389.1.length : Int) < 4))) else (transeptlaw04_FrameJoins.j0 k t372 bt373.2 bt379.2 bt385.1 bt389.1 true)) else (transeptlaw04_FrameJoins.j0 k t372 bt373.2 bt379.2 bt385.1 bt389.1 true))))))
theorem transeptlaw04_FrameJoins.mono_l : ∀ k, (∀ y0 y1 y2 y3 y4 y5, LeO (transeptlaw04_FrameJoins.j0 k y0 y1 y2 y3 y4 y5) (transeptlaw04_FrameJoins.j0 (k + 1) y0 y1 y2 y3 y4 y5))
  | 0 => fun _ _ _ _ _ _ r h => by simp [transeptlaw04_FrameJoins.j0] at h
  | k + 1 => by
    have ih0 := transeptlaw04_FrameJoins.mono_l k
    · intro y0 y1 y2 y3 y4 y5
      unfold transeptlaw04_FrameJoins.j0
      repeat' first
      | (with_reducible exact ih0 _ _ _ _ _ _)
      | (with_reducible exact transeptlaw04_few.mono _ _)
      | (with_reducible exact transeptlaw04_same.mono _ _ _)
      | (with_reducible exact LeO.refl _)
      | (with_reducible exact LeO.none _)
      | (with_reducible refine LeO.ite ?_ ?_)
      | (with_reducible refine LeO.bind ?_ (fun _ => ?_))
      | exact ih0 _ _ _ _ _ _
      | exact transeptlaw04_few.mono _ _
      | exact transeptlaw04_same.mono _ _ _
      | exact LeO.none _
      | refine LeO.ite ?_ ?_
      | refine LeO.bind ?_ (fun _ => ?_)
theorem transeptlaw04_FrameJoins.mono : ∀ a0 a1 k, LeO (transeptlaw04_FrameJoins.f k a0 a1) (transeptlaw04_FrameJoins.f (k + 1) a0 a1) := by
  intro a0 a1 k
  have ih0 := transeptlaw04_FrameJoins.mono_l k
  unfold transeptlaw04_FrameJoins.f
  repeat' first
      | (with_reducible exact ih0 _ _ _ _ _ _)
      | (with_reducible exact transeptlaw04_few.mono _ _)
      | (with_reducible exact transeptlaw04_same.mono _ _ _)
      | (with_reducible exact LeO.refl _)
      | (with_reducible exact LeO.none _)
      | (with_reducible refine LeO.ite ?_ ?_)
      | (with_reducible refine LeO.bind ?_ (fun _ => ?_))
      | exact ih0 _ _ _ _ _ _
      | exact transeptlaw04_few.mono _ _
      | exact transeptlaw04_same.mono _ _ _
      | exact LeO.none _
      | refine LeO.ite ?_ ?_
      | refine LeO.bind ?_ (fun _ => ?_)
def transeptlaw04_FrameJoins.T8 : Bool × List (List Nat × List Nat) := (true, [([], []), ([], []), ([0, 1], [0, 1]), ([], []), ([3], [3]), ([2, 4, 2], [2, 4]), ([5, 5], [5]), ([6], [6]), ([7], [7]), ([7], [7]), ([7], [7]), ([8, 6, 0, 1, 2, 3, 4, 5, 6, 7, 8], [8]), ([9, 11, 0, 1, 2, 3, 4, 5, 6, 7, 8, 9, 11], [9]), ([10, 12, 0, 1, 2, 3, 4, 5, 6, 7, 8, 9, 10, 11, 12], [10])])
def transeptlaw04_FrameJoins.B8 : List Nat := [0, 0, 3, 0, 8, 31, 63, 127, 255, 255, 255, 511, 3071, 8191]
theorem transeptlaw04_FrameJoins.tab8 : rtab .any (opsOf Tryd.f10 8) = transeptlaw04_FrameJoins.T8 := by kernel_rfl
theorem transeptlaw04_FrameJoins.bits8 : waitsOk transeptlaw04_FrameJoins.T8.2 transeptlaw04_FrameJoins.B8 = true := by kernel_rfl
set_option maxHeartbeats 8000000 in
set_option maxRecDepth 100000 in
theorem transeptlaw04_FrameJoins.calls (k : Nat) (A0 : Option Addr) (c0 : Nat) (l0 : List (List Int)) (A1 : Option Addr) (c1 : Nat) (l1 : List (List Int)) (r : Bool) (w : World) (hG : Glob w) (hr0 : Kd.C (Kd.slice 5 (Kd.int .u8)) w A0 l0.length l0) (hc0 : l0.length ≤ c0) (hr1 : Kd.C (Kd.slice 5 (Kd.int .u8)) w A1 l1.length l1) (hc1 : l1.length ≤ c1) (hT_ : r = true) (h : transeptlaw04_FrameJoins.f k l0 l1 = some r) :
    Calls Tryd.prog 10 #[.slice A0 l0.length c0, .slice A1 l1.length c1] w fun e w' => e = .returned (.bool r) ∧ Below w.heap.size w w' := by
  have HG := Aside0.mk hG
  clear hG
  have HT := Aside0.mk hT_
  clear hT_
  have HR0 := Aside0.mk hr0
  have HC0 := Aside0.mk hc0
  clear hr0 hc0
  have HR1 := Aside0.mk hr1
  have HC1 := Aside0.mk hc1
  clear hr1 hc1
  have HB := Aside0.mk (Below.refl w.heap.size w)
  have H : ((transeptlaw04_shown.f).bind fun t372 => ((transeptlaw04_few.f k l0).bind fun bt373 => ((transeptlaw04_few.f k l1).bind fun bt379 => ((frame_Join.f bt373.1).bind fun bt385 => ((frame_Join.f bt379.1).bind fun bt389 => (if bt385.2 = 0 then (if bt389.2 = 0 then (transeptlaw04_FrameJoins.j0 k t372 bt373.2 bt379.2 bt385.1 bt389.1 (decide ((bt389.1.length : Int) < 4))) else (transeptlaw04_FrameJoins.j0 k t372 bt373.2 bt379.2 bt385.1 bt389.1 true)) else (transeptlaw04_FrameJoins.j0 k t372 bt373.2 bt379.2 bt385.1 bt389.1 true))))))) = some r := h
  clear h
  replace H := Option.bind_eq_some_iff.mp H
  obtain ⟨t372, A30, H⟩ := H
  replace H : ((transeptlaw04_few.f k l0).bind fun bt373 => ((transeptlaw04_few.f k l1).bind fun bt379 => ((frame_Join.f bt373.1).bind fun bt385 => ((frame_Join.f bt379.1).bind fun bt389 => (if bt385.2 = 0 then (if bt389.2 = 0 then (transeptlaw04_FrameJoins.j0 k t372 bt373.2 bt379.2 bt385.1 bt389.1 (decide ((bt389.1.length : Int) < 4))) else (transeptlaw04_FrameJoins.j0 k t372 bt373.2 bt379.2 bt385.1 bt389.1 true)) else (transeptlaw04_FrameJoins.j0 k t372 bt373.2 bt379.2 bt385.1 bt389.1 true)))))) = some r := H
  have A3 := Aside0.mk A30
  clear A30
  replace H := Option.bind_eq_some_iff.mp H
  obtain ⟨⟨t373, t374⟩, A40, H⟩ := H
  replace H : ((transeptlaw04_few.f k l1).bind fun bt379 => ((frame_Join.f t373).bind fun bt385 => ((frame_Join.f bt379.1).bind fun bt389 => (if bt385.2 = 0 then (if bt389.2 = 0 then (transeptlaw04_FrameJoins.j0 k t372 t374 bt379.2 bt385.1 bt389.1 (decide ((bt389.1.length : Int) < 4))) else (transeptlaw04_FrameJoins.j0 k t372 t374 bt379.2 bt385.1 bt389.1 true)) else (transeptlaw04_FrameJoins.j0 k t372 t374 bt379.2 bt385.1 bt389.1 true))))) = some r := H
  have A4 := Aside0.mk A40
  clear A40
  replace H := Option.bind_eq_some_iff.mp H
  obtain ⟨⟨t379, t380⟩, A50, H⟩ := H
  replace H : ((frame_Join.f t373).bind fun bt385 => ((frame_Join.f t379).bind fun bt389 => (if bt385.2 = 0 then (if bt389.2 = 0 then (transeptlaw04_FrameJoins.j0 k t372 t374 t380 bt385.1 bt389.1 (decide ((bt389.1.length : Int) < 4))) else (transeptlaw04_FrameJoins.j0 k t372 t374 t380 bt385.1 bt389.1 true)) else (transeptlaw04_FrameJoins.j0 k t372 t374 t380 bt385.1 bt389.1 true)))) = some r := H
  have A5 := Aside0.mk A50
  clear A50
  replace H := Option.bind_eq_some_iff.mp H
  obtain ⟨⟨t385, t386⟩, A60, H⟩ := H
  replace H : ((frame_Join.f t379).bind fun bt389 => (if t386 = 0 then (if bt389.2 = 0 then (transeptlaw04_FrameJoins.j0 k t372 t374 t380 t385 bt389.1 (decide ((bt389.1.length : Int) < 4))) else (transeptlaw04_FrameJoins.j0 k t372 t374 t380 t385 bt389.1 true)) else (transeptlaw04_FrameJoins.j0 k t372 t374 t380 t385 bt389.1 true))) = some r := H
  have A6 := Aside0.mk A60
  clear A60
  replace H := Option.bind_eq_some_iff.mp H
  obtain ⟨⟨t389, t390⟩, A70, H⟩ := H
  replace H : (if t386 = 0 then (if t390 = 0 then (transeptlaw04_FrameJoins.j0 k t372 t374 t380 t385 t389 (decide ((t389.length : Int) < 4))) else (transeptlaw04_FrameJoins.j0 k t372 t374 t380 t385 t389 true)) else (transeptlaw04_FrameJoins.j0 k t372 t374 t380 t385 t389 true)) = some r := H
  have A7 := Aside0.mk A70
  clear A70
  have HC8 := Aside0.mk H
  clear H
  go_enter Tryd.func10, Tryd.ntmps10
  go_upto_region 6 with (first | ((with_reducible refine gate_callee (f := 13) rfl ?_); refine goesL_ (some 17) rfl rfl Tryd.func13 (by kernel_rfl) rfl #[] rfl (by (try simp only [List.map_toArray, List.map_cons, List.map_nil]); first | done | rfl | (simp only [List.length_drop, List.length_take]; rfl)) ?_; (with_reducible refine (transeptlaw04_shown.calls  t372 _ ?side1 A3.out).mono ?_); (case side1 => first | exact HG.out | exact Glob.below HG.out HB.out | exact Glob.drewN (Glob.below HG.out HB.out) _ | exact Glob.drewN HG.out _ | (refine Glob.below HG.out ?_; (repeat (first | (with_reducible first | exact HB.out | apply below_alloc | apply pw_below_drewN | apply below_drew1) | exact HB.out)); done) | (repeat (first | exact HG.out | (with_reducible refine Glob.drewN ?_ _) | (with_reducible refine Glob.drew ?_) | (with_reducible refine Glob.alloc ?_ _)); done)); rintro e w9 ⟨rfl, hb⟩; refine ⟨_, rfl, ?_⟩; have n0_ := Aside0.mk (below_step (by repeat (first | (with_reducible first | exact HB.out | apply below_alloc | apply pw_below_drewN | apply below_drew1) | exact HB.out)) hb); clear HB; have HB := n0_; clear n0_; (try clear hb); (try clear hb2); (try clear hk); (try clear hi)) | ((with_reducible refine gate_callee (f := 17) rfl ?_); refine goesL_ (some 20) rfl rfl Tryd.func17 (by kernel_rfl) rfl #[.slice A0 l0.length c0] rfl (by (try simp only [List.map_toArray, List.map_cons, List.map_nil]); first | done | rfl | (simp only [List.length_drop, List.length_take]; rfl)) ?_; (with_reducible refine (transeptlaw04_few.calls k _ _ l0 t373 t374 _ ?side1 ?side2 A4.out).mono ?_); (case side1 => repeat (first | exact (Kd.C_below HR0.out HB.out) | (with_reducible refine Kd.C_alloc ?_ _) | (with_reducible refine Kd.C_drewN ?_ _) | (with_reducible refine Kd.C_drew ?_))); (case side2 => exact HC0.out); rintro e w10 ⟨v375, v377, rfl, ho0, ho1, hb⟩; refine ⟨_, rfl, ?_⟩; have n0_ := Aside0.mk (Kd.S_lower ho0 (below_size (by repeat (first | (with_reducible first | exact HB.out | apply below_alloc | apply pw_below_drewN | apply below_drew1) | exact HB.out)))); have n1_ := Aside0.mk (Kd.R_lower ho1 (below_size (by repeat (first | (with_reducible first | exact HB.out | apply below_alloc | apply pw_below_drewN | apply below_drew1) | exact HB.out)))); have n2_ := Aside0.mk (below_step (by repeat (first | (with_reducible first | exact HB.out | apply below_alloc | apply pw_below_drewN | apply below_drew1) | exact HB.out)) hb); clear HB; have HO376 := n0_; have HO378 := n1_; have HB := n2_; clear n0_ n1_ n2_; (try clear hb); (try clear hb2); (try clear hk); (try clear hi); (try clear ho0); (try clear ho1)) | ((with_reducible refine gate_callee (f := 17) rfl ?_); refine goesL_ (some 25) rfl rfl Tryd.func17 (by kernel_rfl) rfl #[.slice A1 l1.length c1] rfl (by (try simp only [List.map_toArray, List.map_cons, List.map_nil]); first | done | rfl | (simp only [List.length_drop, List.length_take]; rfl)) ?_; (with_reducible refine (transeptlaw04_few.calls k _ _ l1 t379 t380 _ ?side1 ?side2 A5.out).mono ?_); (case side1 => repeat (first | exact (Kd.C_below HR1.out HB.out) | (with_reducible refine Kd.C_alloc ?_ _) | (with_reducible refine Kd.C_drewN ?_ _) | (with_reducible refine Kd.C_drew ?_))); (case side2 => exact HC1.out); rintro e w11 ⟨v381, v383, rfl, ho0, ho1, hb⟩; refine ⟨_, rfl, ?_⟩; have n0_ := Aside0.mk (Kd.S_elder' (by (with_reducible repeat (first | apply Kd.S_alloc | apply Kd.S_drewN | apply Kd.S_drew)); exact HO376.out) (Kd.S_base ho0) hb); have n1_ := Aside0.mk (Kd.R_elder' (by (with_reducible repeat (first | apply Kd.R_alloc | apply Kd.R_drewN | apply Kd.R_drew)); exact HO378.out) (Kd.R_base ho1) hb); have n2_ := Aside0.mk (Kd.S_lower (Kd.S_new' ho0 (Kd.S_lt (by (with_reducible repeat (first | apply Kd.S_alloc | apply Kd.S_drewN | apply Kd.S_drew)); exact HO376.out))) (below_size (by repeat (first | (with_reducible first | exact HB.out | apply below_alloc | apply pw_below_drewN | apply below_drew1) | exact HB.out)))); have n3_ := Aside0.mk (Kd.R_lower (Kd.R_new' ho1 (Kd.R_lt (by (with_reducible repeat (first | apply Kd.R_alloc | apply Kd.R_drewN | apply Kd.R_drew)); exact HO378.out))) (below_size (by repeat (first | (with_reducible first | exact HB.out | apply below_alloc | apply pw_below_drewN | apply below_drew1) | exact HB.out)))); have n4_ := Aside0.mk (below_step (by repeat (first | (with_reducible first | exact HB.out | apply below_alloc | apply pw_below_drewN | apply below_drew1) | exact HB.out)) hb); clear HO376; clear HO378; clear HB; have HO376 := n0_; have HO378 := n1_; have HO382 := n2_; have HO384 := n3_; have HB := n4_; clear n0_ n1_ n2_ n3_ n4_; (try clear hb); (try clear hb2); (try clear hk); (try clear hi); (try clear ho0); (try clear ho1); obtain ⟨Ao12, co12, eo12⟩ := Kd.S_slice HO376.out; subst eo12) | ((with_reducible refine gate_callee (f := 18) rfl ?_); refine goesL_ (some 30) rfl rfl Tryd.func18 (by kernel_rfl) rfl #[.slice Ao12 t373.length co12] rfl (by (try simp only [List.map_toArray, List.map_cons, List.map_nil]); first | done | rfl | (simp only [List.length_drop, List.length_take]; rfl)) ?_; (with_reducible refine (frame_Join.calls _ _ t373 t385 t386 _ ?side3 ?side1 ?side2 A6.out).mono ?_); (case side1 => repeat (first | exact (Kd.S_reads' HO376.out).2.2 | (with_reducible refine Kd.C_alloc ?_ _) | (with_reducible refine Kd.C_drewN ?_ _) | (with_reducible refine Kd.C_drew ?_))); (case side2 => exact (Kd.S_reads' HO376.out).2.1); (case side3 => first | exact HG.out | exact Glob.below HG.out HB.out | exact Glob.drewN (Glob.below HG.out HB.out) _ | exact Glob.drewN HG.out _ | (refine Glob.below HG.out ?_; (repeat (first | (with_reducible first | exact HB.out | apply below_alloc | apply pw_below_drewN | apply below_drew1) | exact HB.out)); done) | (repeat (first | exact HG.out | (with_reducible refine Glob.drewN ?_ _) | (with_reducible refine Glob.drew ?_) | (with_reducible refine Glob.alloc ?_ _)); done)); rintro e w13 ⟨v387, rfl, ho0, hb⟩; refine ⟨_, rfl, ?_⟩; have n0_ := Aside0.mk (Kd.S_elder' (by (with_reducible repeat (first | apply Kd.S_alloc | apply Kd.S_drewN | apply Kd.S_drew)); exact HO376.out) (JV.base ho0) hb); have n1_ := Aside0.mk (Kd.R_below (by (with_reducible repeat (first | apply Kd.R_alloc | apply Kd.R_drewN | apply Kd.R_drew)); exact HO378.out) hb); have n2_ := Aside0.mk (Kd.S_elder' (by (with_reducible repeat (first | apply Kd.S_alloc | apply Kd.S_drewN | apply Kd.S_drew)); exact HO382.out) (JV.base ho0) hb); have n3_ := Aside0.mk (Kd.R_below (by (with_reducible repeat (first | apply Kd.R_alloc | apply Kd.R_drewN | apply Kd.R_drew)); exact HO384.out) hb); have n4_ := Aside0.mk (JV.lower ho0 (below_size (by repeat (first | (with_reducible first | exact HB.out | apply below_alloc | apply pw_below_drewN | apply below_drew1) | exact HB.out)))); have n5_ := Aside0.mk (below_step (by repeat (first | (with_reducible first | exact HB.out | apply below_alloc | apply pw_below_drewN | apply below_drew1) | exact HB.out)) hb); clear HO376; clear HO378; clear HO382; clear HO384; clear HB; have HO376 := n0_; have HO378 := n1_; have HO382 := n2_; have HO384 := n3_; have HO388 := n4_; have HB := n5_; clear n0_ n1_ n2_ n3_ n4_ n5_; (try clear hb); (try clear hb2); (try clear hk); (try clear hi); (try clear ho0); obtain ⟨Ao14, co14, eo14⟩ := Kd.S_slice HO382.out; subst eo14) | ((with_reducible refine gate_callee (f := 18) rfl ?_); refine goesL_ (some 35) rfl rfl Tryd.func18 (by kernel_rfl) rfl #[.slice Ao14 t379.length co14] rfl (by (try simp only [List.map_toArray, List.map_cons, List.map_nil]); first | done | rfl | (simp only [List.length_drop, List.length_take]; rfl)) ?_; (with_reducible refine (frame_Join.calls _ _ t379 t389 t390 _ ?side3 ?side1 ?side2 A7.out).mono ?_); (case side1 => repeat (first | exact (Kd.S_reads' HO382.out).2.2 | (with_reducible refine Kd.C_alloc ?_ _) | (with_reducible refine Kd.C_drewN ?_ _) | (with_reducible refine Kd.C_drew ?_))); (case side2 => exact (Kd.S_reads' HO382.out).2.1); (case side3 => first | exact HG.out | exact Glob.below HG.out HB.out | exact Glob.drewN (Glob.below HG.out HB.out) _ | exact Glob.drewN HG.out _ | (refine Glob.below HG.out ?_; (repeat (first | (with_reducible first | exact HB.out | apply below_alloc | apply pw_below_drewN | apply below_drew1) | exact HB.out)); done) | (repeat (first | exact HG.out | (with_reducible refine Glob.drewN ?_ _) | (with_reducible refine Glob.drew ?_) | (with_reducible refine Glob.alloc ?_ _)); done)); rintro e w15 ⟨v391, rfl, ho0, hb⟩; refine ⟨_, rfl, ?_⟩; have n0_ := Aside0.mk (Kd.S_elder' (by (with_reducible repeat (first | apply Kd.S_alloc | apply Kd.S_drewN | apply Kd.S_drew)); exact HO376.out) (JV.base ho0) hb); have n1_ := Aside0.mk (Kd.R_below (by (with_reducible repeat (first | apply Kd.R_alloc | apply Kd.R_drewN | apply Kd.R_drew)); exact HO378.out) hb); have n2_ := Aside0.mk (Kd.S_elder' (by (with_reducible repeat (first | apply Kd.S_alloc | apply Kd.S_drewN | apply Kd.S_drew)); exact HO382.out) (JV.base ho0) hb); have n3_ := Aside0.mk (Kd.R_below (by (with_reducible repeat (first | apply Kd.R_alloc | apply Kd.R_drewN | apply Kd.R_drew)); exact HO384.out) hb); have n4_ := Aside0.mk (JV.elder' (by (with_reducible repeat (first | apply JV.alloc | apply JV.drewN | apply JV.drew)); exact HO388.out) (JV.base ho0) hb); have n5_ := Aside0.mk (JV.lower (JV.new' ho0 (JV.lt (by (with_reducible repeat (first | apply JV.alloc | apply JV.drewN | apply JV.drew)); exact HO388.out))) (below_size (by repeat (first | (with_reducible first | exact HB.out | apply below_alloc | apply pw_below_drewN | apply below_drew1) | exact HB.out)))); have n6_ := Aside0.mk (below_step (by repeat (first | (with_reducible first | exact HB.out | apply below_alloc | apply pw_below_drewN | apply below_drew1) | exact HB.out)) hb); clear HO376; clear HO378; clear HO382; clear HO384; clear HO388; clear HB; have HO376 := n0_; have HO378 := n1_; have HO382 := n2_; have HO384 := n3_; have HO388 := n4_; have HO392 := n5_; have HB := n6_; clear n0_ n1_ n2_ n3_ n4_ n5_ n6_; (try clear hb); (try clear hb2); (try clear hk); (try clear hi); (try clear ho0)))
  (try simp only [Act.put, List.setIfInBounds_toArray, List.set_cons_zero, List.set_cons_succ])
  go_cut [48] (fun v48 wc => ∃ (kq : Nat) (x48_7 : Bool), v48 = .bool x48_7 ∧ Aside0 (transeptlaw04_FrameJoins.j0 kq t372 t374 t380 t385 t389 x48_7 = some r) ∧ Aside0 (kq ≤ k) ∧ Aside0 (Kd.R Kd.string 9 wc w.heap.size (fun k_ => some k_ ≠ (v383 : Value).ownBlock) v377 t374) ∧ Aside0 (Kd.R Kd.string 9 wc w.heap.size (fun k_ => some k_ ≠ (v377 : Value).ownBlock) v383 t380) ∧ Aside0 (JV wc w.heap.size (fun k_ => some k_ ≠ (v391 : Value).ownBlock) v387 t385) ∧ Aside0 (JV wc w.heap.size (fun k_ => some k_ ≠ (v387 : Value).ownBlock) v391 t389) ∧ Aside0 (Below w.heap.size w wc))
  case first =>
    have H := HC8.out
    clear HC8
    by_cases c16 : t386 = 0
    · rw [if_pos c16] at H
      have c16b0 : (t386 == 0) = true := beq_iff_eq.mpr c16
      have c16b1 : (t386 != 0) = false := bne_eq_false_iff_eq.mpr c16
      clear c16
      (first | rw [c16b0] | (simp only [i64_w, i32_w]; rw [c16b0]) | skip)
      by_cases c17 : t390 = 0
      · rw [if_pos c17] at H
        have c17b0 : (t390 == 0) = true := beq_iff_eq.mpr c17
        have c17b1 : (t390 != 0) = false := bne_eq_false_iff_eq.mpr c17
        clear c17
        have H' := Aside0.mk H
        clear H
        obtain ⟨Ao18, co18, eo18⟩ := JV.slice HO392.out
        subst eo18
        go_wp2
        go_meet
        case rel => exact ⟨_, (decide ((t389.length : Int) < 4)), (by first | rfl | (simp; done) | (simp [*]; done)), H', ⟨by first | omega | exact Nat.le_refl _⟩, ⟨by (with_reducible repeat (first | apply Kd.R_alloc | apply Kd.R_drewN | apply Kd.R_drew)); exact Kd.R_mono HO378.out (fun _ hk => hk.2)⟩, ⟨by (with_reducible repeat (first | apply Kd.R_alloc | apply Kd.R_drewN | apply Kd.R_drew)); exact Kd.R_mono HO384.out (fun _ hk => hk.2)⟩, ⟨by (with_reducible repeat (first | apply JV.alloc | apply JV.drewN | apply JV.drew)); exact JV.mono HO388.out (fun _ hk => hk.2)⟩, ⟨by (with_reducible repeat (first | apply JV.alloc | apply JV.drewN | apply JV.drew)); exact JV.mono HO392.out (fun _ hk => hk.2)⟩, ⟨by repeat (first | (with_reducible first | exact HB.out | apply below_alloc | apply pw_below_drewN | apply below_drew1) | exact HB.out)⟩⟩
      · rw [if_neg c17] at H
        have c17b0 : (t390 == 0) = false := beq_eq_false_iff_ne.mpr c17
        have c17b1 : (t390 != 0) = true := bne_iff_ne.mpr c17
        have H' := Aside0.mk H
        clear H
        go_wp2
        go_meet
        case rel => exact ⟨_, (true), (by first | rfl | (simp; done) | (simp [*]; done)), H', ⟨by first | omega | exact Nat.le_refl _⟩, ⟨by (with_reducible repeat (first | apply Kd.R_alloc | apply Kd.R_drewN | apply Kd.R_drew)); exact Kd.R_mono HO378.out (fun _ hk => hk.2)⟩, ⟨by (with_reducible repeat (first | apply Kd.R_alloc | apply Kd.R_drewN | apply Kd.R_drew)); exact Kd.R_mono HO384.out (fun _ hk => hk.2)⟩, ⟨by (with_reducible repeat (first | apply JV.alloc | apply JV.drewN | apply JV.drew)); exact JV.mono HO388.out (fun _ hk => hk.2)⟩, ⟨by (with_reducible repeat (first | apply JV.alloc | apply JV.drewN | apply JV.drew)); exact JV.mono HO392.out (fun _ hk => hk.2)⟩, ⟨by repeat (first | (with_reducible first | exact HB.out | apply below_alloc | apply pw_below_drewN | apply below_drew1) | exact HB.out)⟩⟩
    · rw [if_neg c16] at H
      have c16b0 : (t386 == 0) = false := beq_eq_false_iff_ne.mpr c16
      have c16b1 : (t386 != 0) = true := bne_iff_ne.mpr c16
      (first | rw [c16b0] | (simp only [i64_w, i32_w]; rw [c16b0]) | skip)
      have H' := Aside0.mk H
      clear H
      go_wp2
      go_meet
      case rel => exact ⟨_, (true), (by first | rfl | (simp; done) | (simp [*]; done)), H', ⟨by first | omega | exact Nat.le_refl _⟩, ⟨by (with_reducible repeat (first | apply Kd.R_alloc | apply Kd.R_drewN | apply Kd.R_drew)); exact Kd.R_mono HO378.out (fun _ hk => hk.2)⟩, ⟨by (with_reducible repeat (first | apply Kd.R_alloc | apply Kd.R_drewN | apply Kd.R_drew)); exact Kd.R_mono HO384.out (fun _ hk => hk.2)⟩, ⟨by (with_reducible repeat (first | apply JV.alloc | apply JV.drewN | apply JV.drew)); exact JV.mono HO388.out (fun _ hk => hk.2)⟩, ⟨by (with_reducible repeat (first | apply JV.alloc | apply JV.drewN | apply JV.drew)); exact JV.mono HO392.out (fun _ hk => hk.2)⟩, ⟨by repeat (first | (with_reducible first | exact HB.out | apply below_alloc | apply pw_below_drewN | apply below_drew1) | exact HB.out)⟩⟩
  case rest =>
    clear HC8
    try clear c1
    try clear p2
    try clear c10
    try clear c13
    try clear c16
    try clear c16b0
    try clear c16b1
    try clear c17
    try clear c17b0
    try clear c17b1
    try clear c18
    obtain ⟨kq, x48_7, rfl, HA, HJ7, HO_7, HO_9, HO_10, HO_12, HB⟩ := hcut
    cases kq with
    | zero => exact absurd HA.out (by simp [transeptlaw04_FrameJoins.j0])
    | succ kj7 =>
      have H := HA.out
      clear HA
      simp only [transeptlaw04_FrameJoins.j0] at H
      by_cases c19 : x48_7 = true
      · subst c19
        have H1 : (some false) = some r := by rw [if_pos rfl] at H; exact H
        clear H
        have H := H1
        clear H1
        exact absurd HT.out (by rw [← Option.some.inj H]; decide)
      · replace c19 := Bool.eq_false_iff.mpr c19
        subst c19
        have H1 : ((some (([] : List Int) : List Int)).bind fun y393 => (if y393.length + t385.length < 140737488355328 then ((some (y393 ++ t385 : List Int)).bind fun y396 => (if 4 ≤ (t389.length : Int) then ((some (t389.drop 4 : List Int)).bind fun y399 => (if y396.length + y399.length < 140737488355328 then ((frame_Split.f (y396 ++ y399)).bind fun bt406 => (if t372 = true then (if bt406.2.2 = 0 then (if bt406.2.1 = (wrap64 ((wrap64 ((t385.length : Int) + (t389.length : Int))) - 4)) then (if (bt406.1.length : Int) = (wrap64 ((t374.length : Int) + (t380.length : Int))) then (if 0 ≤ (t374.length : Int) then (if (t374.length : Int) ≤ (bt406.1.length : Int) then ((transeptlaw04_same.f kj7 (bt406.1.take ((t374.length : Int) : Int).toNat) t374).bind fun t415 => (if t415 = true then ((transeptlaw04_same.f kj7 (bt406.1.drop ((t374.length : Int) : Int).toNat) t380).bind fun t420 => (some t420)) else (some false))) else (none)) else (none)) else (some false)) else (some false)) else (some false)) else (some false))) else (none))) else (none))) else (none))) = some r := by rw [if_neg (show ¬ (false = true) by decide)] at H; exact H
        clear H
        have H := H1
        clear H1
        obtain ⟨y393, hy393⟩ : ∃ y_ : List Int, y_ = (([] : List Int)) := ⟨_, rfl⟩
        replace H : (if y393.length + t385.length < 140737488355328 then ((some (y393 ++ t385 : List Int)).bind fun y396 => (if 4 ≤ (t389.length : Int) then ((some (t389.drop 4 : List Int)).bind fun y399 => (if y396.length + y399.length < 140737488355328 then ((frame_Split.f (y396 ++ y399)).bind fun bt406 => (if t372 = true then (if bt406.2.2 = 0 then (if bt406.2.1 = (wrap64 ((wrap64 ((t385.length : Int) + (t389.length : Int))) - 4)) then (if (bt406.1.length : Int) = (wrap64 ((t374.length : Int) + (t380.length : Int))) then (if 0 ≤ (t374.length : Int) then (if (t374.length : Int) ≤ (bt406.1.length : Int) then ((transeptlaw04_same.f kj7 (bt406.1.take ((t374.length : Int) : Int).toNat) t374).bind fun t415 => (if t415 = true then ((transeptlaw04_same.f kj7 (bt406.1.drop ((t374.length : Int) : Int).toNat) t380).bind fun t420 => (some t420)) else (some false))) else (none)) else (none)) else (some false)) else (some false)) else (some false)) else (some false))) else (none))) else (none))) else (none)) = some r := by first | (rw [hy393]; with_reducible exact H) | (have H2_ := (Option.bind_some _ _).symm.trans H; rw [hy393]; with_reducible exact H2_) | (have H2_ := (Option.bind_some _ _).symm.trans H; with_reducible exact H2_) | with_reducible exact H | (rw [hy393]; exact H) | exact H
        have Ny393 := Aside0.mk hy393
        clear hy393
        by_cases c20 : y393.length + t385.length < 140737488355328
        · rw [if_pos c20] at H
          have LMc20 := Aside0.mk c20
          clear c20
          obtain ⟨y396, hy396⟩ : ∃ y_ : List Int, y_ = (y393 ++ t385) := ⟨_, rfl⟩
          replace H : (if 4 ≤ (t389.length : Int) then ((some (t389.drop 4 : List Int)).bind fun y399 => (if y396.length + y399.length < 140737488355328 then ((frame_Split.f (y396 ++ y399)).bind fun bt406 => (if t372 = true then (if bt406.2.2 = 0 then (if bt406.2.1 = (wrap64 ((wrap64 ((t385.length : Int) + (t389.length : Int))) - 4)) then (if (bt406.1.length : Int) = (wrap64 ((t374.length : Int) + (t380.length : Int))) then (if 0 ≤ (t374.length : Int) then (if (t374.length : Int) ≤ (bt406.1.length : Int) then ((transeptlaw04_same.f kj7 (bt406.1.take ((t374.length : Int) : Int).toNat) t374).bind fun t415 => (if t415 = true then ((transeptlaw04_same.f kj7 (bt406.1.drop ((t374.length : Int) : Int).toNat) t380).bind fun t420 => (some t420)) else (some false))) else (none)) else (none)) else (some false)) else (some false)) else (some false)) else (some false))) else (none))) else (none)) = some r := by first | (rw [hy396]; with_reducible exact H) | (have H2_ := (Option.bind_some _ _).symm.trans H; rw [hy396]; with_reducible exact H2_) | (have H2_ := (Option.bind_some _ _).symm.trans H; with_reducible exact H2_) | with_reducible exact H | (rw [hy396]; exact H) | exact H
          have Ny396 := Aside0.mk hy396
          clear hy396
          by_cases c21 : 4 ≤ (t389.length : Int)
          · rw [if_pos c21] at H
            have c21b0 := eq_true c21
            have c21b1 : decide (4 ≤ (t389.length : Int)) = true := decide_eq_true c21
            clear c21
            obtain ⟨y399, hy399⟩ : ∃ y_ : List Int, y_ = (t389.drop 4) := ⟨_, rfl⟩
            replace H : (if y396.length + y399.length < 140737488355328 then ((frame_Split.f (y396 ++ y399)).bind fun bt406 => (if t372 = true then (if bt406.2.2 = 0 then (if bt406.2.1 = (wrap64 ((wrap64 ((t385.length : Int) + (t389.length : Int))) - 4)) then (if (bt406.1.length : Int) = (wrap64 ((t374.length : Int) + (t380.length : Int))) then (if 0 ≤ (t374.length : Int) then (if (t374.length : Int) ≤ (bt406.1.length : Int) then ((transeptlaw04_same.f kj7 (bt406.1.take ((t374.length : Int) : Int).toNat) t374).bind fun t415 => (if t415 = true then ((transeptlaw04_same.f kj7 (bt406.1.drop ((t374.length : Int) : Int).toNat) t380).bind fun t420 => (some t420)) else (some false))) else (none)) else (none)) else (some false)) else (some false)) else (some false)) else (some false))) else (none)) = some r := by first | (rw [hy399]; with_reducible exact H) | (have H2_ := (Option.bind_some _ _).symm.trans H; rw [hy399]; with_reducible exact H2_) | (have H2_ := (Option.bind_some _ _).symm.trans H; with_reducible exact H2_) | with_reducible exact H | (rw [hy399]; exact H) | exact H
            have Ny399 := Aside0.mk hy399
            clear hy399
            by_cases c22 : y396.length + y399.length < 140737488355328
            · rw [if_pos c22] at H
              have LMc22 := Aside0.mk c22
              clear c22
              obtain ⟨y403, hy403⟩ : ∃ y_ : List Int, y_ = (y396 ++ y399) := ⟨_, rfl⟩
              replace H : ((frame_Split.f y403).bind fun bt406 => (if t372 = true then (if bt406.2.2 = 0 then (if bt406.2.1 = (wrap64 ((wrap64 ((t385.length : Int) + (t389.length : Int))) - 4)) then (if (bt406.1.length : Int) = (wrap64 ((t374.length : Int) + (t380.length : Int))) then (if 0 ≤ (t374.length : Int) then (if (t374.length : Int) ≤ (bt406.1.length : Int) then ((transeptlaw04_same.f kj7 (bt406.1.take ((t374.length : Int) : Int).toNat) t374).bind fun t415 => (if t415 = true then ((transeptlaw04_same.f kj7 (bt406.1.drop ((t374.length : Int) : Int).toNat) t380).bind fun t420 => (some t420)) else (some false))) else (none)) else (none)) else (some false)) else (some false)) else (some false)) else (some false))) = some r := by first | (rw [hy403]; with_reducible exact H) | (have H2_ := (Option.bind_some _ _).symm.trans H; rw [hy403]; with_reducible exact H2_) | (have H2_ := (Option.bind_some _ _).symm.trans H; with_reducible exact H2_) | with_reducible exact H | (rw [hy403]; exact H) | exact H
              have Ny403 := Aside0.mk hy403
              clear hy403
              replace H := Option.bind_eq_some_iff.mp H
              obtain ⟨⟨t406, t407, t408⟩, A230, H⟩ := H
              replace H : (if t372 = true then (if t408 = 0 then (if t407 = (wrap64 ((wrap64 ((t385.length : Int) + (t389.length : Int))) - 4)) then (if (t406.length : Int) = (wrap64 ((t374.length : Int) + (t380.length : Int))) then (if 0 ≤ (t374.length : Int) then (if (t374.length : Int) ≤ (t406.length : Int) then ((transeptlaw04_same.f kj7 (t406.take ((t374.length : Int) : Int).toNat) t374).bind fun t415 => (if t415 = true then ((transeptlaw04_same.f kj7 (t406.drop ((t374.length : Int) : Int).toNat) t380).bind fun t420 => (some t420)) else (some false))) else (none)) else (none)) else (some false)) else (some false)) else (some false)) else (some false)) = some r := H
              have A23 := Aside0.mk A230
              clear A230
              by_cases c24 : t372 = true
              · subst c24
                have H1 : (if t408 = 0 then (if t407 = (wrap64 ((wrap64 ((t385.length : Int) + (t389.length : Int))) - 4)) then (if (t406.length : Int) = (wrap64 ((t374.length : Int) + (t380.length : Int))) then (if 0 ≤ (t374.length : Int) then (if (t374.length : Int) ≤ (t406.length : Int) then ((transeptlaw04_same.f kj7 (t406.take ((t374.length : Int) : Int).toNat) t374).bind fun t415 => (if t415 = true then ((transeptlaw04_same.f kj7 (t406.drop ((t374.length : Int) : Int).toNat) t380).bind fun t420 => (some t420)) else (some false))) else (none)) else (none)) else (some false)) else (some false)) else (some false)) = some r := by rw [if_pos rfl] at H; exact H
                clear H
                have H := H1
                clear H1
                by_cases c25 : t408 = 0
                · rw [if_pos c25] at H
                  have c25b0 : (t408 == 0) = true := beq_iff_eq.mpr c25
                  have c25b1 : (t408 != 0) = false := bne_eq_false_iff_eq.mpr c25
                  clear c25
                  by_cases c26 : t407 = (wrap64 ((wrap64 ((t385.length : Int) + (t389.length : Int))) - 4))
                  · rw [if_pos c26] at H
                    have c26b0 : (t407 == (wrap64 ((wrap64 ((t385.length : Int) + (t389.length : Int))) - 4))) = true := beq_iff_eq.mpr c26
                    have c26b1 : (t407 != (wrap64 ((wrap64 ((t385.length : Int) + (t389.length : Int))) - 4))) = false := bne_eq_false_iff_eq.mpr c26
                    clear c26
                    by_cases c27 : (t406.length : Int) = (wrap64 ((t374.length : Int) + (t380.length : Int)))
                    · rw [if_pos c27] at H
                      have c27b0 : ((t406.length : Int) == (wrap64 ((t374.length : Int) + (t380.length : Int)))) = true := beq_iff_eq.mpr c27
                      have c27b1 : ((t406.length : Int) != (wrap64 ((t374.length : Int) + (t380.length : Int)))) = false := bne_eq_false_iff_eq.mpr c27
                      clear c27
                      by_cases c28 : 0 ≤ (t374.length : Int)
                      · rw [if_pos c28] at H
                        have c28b0 := eq_true c28
                        have c28b1 : decide (0 ≤ (t374.length : Int)) = true := decide_eq_true c28
                        clear c28
                        by_cases c29 : (t374.length : Int) ≤ (t406.length : Int)
                        · rw [if_pos c29] at H
                          have c29b0 := eq_true c29
                          have c29b1 : decide ((t374.length : Int) ≤ (t406.length : Int)) = true := decide_eq_true c29
                          clear c29
                          obtain ⟨y411, hy411⟩ : ∃ y_ : List (List Int), y_ = (t406.take ((t374.length : Int) : Int).toNat) := ⟨_, rfl⟩
                          replace H : ((transeptlaw04_same.f kj7 y411 t374).bind fun t415 => (if t415 = true then ((transeptlaw04_same.f kj7 (t406.drop ((t374.length : Int) : Int).toNat) t380).bind fun t420 => (some t420)) else (some false))) = some r := by first | (rw [hy411]; with_reducible exact H) | (have H2_ := (Option.bind_some _ _).symm.trans H; rw [hy411]; with_reducible exact H2_) | (have H2_ := (Option.bind_some _ _).symm.trans H; with_reducible exact H2_) | with_reducible exact H | (rw [hy411]; exact H) | exact H
                          have Ny411 := Aside0.mk hy411
                          clear hy411
                          replace H := Option.bind_eq_some_iff.mp H
                          obtain ⟨t415, A300, H⟩ := H
                          replace H : (if t415 = true then ((transeptlaw04_same.f kj7 (t406.drop ((t374.length : Int) : Int).toNat) t380).bind fun t420 => (some t420)) else (some false)) = some r := H
                          have A30 := Aside0.mk A300
                          clear A300
                          by_cases c31 : t415 = true
                          · subst c31
                            have H1 : ((transeptlaw04_same.f kj7 (t406.drop ((t374.length : Int) : Int).toNat) t380).bind fun t420 => (some t420)) = some r := by rw [if_pos rfl] at H; exact H
                            clear H
                            have H := H1
                            clear H1
                            have c32b0 := eq_true (of_decide_eq_true (by first | (with_reducible assumption) | assumption) : 0 ≤ (t374.length : Int))
                            have c33b0 := eq_true (of_decide_eq_true (by first | (with_reducible assumption) | assumption) : (t374.length : Int) ≤ (t406.length : Int))
                            obtain ⟨y416, hy416⟩ : ∃ y_ : List (List Int), y_ = (t406.drop ((t374.length : Int) : Int).toNat) := ⟨_, rfl⟩
                            replace H : ((transeptlaw04_same.f kj7 y416 t380).bind fun t420 => (some t420)) = some r := by first | (rw [hy416]; with_reducible exact H) | (have H2_ := (Option.bind_some _ _).symm.trans H; rw [hy416]; with_reducible exact H2_) | (have H2_ := (Option.bind_some _ _).symm.trans H; with_reducible exact H2_) | with_reducible exact H | (rw [hy416]; exact H) | exact H
                            have Ny416 := Aside0.mk hy416
                            clear hy416
                            replace H := Option.bind_eq_some_iff.mp H
                            obtain ⟨t420, A340, H⟩ := H
                            replace H : (some t420) = some r := H
                            have A34 := Aside0.mk A340
                            clear A340
                            obtain rfl := Option.some.inj H
                            try go_wp2
                            have n0_ := Aside0.mk (Kd.R_drew HO_7.out)
                            have n1_ := Aside0.mk (Kd.R_drew HO_9.out)
                            have n2_ := Aside0.mk (JV.drew HO_10.out)
                            have n3_ := Aside0.mk (JV.drew HO_12.out)
                            have n4_ := Aside0.mk (below_drew1 HB.out)
                            clear HO_7
                            clear HO_9
                            clear HO_10
                            clear HO_12
                            clear HB
                            have HO_7 := n0_
                            have HO_9 := n1_
                            have HO_10 := n2_
                            have HO_12 := n3_
                            have HB := n4_
                            clear n0_ n1_ n2_ n3_ n4_
                            obtain ⟨Ao37, co37, eo37⟩ := JV.slice HO_12.out
                            (first | subst eo37 | (injection eo37 with f1_ f2_ f3_; have f4_ := f1_.symm; have f5_ := f3_.symm; clear f1_ f2_ f3_; subst f4_; subst f5_))
                            have q36 : (4 : Int) ≤ ((t389.length : Int) : Int) := of_decide_eq_true (by first | (with_reducible assumption) | assumption)
                            obtain ⟨i036, hi036, _, hsz36, _⟩ := info_parts info5
                            have hroom36 : t389.length ≤ co37 := (JV.reads' HO_12.out).2.1
                            have hC36 : Kd.C (Kd.int .u8) _ Ao37 t389.length t389 := (JV.reads' HO_12.out).2.2
                            have hcut36 := cut_from (P := Tryd.prog) 22 5 .i64 Tryd.underlying22 hi036 1 hsz36 Ao37 t389.length co37 4 (by omega) q36
                            have hr36 := Kd.C_drop (m := (4 : Int).toNat) (c := co37) hC36 (by omega) hroom36
                            obtain ⟨A36, hA36⟩ : ∃ A1, A1 = (if co37 = (4 : Int).toNat then Ao37 else (Ao37 : Option Addr).map (·.add ((4 : Int).toNat * 1))) := ⟨_, rfl⟩
                            obtain ⟨c36, hc36⟩ : ∃ c1, c1 = co37 - (4 : Int).toNat := ⟨_, rfl⟩
                            have hy36 : y399.length = t389.length - (4 : Int).toNat := (by rw [Ny399.out, List.length_drop] <;> omega)
                            rw [show (t389).drop (4 : Int).toNat = y399 from Ny399.out.symm] at hr36
                            replace hr36 : Kd.C (Kd.int .u8) _ A36 y399.length y399 := (by rw [hA36]; exact hr36)
                            rw [← hy36, ← hA36, ← hc36] at hcut36
                            have HR402 := Aside0.mk hr36
                            have HC402 := Aside0.mk (show y399.length ≤ c36 from by rw [hy36, hc36]; exact Nat.sub_le_sub_right hroom36 _)
                            clear hr36 hC36 hroom36 hi036 hsz36 hc36
                            have KY36 := Aside0.mk hy36
                            have KA36 := Aside0.mk hA36
                            clear hy36 hA36
                            have KL36 := Aside0.mk (show 4 ≤ t389.length from by omega)
                            replace q36 := eq_true q36
                            try have q36m := eq_true (by have z_ := of_eq_true q36; simp only [ByteArray.size_extract, Nat.sub_zero] at z_; exact z_)
                            refine start_ (n := 14) (S := fun w' => True) (ds := []) #[false, false, false, false, false, false, false, false, false, false, false, false, false, false] (by kernel_rfl) rfl rfl trivial (fun hHeld => ?_); refine with_tabW transeptlaw04_FrameJoins.tab8 transeptlaw04_FrameJoins.bits8 (fun HT_ HW_ => ?_)
                            generalize wc.drew = w35 at HO_7 HO_9 HO_10 HO_12 HB HR402 hHeld ⊢
                            refine pure_ (i := 1) (N := some 51) (v := ?_) (a' := ?_) #[false, true, false, false, false, false, false, false, false, false, false, false, false, false] rfl rfl (any_of HT_.out (by kernel_rfl)) (fun _ _ _ h => h) (Or.inl ⟨by rfl, ?_⟩) ?_ ?_
                            rotate_left
                            · intro w'
                              go_simp
                              with_reducible rfl
                            rotate_left
                            · simp only [Act.put, List.setIfInBounds_toArray, List.set_cons_zero, List.set_cons_succ, i64_w, i32_w]
                              rfl
                            refine pure_ (i := 3) (N := some 53) (v := ?_) (a' := ?_) #[false, true, false, true, false, false, false, false, false, false, false, false, false, false] rfl rfl (any_of HT_.out (by kernel_rfl)) (fun _ _ _ h => h) (Or.inl ⟨by rfl, ?_⟩) ?_ ?_
                            rotate_left
                            · intro w'
                              go_simp
                              with_reducible rfl
                            rotate_left
                            · simp only [Act.put, List.setIfInBounds_toArray, List.set_cons_zero, List.set_cons_succ, i64_w, i32_w]
                              rfl
                            refine pure_ (i := 4) (N := some 54) (v := ?_) (a' := ?_) #[false, true, false, true, true, false, false, false, false, false, false, false, false, false] rfl rfl (any_of HT_.out (by kernel_rfl)) (fun _ _ _ h => h) (Or.inl ⟨by rfl, ?_⟩) ?_ ?_
                            rotate_left
                            · intro w'
                              go_simp
                              with_reducible rfl
                            rotate_left
                            · simp only [Act.put, List.setIfInBounds_toArray, List.set_cons_zero, List.set_cons_succ, i64_w, i32_w]
                              rfl
                            refine one_ (i := 0) (N := some 50) #[true, true, false, true, true, false, false, false, false, false, false, false, false, false] rfl rfl (one_of HT_.out (by kernel_rfl)) (by decide) (fun K hK => ?_)
                            refine Kd.R_lit_step (Kd.int .u8) _ 5 ?hg (N := 50) ?hd (xs := ([] : List Int)) (inner := []) (ok := fun _ => True) (okp := fun _ => True) ?hr ?hp (fun _ hk => hk) trivial (Below.refl _ _) (Nat.le_refl _) (by simp) ?_; (case hd => rfl); (case hg => rfl); (case hr => first | (go_simp; done) | (go_simp; rfl)); (case hp => exact (Reps.none _ _))
                            intro v394 w38 ho39 hb hg_ hnew_
                            clear hg_ hnew_
                            (first | rw [← Ny393.out] at ho39 | (simp only [Int.reduceToNat] at ho39; rw [← Ny393.out] at ho39))
                            have n0_ := Aside0.mk (Kd.R_below (by (with_reducible repeat (first | apply Kd.R_alloc | apply Kd.R_drewN | apply Kd.R_drew)); exact HO_7.out) hb)
                            have n1_ := Aside0.mk (Kd.R_below (by (with_reducible repeat (first | apply Kd.R_alloc | apply Kd.R_drewN | apply Kd.R_drew)); exact HO_9.out) hb)
                            have n2_ := Aside0.mk (JV.elder' (by (with_reducible repeat (first | apply JV.alloc | apply JV.drewN | apply JV.drew)); exact HO_10.out) (Kd.R_base ho39) hb)
                            have n3_ := Aside0.mk (JV.elder' (by (with_reducible repeat (first | apply JV.alloc | apply JV.drewN | apply JV.drew)); exact HO_12.out) (Kd.R_base ho39) hb)
                            have n4_ := Aside0.mk (Kd.R_lower (Kd.R_new' (Kd.R_new' ho39 (JV.lt (by (with_reducible repeat (first | apply JV.alloc | apply JV.drewN | apply JV.drew)); exact HO_10.out))) (JV.lt (by (with_reducible repeat (first | apply JV.alloc | apply JV.drewN | apply JV.drew)); exact HO_12.out))) (below_size (by repeat (first | (with_reducible first | exact HB.out | apply below_alloc | apply pw_below_drewN | apply below_drew1) | exact HB.out))))
                            have n5_ := Aside0.mk (Kd.C_below (by repeat (first | (with_reducible exact HR402.out) | (with_reducible refine Kd.C_alloc ?_ _) | (with_reducible refine Kd.C_drewN ?_ _) | (with_reducible refine Kd.C_drew ?_) | exact HR402.out)) hb)
                            have n6_ := Aside0.mk (below_step (by repeat (first | (with_reducible first | exact HB.out | apply below_alloc | apply pw_below_drewN | apply below_drew1) | exact HB.out)) hb)
                            clear HO_7
                            clear HO_9
                            clear HO_10
                            clear HO_12
                            clear HR402
                            clear HB
                            have HO_7 := n0_
                            have HO_9 := n1_
                            have HO_10 := n2_
                            have HO_12 := n3_
                            have HO395 := n4_
                            have HR402 := n5_
                            have HB := n6_
                            clear n0_ n1_ n2_ n3_ n4_ n5_ n6_
                            clear hb ho39
                            obtain ⟨Ao41, co41, eo41⟩ := JV.slice HO_10.out
                            (first | subst eo41 | (injection eo41 with f1_ f2_ f3_; have f4_ := f1_.symm; have f5_ := f3_.symm; clear f1_ f2_ f3_; subst f4_; subst f5_))
                            refine hK.out _ _ trivial (fun hHeld => ?_)
                            clear hK K
                            refine norm_ (a' := ?_) ?_ ?_
                            rotate_left
                            · show Act.put _ (some 50) _ = _
                              simp only [Act.put, List.setIfInBounds_toArray, List.set_cons_zero, List.set_cons_succ, i64_w, i32_w]
                              rfl
                            refine one_ (i := 2) (N := some 52) #[true, true, true, true, true, false, false, false, false, false, false, false, false, false] rfl rfl (one_of HT_.out (by kernel_rfl)) (by decide) (fun K hK => ?_)
                            refine Kd.R_append_rows_step (Kd.int .u8) (w0 := w) w.heap.size (by rfl) (.tmp 50) (.tmp 51) 22 5 (.int .u8 0) 1 rfl Tryd.underlying22 info5 rfl (by decide) (by omega) v394 y393 t385 _ _ _ (fun k_ => some k_ ≠ (.slice Ao41 t385.length co41 : Value).ownBlock ∧ some k_ ≠ (.slice Ao37 t389.length co37 : Value).ownBlock) (fun _ => False) rfl rfl ?aO ?aR (fun _ _ h => h) (fun _ h => h.elim) ?aF ?aB ?aS ?aL ?_
                            (case aR => repeat (first | exact (JV.reads' HO_10.out).2.2 | (with_reducible refine Kd.C_alloc ?_ _) | (with_reducible refine Kd.C_drewN ?_ _) | (with_reducible refine Kd.C_drew ?_)))
                            (case aB => exact (by repeat (first | (with_reducible first | exact HB.out | apply below_alloc | apply pw_below_drewN | apply below_drew1) | exact HB.out)))
                            (case aF => exact (fun k_ hk => ⟨Kd.fresh' (JV.lt (by (with_reducible repeat (first | apply JV.alloc | apply JV.drewN | apply JV.drew)); exact HO_10.out)) k_ hk, Kd.fresh' (JV.lt (by (with_reducible repeat (first | apply JV.alloc | apply JV.drewN | apply JV.drew)); exact HO_12.out)) k_ hk⟩))
                            (case aO => exact (by (with_reducible repeat (first | apply Kd.R_alloc | apply Kd.R_drewN | apply Kd.R_drew)); exact Kd.R_mono HO395.out (fun _ hk => ⟨hk.1.2, hk.2⟩)))
                            (case aS => exact (below_size (by repeat (first | (with_reducible first | exact HB.out | apply below_alloc | apply pw_below_drewN | apply below_drew1) | exact HB.out))))
                            (case aL => have := LMc20.out; omega)
                            intro v397 w40 ho hb hg hat
                            rw [← Ny396.out] at ho
                            have n0_ := Aside0.mk (Kd.R_over' (by (with_reducible repeat (first | apply Kd.R_alloc | apply Kd.R_drewN | apply Kd.R_drew)); exact HO_7.out) (Kd.R_typed (by (with_reducible repeat (first | apply Kd.R_alloc | apply Kd.R_drewN | apply Kd.R_drew)); exact HO395.out)) (by decide) hg)
                            have n1_ := Aside0.mk (Kd.R_over' (by (with_reducible repeat (first | apply Kd.R_alloc | apply Kd.R_drewN | apply Kd.R_drew)); exact HO_9.out) (Kd.R_typed (by (with_reducible repeat (first | apply Kd.R_alloc | apply Kd.R_drewN | apply Kd.R_drew)); exact HO395.out)) (by decide) hg)
                            have n2_ := Aside0.mk (JV.after (ok := (fun k_ => some k_ ≠ (.slice Ao37 t389.length co37 : Value).ownBlock)) (by (with_reducible repeat (first | apply JV.alloc | apply JV.drewN | apply JV.drew)); exact HO_10.out) hg hat)
                            have n3_ := Aside0.mk (JV.after (ok := (fun k_ => some k_ ≠ (.slice Ao41 t385.length co41 : Value).ownBlock)) (by (with_reducible repeat (first | apply JV.alloc | apply JV.drewN | apply JV.drew)); exact HO_12.out) hg hat)
                            have n4_ := Aside0.mk (hb)
                            have n5_ := Aside0.mk ((show Kd.C (Kd.int .u8) w40 A36 y399.length y399 from by rw [Ny399.out, KA36.out]; exact Kd.C_drop (m := 4) (c := co37) ((JV.reads' (JV.after (ok := (fun k_ => some k_ ≠ (.slice Ao41 t385.length co41 : Value).ownBlock)) (by (with_reducible repeat (first | apply JV.alloc | apply JV.drewN | apply JV.drew)); exact HO_12.out) hg hat)).2.2) KL36.out ((JV.reads' (JV.after (ok := (fun k_ => some k_ ≠ (.slice Ao41 t385.length co41 : Value).ownBlock)) (by (with_reducible repeat (first | apply JV.alloc | apply JV.drewN | apply JV.drew)); exact HO_12.out) hg hat)).2.1)))
                            have n6_ := Aside0.mk (ho)
                            clear HO_7
                            clear HO_9
                            clear HO_10
                            clear HO_12
                            clear HB
                            clear HR402
                            clear HO395
                            have HO_7 := n0_
                            have HO_9 := n1_
                            have HO_10 := n2_
                            have HO_12 := n3_
                            have HB := n4_
                            have HR402 := n5_
                            have HO398 := n6_
                            clear n0_ n1_ n2_ n3_ n4_ n5_ n6_
                            clear ho hb hg hat
                            refine hK.out _ _ trivial (fun hHeld => ?_)
                            clear hK K
                            refine norm_ (a' := ?_) ?_ ?_
                            rotate_left
                            · show Act.put _ (some 52) _ = _
                              simp only [Act.put, List.setIfInBounds_toArray, List.set_cons_zero, List.set_cons_succ, i64_w, i32_w]
                              rfl
                            refine one_ (i := 5) (N := some 55) #[true, true, true, true, true, true, false, false, false, false, false, false, false, false] rfl rfl (one_of HT_.out (by kernel_rfl)) (by decide) (fun K hK => ?_)
                            refine Kd.R_append_rows_step (Kd.int .u8) (w0 := w) w.heap.size (by rfl) (.tmp 52) (.tmp 54) 22 5 (.int .u8 0) 1 rfl Tryd.underlying22 info5 rfl (by decide) (by omega) v397 y396 y399 _ _ _ (fun k_ => some k_ ≠ (.slice Ao41 t385.length co41 : Value).ownBlock ∧ some k_ ≠ (.slice Ao37 t389.length co37 : Value).ownBlock) (fun _ => False) rfl rfl ?aO ?aR (fun _ _ h => h) (fun _ h => h.elim) ?aF ?aB ?aS ?aL ?_
                            (case aR => repeat (first | exact (by repeat (first | (with_reducible exact HR402.out) | (with_reducible refine Kd.C_alloc ?_ _) | (with_reducible refine Kd.C_drewN ?_ _) | (with_reducible refine Kd.C_drew ?_) | exact HR402.out)) | (with_reducible refine Kd.C_alloc ?_ _) | (with_reducible refine Kd.C_drewN ?_ _) | (with_reducible refine Kd.C_drew ?_)))
                            (case aB => exact (by repeat (first | (with_reducible first | exact HB.out | apply below_alloc | apply pw_below_drewN | apply below_drew1) | exact HB.out)))
                            (case aF => exact (fun k_ hk => ⟨Kd.fresh' (JV.lt (by (with_reducible repeat (first | apply JV.alloc | apply JV.drewN | apply JV.drew)); exact HO_10.out)) k_ hk, Kd.fresh' (JV.lt (by (with_reducible repeat (first | apply JV.alloc | apply JV.drewN | apply JV.drew)); exact HO_12.out)) k_ hk⟩))
                            (case aO => exact (by (with_reducible repeat (first | apply Kd.R_alloc | apply Kd.R_drewN | apply Kd.R_drew)); exact HO398.out))
                            (case aS => exact (below_size (by repeat (first | (with_reducible first | exact HB.out | apply below_alloc | apply pw_below_drewN | apply below_drew1) | exact HB.out))))
                            (case aL => have := LMc22.out; omega)
                            intro v404 w42 ho hb hg hat
                            rw [← Ny403.out] at ho
                            have n0_ := Aside0.mk (Kd.R_over' (by (with_reducible repeat (first | apply Kd.R_alloc | apply Kd.R_drewN | apply Kd.R_drew)); exact HO_7.out) (Kd.R_typed (by (with_reducible repeat (first | apply Kd.R_alloc | apply Kd.R_drewN | apply Kd.R_drew)); exact HO398.out)) (by decide) hg)
                            have n1_ := Aside0.mk (Kd.R_over' (by (with_reducible repeat (first | apply Kd.R_alloc | apply Kd.R_drewN | apply Kd.R_drew)); exact HO_9.out) (Kd.R_typed (by (with_reducible repeat (first | apply Kd.R_alloc | apply Kd.R_drewN | apply Kd.R_drew)); exact HO398.out)) (by decide) hg)
                            have n2_ := Aside0.mk (JV.after (ok := (fun k_ => some k_ ≠ (.slice Ao37 t389.length co37 : Value).ownBlock)) (by (with_reducible repeat (first | apply JV.alloc | apply JV.drewN | apply JV.drew)); exact HO_10.out) hg hat)
                            have n3_ := Aside0.mk (JV.after (ok := (fun k_ => some k_ ≠ (.slice Ao41 t385.length co41 : Value).ownBlock)) (by (with_reducible repeat (first | apply JV.alloc | apply JV.drewN | apply JV.drew)); exact HO_12.out) hg hat)
                            have n4_ := Aside0.mk (hb)
                            have n5_ := Aside0.mk ((show Kd.C (Kd.int .u8) w42 A36 y399.length y399 from by rw [Ny399.out, KA36.out]; exact Kd.C_drop (m := 4) (c := co37) ((JV.reads' (JV.after (ok := (fun k_ => some k_ ≠ (.slice Ao41 t385.length co41 : Value).ownBlock)) (by (with_reducible repeat (first | apply JV.alloc | apply JV.drewN | apply JV.drew)); exact HO_12.out) hg hat)).2.2) KL36.out ((JV.reads' (JV.after (ok := (fun k_ => some k_ ≠ (.slice Ao41 t385.length co41 : Value).ownBlock)) (by (with_reducible repeat (first | apply JV.alloc | apply JV.drewN | apply JV.drew)); exact HO_12.out) hg hat)).2.1)))
                            have n6_ := Aside0.mk (ho)
                            clear HO_7
                            clear HO_9
                            clear HO_10
                            clear HO_12
                            clear HB
                            clear HR402
                            clear HO398
                            have HO_7 := n0_
                            have HO_9 := n1_
                            have HO_10 := n2_
                            have HO_12 := n3_
                            have HB := n4_
                            have HR402 := n5_
                            have HO405 := n6_
                            clear n0_ n1_ n2_ n3_ n4_ n5_ n6_
                            clear ho hb hg hat
                            obtain ⟨Ao43, co43, eo43⟩ := Kd.R_slice HO405.out
                            (first | subst eo43 | (injection eo43 with f1_ f2_ f3_; have f4_ := f1_.symm; have f5_ := f3_.symm; clear f1_ f2_ f3_; subst f4_; subst f5_))
                            refine hK.out _ _ trivial (fun hHeld => ?_)
                            clear hK K
                            refine norm_ (a' := ?_) ?_ ?_
                            rotate_left
                            · show Act.put _ (some 55) _ = _
                              simp only [Act.put, List.setIfInBounds_toArray, List.set_cons_zero, List.set_cons_succ, i64_w, i32_w]
                              rfl
                            refine one_ (i := 6) (N := some 56) #[true, true, true, true, true, true, true, false, false, false, false, false, false, false] rfl rfl (one_of HT_.out (by kernel_rfl)) (by decide) (fun K hK => ?_)
                            refine goes_ Tryd.func14 (by kernel_rfl) rfl #[.slice Ao43 y403.length co43] (by rfl) rfl rfl (by (try simp only [List.map_toArray, List.map_cons, List.map_nil]); first | done | rfl | (simp only [List.length_drop, List.length_take]; rfl)) ?_
                            with_reducible refine (frame_Split.calls _ _ y403 t406 t407 t408 _ ?side3 ?side1 ?side2 A23.out).mono ?_
                            (case side1 => repeat (first | exact (Kd.R_reads' HO405.out).2.2 | (with_reducible refine Kd.C_alloc ?_ _) | (with_reducible refine Kd.C_drewN ?_ _) | (with_reducible refine Kd.C_drew ?_)))
                            (case side2 => exact (Kd.R_reads' HO405.out).2.1)
                            (case side3 => first | exact HG.out | exact Glob.below HG.out HB.out | exact Glob.drewN (Glob.below HG.out HB.out) _ | exact Glob.drewN HG.out _ | (refine Glob.below HG.out ?_; (repeat (first | (with_reducible first | exact HB.out | apply below_alloc | apply pw_below_drewN | apply below_drew1) | exact HB.out)); done) | (repeat (first | exact HG.out | (with_reducible refine Glob.drewN ?_ _) | (with_reducible refine Glob.drew ?_) | (with_reducible refine Glob.alloc ?_ _)); done))
                            rintro e w44 ⟨v409, rfl, ho0, hb⟩
                            refine ⟨_, rfl, ?_⟩
                            have n0_ := Aside0.mk (Kd.R_below (by (with_reducible repeat (first | apply Kd.R_alloc | apply Kd.R_drewN | apply Kd.R_drew)); exact HO_7.out) hb)
                            have n1_ := Aside0.mk (Kd.R_below (by (with_reducible repeat (first | apply Kd.R_alloc | apply Kd.R_drewN | apply Kd.R_drew)); exact HO_9.out) hb)
                            have n2_ := Aside0.mk (JV.below (by (with_reducible repeat (first | apply JV.alloc | apply JV.drewN | apply JV.drew)); exact HO_10.out) hb)
                            have n3_ := Aside0.mk (JV.below (by (with_reducible repeat (first | apply JV.alloc | apply JV.drewN | apply JV.drew)); exact HO_12.out) hb)
                            have n4_ := Aside0.mk (Kd.R_below (by (with_reducible repeat (first | apply Kd.R_alloc | apply Kd.R_drewN | apply Kd.R_drew)); exact HO405.out) hb)
                            have n5_ := Aside0.mk (Kd.S_lower (Kd.S_new' (Kd.S_new' (Kd.S_new' ho0 (JV.lt (by (with_reducible repeat (first | apply JV.alloc | apply JV.drewN | apply JV.drew)); exact HO_10.out))) (JV.lt (by (with_reducible repeat (first | apply JV.alloc | apply JV.drewN | apply JV.drew)); exact HO_12.out))) (Kd.R_lt (by (with_reducible repeat (first | apply Kd.R_alloc | apply Kd.R_drewN | apply Kd.R_drew)); exact HO405.out))) (below_size (by repeat (first | (with_reducible first | exact HB.out | apply below_alloc | apply pw_below_drewN | apply below_drew1) | exact HB.out))))
                            have n6_ := Aside0.mk (Kd.C_below (by repeat (first | (with_reducible exact HR402.out) | (with_reducible refine Kd.C_alloc ?_ _) | (with_reducible refine Kd.C_drewN ?_ _) | (with_reducible refine Kd.C_drew ?_) | exact HR402.out)) hb)
                            have n7_ := Aside0.mk (below_step (by repeat (first | (with_reducible first | exact HB.out | apply below_alloc | apply pw_below_drewN | apply below_drew1) | exact HB.out)) hb)
                            clear HO_7
                            clear HO_9
                            clear HO_10
                            clear HO_12
                            clear HO405
                            clear HR402
                            clear HB
                            have HO_7 := n0_
                            have HO_9 := n1_
                            have HO_10 := n2_
                            have HO_12 := n3_
                            have HO405 := n4_
                            have HO410 := n5_
                            have HR402 := n6_
                            have HB := n7_
                            clear n0_ n1_ n2_ n3_ n4_ n5_ n6_ n7_
                            (try clear hb)
                            (try clear hb2)
                            (try clear hk)
                            (try clear hi)
                            (try clear ho0)
                            refine hK.out _ _ trivial (fun hHeld => ?_)
                            clear hK K
                            refine norm_ (a' := ?_) ?_ ?_
                            rotate_left
                            · show Act.put _ (some 56) _ = _
                              simp only [Act.put, List.setIfInBounds_toArray, List.set_cons_zero, List.set_cons_succ, i64_w, i32_w]
                              rfl
                            refine pure_ (i := 7) (N := some 49) (v := ?_) (a' := ?_) #[true, true, true, true, true, true, true, true, false, false, false, false, false, false] rfl rfl (any_of HT_.out (by kernel_rfl)) (fun _ _ _ h => h) (Or.inl ⟨by rfl, ?_⟩) ?_ ?_
                            rotate_left
                            · intro w'
                              go_simp
                              with_reducible rfl
                            rotate_left
                            · simp only [Act.put, List.setIfInBounds_toArray, List.set_cons_zero, List.set_cons_succ, i64_w, i32_w]
                              rfl
                            refine pure_ (i := 8) (N := some 57) (v := ?_) (a' := ?_) #[true, true, true, true, true, true, true, true, true, false, false, false, false, false] rfl rfl (any_of HT_.out (by kernel_rfl)) (fun _ _ _ h => h) (Or.inl ⟨by rfl, ?_⟩) ?_ ?_
                            rotate_left
                            · intro w'
                              go_simp
                              with_reducible rfl
                            rotate_left
                            · simp only [Act.put, List.setIfInBounds_toArray, List.set_cons_zero, List.set_cons_succ, i64_w, i32_w]
                              rfl
                            refine pure_ (i := 9) (N := some 58) (v := ?_) (a' := ?_) #[true, true, true, true, true, true, true, true, true, true, false, false, false, false] rfl rfl (any_of HT_.out (by kernel_rfl)) (fun _ _ _ h => h) (Or.inl ⟨by rfl, ?_⟩) ?_ ?_
                            rotate_left
                            · intro w'
                              go_simp
                              with_reducible rfl
                            rotate_left
                            · simp only [Act.put, List.setIfInBounds_toArray, List.set_cons_zero, List.set_cons_succ, i64_w, i32_w]
                              rfl
                            refine pure_ (i := 10) (N := some 59) (v := ?_) (a' := ?_) #[true, true, true, true, true, true, true, true, true, true, true, false, false, false] rfl rfl (any_of HT_.out (by kernel_rfl)) (fun _ _ _ h => h) (Or.inl ⟨by rfl, ?_⟩) ?_ ?_
                            rotate_left
                            · intro w'
                              go_simp
                              with_reducible rfl
                            rotate_left
                            · simp only [Act.put, List.setIfInBounds_toArray, List.set_cons_zero, List.set_cons_succ, i64_w, i32_w]
                              rfl
                            refine pure_ (i := 11) (N := some 14) (v := ?_) (a' := ?_) #[true, true, true, true, true, true, true, true, true, true, true, true, false, false] rfl rfl (any_of HT_.out (by kernel_rfl)) (fun _ _ _ h => h) (Or.inl ⟨by rfl, ?_⟩) ?_ ?_
                            rotate_left
                            · intro w'
                              go_simp
                              with_reducible rfl
                            rotate_left
                            · simp only [Act.put, List.setIfInBounds_toArray, List.set_cons_zero, List.set_cons_succ, i64_w, i32_w]
                              rfl
                            refine pure_ (i := 12) (N := some 15) (v := ?_) (a' := ?_) #[true, true, true, true, true, true, true, true, true, true, true, true, true, false] rfl rfl (any_of HT_.out (by kernel_rfl)) (fun _ _ _ h => h) (Or.inl ⟨by rfl, ?_⟩) ?_ ?_
                            rotate_left
                            · intro w'
                              go_simp
                              with_reducible rfl
                            rotate_left
                            · simp only [Act.put, List.setIfInBounds_toArray, List.set_cons_zero, List.set_cons_succ, i64_w, i32_w]
                              rfl
                            refine pure_ (i := 13) (N := some 16) (v := ?_) (a' := ?_) #[true, true, true, true, true, true, true, true, true, true, true, true, true, true] rfl rfl (any_of HT_.out (by kernel_rfl)) (fun _ _ _ h => h) (Or.inl ⟨by rfl, ?_⟩) ?_ ?_
                            rotate_left
                            · intro w'
                              go_simp
                              with_reducible rfl
                            rotate_left
                            · simp only [Act.put, List.setIfInBounds_toArray, List.set_cons_zero, List.set_cons_succ, i64_w, i32_w]
                              rfl
                            refine done_ (done_of HT_.out (by kernel_rfl)) ?_
                            obtain ⟨Ao45, co45, eo45⟩ := Kd.S_slice HO410.out
                            subst eo45
                            obtain ⟨Ao46, co46, eo46⟩ := Kd.R_slice HO_7.out
                            subst eo46
                            obtain ⟨Ao47, co47, eo47⟩ := Kd.R_slice HO_9.out
                            subst eo47
                            have q48 : ((t374.length : Int) : Int) ≤ ((t406.length : Int) : Int) := of_decide_eq_true (by first | (with_reducible assumption) | assumption)
                            obtain ⟨i048, hi048, _, hsz48, _⟩ := info_parts info22
                            have hroom48 : t406.length ≤ co45 := (Kd.S_reads' HO410.out).2.1
                            have hC48 : Kd.C (Kd.slice 5 (Kd.int .u8)) _ Ao45 t406.length t406 := (Kd.S_reads' HO410.out).2.2
                            have hcut48 := cut_to (P := Tryd.prog) 24 22 .i64 Tryd.underlying24 hi048 Ao45 t406.length co45 (t374.length : Int) (of_decide_eq_true (by first | (with_reducible assumption) | assumption)) q48 hroom48
                            have hr48 := Kd.C_take (m := ((t374.length : Int) : Int).toNat) hC48 (by omega)
                            have hy48 : y411.length = ((t374.length : Int) : Int).toNat := (by rw [Ny411.out, List.length_take]; omega)
                            rw [← Ny411.out] at hr48
                            rw [← hy48] at hcut48
                            have HR414 := Aside0.mk hr48
                            have HC414 := Aside0.mk (show y411.length ≤ co45 from by omega)
                            clear hr48 hC48 hroom48 hi048 hsz48
                            have KY48 := Aside0.mk hy48
                            clear hy48
                            have KL48 := Aside0.mk (show ((t374.length : Int) : Int).toNat ≤ t406.length from by omega)
                            replace q48 := eq_true q48
                            try have q48m := eq_true (by have z_ := of_eq_true q48; simp only [ByteArray.size_extract, Nat.sub_zero] at z_; exact z_)
                            try go_wp2_with (first | (go_at_call 16; (with_reducible refine (transeptlaw04_same.calls kj7 _ _ y411 _ _ t374 true _ ?side1 ?side2 ?side3 ?side4 A30.out).mono ?_); (case side1 => repeat (first | exact (by repeat (first | (with_reducible exact HR414.out) | (with_reducible refine Kd.C_alloc ?_ _) | (with_reducible refine Kd.C_drewN ?_ _) | (with_reducible refine Kd.C_drew ?_) | exact HR414.out)) | (with_reducible refine Kd.C_alloc ?_ _) | (with_reducible refine Kd.C_drewN ?_ _) | (with_reducible refine Kd.C_drew ?_))); (case side2 => exact HC414.out); (case side3 => repeat (first | exact (Kd.R_reads' HO_7.out).2.2 | (with_reducible refine Kd.C_alloc ?_ _) | (with_reducible refine Kd.C_drewN ?_ _) | (with_reducible refine Kd.C_drew ?_))); (case side4 => exact (Kd.R_reads' HO_7.out).2.1); rintro e w' ⟨rfl, ⟨nd, rfl⟩⟩; have q49 : ((t374.length : Int) : Int) ≤ ((t406.length : Int) : Int) := of_decide_eq_true (by first | (with_reducible assumption) | assumption); obtain ⟨i049, hi049, _, hsz49, _⟩ := info_parts info22; have hroom49 : t406.length ≤ co45 := (Kd.S_reads' HO410.out).2.1; have hC49 : Kd.C (Kd.slice 5 (Kd.int .u8)) _ Ao45 t406.length t406 := (Kd.S_reads' HO410.out).2.2; have q049 : (0 : Int) ≤ ((t374.length : Int) : Int) := of_decide_eq_true (by first | (with_reducible assumption) | assumption); have hcut49 := cut_from (P := Tryd.prog) 24 22 .i64 Tryd.underlying24 hi049 1 hsz49 Ao45 t406.length co45 (t374.length : Int) q049 q49; have hr49 := Kd.C_drop (m := ((t374.length : Int) : Int).toNat) (c := co45) hC49 (by omega) hroom49; obtain ⟨A49, hA49⟩ : ∃ A1, A1 = (if co45 = ((t374.length : Int) : Int).toNat then Ao45 else (Ao45 : Option Addr).map (·.add (((t374.length : Int) : Int).toNat * 1))) := ⟨_, rfl⟩; obtain ⟨c49, hc49⟩ : ∃ c1, c1 = co45 - ((t374.length : Int) : Int).toNat := ⟨_, rfl⟩; have hy49 : y416.length = t406.length - ((t374.length : Int) : Int).toNat := (by rw [Ny416.out, List.length_drop] <;> omega); rw [show (t406).drop ((t374.length : Int) : Int).toNat = y416 from Ny416.out.symm] at hr49; replace hr49 : Kd.C (Kd.slice 5 (Kd.int .u8)) _ A49 y416.length y416 := (by rw [hA49]; exact hr49); rw [← hy49, ← hA49, ← hc49] at hcut49; have HR419 := Aside0.mk hr49; have HC419 := Aside0.mk (show y416.length ≤ c49 from by rw [hy49, hc49]; exact Nat.sub_le_sub_right hroom49 _); clear hr49 hC49 hroom49 hi049 hsz49 hc49; have KY49 := Aside0.mk hy49; have KA49 := Aside0.mk hA49; clear hy49 hA49; have KL49 := Aside0.mk (show ((t374.length : Int) : Int).toNat ≤ t406.length from by omega); replace q49 := eq_true q49) | (go_at_call 16; (with_reducible refine (transeptlaw04_same.calls kj7 _ _ y416 _ _ t380 t420 _ ?side1 ?side2 ?side3 ?side4 A34.out).mono ?_); (case side1 => repeat (first | exact (by repeat (first | (with_reducible exact HR419.out) | (with_reducible refine Kd.C_alloc ?_ _) | (with_reducible refine Kd.C_drewN ?_ _) | (with_reducible refine Kd.C_drew ?_) | exact HR419.out)) | (with_reducible refine Kd.C_alloc ?_ _) | (with_reducible refine Kd.C_drewN ?_ _) | (with_reducible refine Kd.C_drew ?_))); (case side2 => exact HC419.out); (case side3 => repeat (first | exact (Kd.R_reads' HO_9.out).2.2 | (with_reducible refine Kd.C_alloc ?_ _) | (with_reducible refine Kd.C_drewN ?_ _) | (with_reducible refine Kd.C_drew ?_))); (case side4 => exact (Kd.R_reads' HO_9.out).2.1); rintro e w' ⟨rfl, ⟨nd, rfl⟩⟩))
                            go_ret
                            exact ⟨by first | rfl | (simp [errW_none, errW_some] <;> rfl) | (simp [*, errW_none, errW_some] <;> rfl), by repeat (first | (with_reducible first | exact HB.out | apply below_alloc | apply pw_below_drewN | apply below_drew1) | exact HB.out)⟩
                          · replace c31 := Bool.eq_false_iff.mpr c31
                            subst c31
                            have H1 : (some false) = some r := by rw [if_neg (show ¬ (false = true) by decide)] at H; exact H
                            clear H
                            have H := H1
                            clear H1
                            exact absurd HT.out (by rw [← Option.some.inj H]; decide)
                        · rw [if_neg c29] at H
                          exact absurd H (by simp)
                      · rw [if_neg c28] at H
                        exact absurd H (by simp)
                    · rw [if_neg c27] at H
                      have c27b0 : ((t406.length : Int) == (wrap64 ((t374.length : Int) + (t380.length : Int)))) = false := beq_eq_false_iff_ne.mpr c27
                      have c27b1 : ((t406.length : Int) != (wrap64 ((t374.length : Int) + (t380.length : Int)))) = true := bne_iff_ne.mpr c27
                      exact absurd HT.out (by rw [← Option.some.inj H]; decide)
                  · rw [if_neg c26] at H
                    have c26b0 : (t407 == (wrap64 ((wrap64 ((t385.length : Int) + (t389.length : Int))) - 4))) = false := beq_eq_false_iff_ne.mpr c26
                    have c26b1 : (t407 != (wrap64 ((wrap64 ((t385.length : Int) + (t389.length : Int))) - 4))) = true := bne_iff_ne.mpr c26
                    exact absurd HT.out (by rw [← Option.some.inj H]; decide)
                · rw [if_neg c25] at H
                  have c25b0 : (t408 == 0) = false := beq_eq_false_iff_ne.mpr c25
                  have c25b1 : (t408 != 0) = true := bne_iff_ne.mpr c25
                  exact absurd HT.out (by rw [← Option.some.inj H]; decide)
              · replace c24 := Bool.eq_false_iff.mpr c24
                subst c24
                have H1 : (some false) = some r := by rw [if_neg (show ¬ (false = true) by decide)] at H; exact H
                clear H
                have H := H1
                clear H1
                exact absurd HT.out (by rw [← Option.some.inj H]; decide)
            · rw [if_neg c22] at H
              exact absurd H (by simp)
          · rw [if_neg c21] at H
            exact absurd H (by simp)
        · rw [if_neg c20] at H
          exact absurd H (by simp)

end Go.Proofs.YtojagnoobaleaaaDoor.Xp
