-- Written by a program of this session (wip/tools/xprint.py), in the manner of the print of the kit.
import Derived.Test.YtmlhlcdamppbfaaDoorXax0
import Derived.Test.YtmlhlcdamppbfaaDoorXax3
import Derived.Test.YtmlhlcdamppbfaaDoorExt
import Derived.Test.YtmlhlcdamppbfaaDoorSh
namespace Go.Proofs.YtmlhlcdamppbfaaDoor.Xa
open Go.RowKit Go.Proofs.YtmlhlcdamppbfaaDoor.Ext Go.Proofs.YtmlhlcdamppbfaaDoorW.PrintWords Go.Proofs.YtmlhlcdamppbfaaDoorW.PrintLast Go.Proofs.YtmlhlcdamppbfaaDoorW.PrintMore
attribute [local go_sem] max2_int min2_int max_two min_two max_three min_three max_four min_four   -- for this text's walks alone
set_option linter.unusedVariables false
set_option linter.unusedSimpArgs false

/-! ### transeptlaw05_EventCuts: function 6 -/
def transeptlaw05_EventCuts.j0 : Nat → Int → List Int → Bool → List Int → Int → Bool → Option (Bool)
 | 0, _, _, _, _, _, _ => none
 | k + 1, x1, x2, x7, x8, x9, x30 => if x30 = true then (if x7 = true then (some (x9 == 1)) else (some false)) else (if (x8.length : Int) = 0 then (none) else (if 0 ≤ (Int.tmod (Go.bits .and .i64 x1 16777215) (x8.length : Int)) then (if (Int.tmod (Go.bits .and .i64 x1 16777215) (x8.length : Int)) ≤ (x8.length : Int) then ((event_Decode.f (x8.take ((Int.tmod (Go.bits .and .i64 x1 16777215) (x8.length : Int)) : Int).toNat)).bind fun bt325 => ((some (([] : List Int) : List Int)).bind fun y338 => (if y338.length + x8.length < 140737488355328 then ((some (y338 ++ x8 : List Int)).bind fun y341 => ((some (([1] : List Int) : List Int)).bind fun y344 => (if y341.length + y344.length < 140737488355328 then ((some (y341 ++ y344 : List Int)).bind fun y347 => (if 0 ≤ (mn (x2.length : Int) 50) then (if (mn (x2.length : Int) 50) ≤ (x2.length : Int) then (if y347.length + (x2.take ((mn (x2.length : Int) 50) : Int).toNat).length < 140737488355328 then ((event_Decode.f (y347 ++ (x2.take ((mn (x2.length : Int) 50) : Int).toNat))).bind fun bt354 => (if x7 = true then (if bt325.2.2.2.2.2.2.2.2.2.2.1 = (Int.tmod (Go.bits .and .i64 x1 16777215) (x8.length : Int)) then (if bt325.2.2.2.2.2.2.2.2.2.2.2 = 2 then (if bt354.2.2.2.2.2.2.2.2.2.2.1 = (x8.length : Int) then (some (bt354.2.2.2.2.2.2.2.2.2.2.2 == 8)) else (some false)) else (some false)) else (some false)) else (some false))) else (none)) else (none)) else (none))) else (none)))) else (none)))) else (none)) else (none)))
def transeptlaw05_EventCuts.f (k : Nat) (a0_0 : Int) (a0_1 : Int) (a0_2 : Int) (a0_3 : ByteArray) (a0_4 : ByteArray) (a0_5 : ByteArray) (a0_6 : ByteArray) (a0_7 : Int) (a0_8 : Int) (a0_9 : Int) (a1 : Int) (l2 : List Int) : Option (Bool) := (transeptlaw05_shown.f).bind fun t306 => ((transeptlaw05_cut.f a0_0 a0_1 a0_2 a0_3 a0_4 a0_5 a0_6 a0_7 a0_8 a0_9).bind fun bt307 => ((event_Encode.f bt307.1 bt307.2.1 bt307.2.2.1 bt307.2.2.2.1 bt307.2.2.2.2.1 bt307.2.2.2.2.2.1 bt307.2.2.2.2.2.2.1 bt307.2.2.2.2.2.2.2.1 bt307.2.2.2.2.2.2.2.2.1 bt307.2.2.2.2.2.2.2.2.2).bind fun bt317 => (if bt317.2 = 0 then (transeptlaw05_EventCuts.j0 k a1 l2 t306 bt317.1 bt317.2 ((bt317.1.length : Int) == 0)) else (transeptlaw05_EventCuts.j0 k a1 l2 t306 bt317.1 bt317.2 true))))
theorem transeptlaw05_EventCuts.mono_l : ∀ k, (∀ y0 y1 y2 y3 y4 y5, LeO (transeptlaw05_EventCuts.j0 k y0 y1 y2 y3 y4 y5) (transeptlaw05_EventCuts.j0 (k + 1) y0 y1 y2 y3 y4 y5))
 | 0 => fun _ _ _ _ _ _ r h => by simp [transeptlaw05_EventCuts.j0] at h
 | k + 1 => by
  have ih0 := transeptlaw05_EventCuts.mono_l k
  ·
   intro y0 y1 y2 y3 y4 y5
   unfold transeptlaw05_EventCuts.j0
   repeat' first
   | (with_reducible exact ih0 _ _ _ _ _ _)
   | (with_reducible exact LeO.refl _)
   | (with_reducible exact LeO.none _)
   | (with_reducible refine LeO.ite ?_ ?_)
   | (with_reducible refine LeO.bind ?_ (fun _ => ?_))
   | exact ih0 _ _ _ _ _ _
   | exact LeO.none _
   | refine LeO.ite ?_ ?_
   | refine LeO.bind ?_ (fun _ => ?_)
theorem transeptlaw05_EventCuts.mono : ∀ a0 a1 a2 a3 a4 a5 a6 a7 a8 a9 a10 a11 k, LeO (transeptlaw05_EventCuts.f k a0 a1 a2 a3 a4 a5 a6 a7 a8 a9 a10 a11) (transeptlaw05_EventCuts.f (k + 1) a0 a1 a2 a3 a4 a5 a6 a7 a8 a9 a10 a11) := by
 intro a0 a1 a2 a3 a4 a5 a6 a7 a8 a9 a10 a11 k
 have ih0 := transeptlaw05_EventCuts.mono_l k
 unfold transeptlaw05_EventCuts.f
 repeat' first
   | (with_reducible exact ih0 _ _ _ _ _ _)
   | (with_reducible exact LeO.refl _)
   | (with_reducible exact LeO.none _)
   | (with_reducible refine LeO.ite ?_ ?_)
   | (with_reducible refine LeO.bind ?_ (fun _ => ?_))
   | exact ih0 _ _ _ _ _ _
   | exact LeO.none _
   | refine LeO.ite ?_ ?_
   | refine LeO.bind ?_ (fun _ => ?_)
def transeptlaw05_EventCuts.T7 : Bool × List (List Nat × List Nat) := (true, [([], []), ([], []), ([0, 1], [0, 1]), ([], []), ([2, 3, 2], [2, 3]), ([], []), ([], []), ([6], [6]), ([7], [7]), ([5, 8], [5, 8]), ([4, 9, 4], [4, 9]), ([10, 10], [10]), ([11], [11]), ([12], [12]), ([12], [12]), ([12], [12]), ([], []), ([16, 13, 11, 0, 1, 2, 3, 4, 5, 6, 7, 8, 9, 10, 11, 12, 13, 16], [13, 16]), ([14, 17, 0, 1, 2, 3, 4, 5, 6, 7, 8, 9, 10, 11, 12, 13, 14, 16, 17], [14]), ([15, 18, 0, 1, 2, 3, 4, 5, 6, 7, 8, 9, 10, 11, 12, 13, 14, 15, 16, 17, 18], [15])])
def transeptlaw05_EventCuts.B7 : List Nat := [0, 0, 3, 0, 15, 0, 0, 64, 192, 480, 1023, 2047, 4095, 8191, 8191, 8191, 0, 81919, 229375, 524287]
theorem transeptlaw05_EventCuts.tab7 : rtab .any (opsOf Tryd.f6 7) = transeptlaw05_EventCuts.T7 := by kernel_rfl
theorem transeptlaw05_EventCuts.bits7 : waitsOk transeptlaw05_EventCuts.T7.2 transeptlaw05_EventCuts.B7 = true := by kernel_rfl
set_option maxHeartbeats 8000000 in
set_option maxRecDepth 100000 in
theorem transeptlaw05_EventCuts.calls (k : Nat) (a0_0 : Int) (a0_1 : Int) (a0_2 : Int) (a0_3 : ByteArray) (a0_4 : ByteArray) (a0_5 : ByteArray) (a0_6 : ByteArray) (a0_7 : Int) (a0_8 : Int) (a0_9 : Int) (a1 : Int) (A2 : Option Addr) (c2 : Nat) (l2 : List Int) (r : Bool) (w : World) (hG : Glob w) (hr2 : Kd.C (Kd.int .u8) w A2 l2.length l2) (hc2 : l2.length ≤ c2) (hT_ : r = true) (h : transeptlaw05_EventCuts.f k a0_0 a0_1 a0_2 a0_3 a0_4 a0_5 a0_6 a0_7 a0_8 a0_9 a1 l2 = some r) :
  Calls Tryd.prog 6 #[.agg #[.int .i64 a0_0, .int .u64 a0_1, .int .u64 a0_2, .string a0_3, .string a0_4, .string a0_5, .string a0_6, .int .i64 a0_7, .int .i64 a0_8, .int .i64 a0_9], .int .i64 a1, .slice A2 l2.length c2] w fun e w' => e = .returned (.bool r) ∧ Below w.heap.size w w' := by
 have hu24 := Tryd.underlying24
 have HG := aM hG
 clear hG
 have HT := aM hT_
 clear hT_
 have HR2 := aM hr2
 have HC2 := aM hc2
 clear hr2 hc2
 have HB := aM (Below.refl w.heap.size w)
 have H : ((transeptlaw05_shown.f).bind fun t306 => ((transeptlaw05_cut.f a0_0 a0_1 a0_2 a0_3 a0_4 a0_5 a0_6 a0_7 a0_8 a0_9).bind fun bt307 => ((event_Encode.f bt307.1 bt307.2.1 bt307.2.2.1 bt307.2.2.2.1 bt307.2.2.2.2.1 bt307.2.2.2.2.2.1 bt307.2.2.2.2.2.2.1 bt307.2.2.2.2.2.2.2.1 bt307.2.2.2.2.2.2.2.2.1 bt307.2.2.2.2.2.2.2.2.2).bind fun bt317 => (if bt317.2 = 0 then (transeptlaw05_EventCuts.j0 k a1 l2 t306 bt317.1 bt317.2 ((bt317.1.length : Int) == 0)) else (transeptlaw05_EventCuts.j0 k a1 l2 t306 bt317.1 bt317.2 true))))) = some r := h
 clear h
 replace H := Option.bind_eq_some_iff.mp H
 obtain ⟨t306, A40, H⟩ := H
 replace H : ((transeptlaw05_cut.f a0_0 a0_1 a0_2 a0_3 a0_4 a0_5 a0_6 a0_7 a0_8 a0_9).bind fun bt307 => ((event_Encode.f bt307.1 bt307.2.1 bt307.2.2.1 bt307.2.2.2.1 bt307.2.2.2.2.1 bt307.2.2.2.2.2.1 bt307.2.2.2.2.2.2.1 bt307.2.2.2.2.2.2.2.1 bt307.2.2.2.2.2.2.2.2.1 bt307.2.2.2.2.2.2.2.2.2).bind fun bt317 => (if bt317.2 = 0 then (transeptlaw05_EventCuts.j0 k a1 l2 t306 bt317.1 bt317.2 ((bt317.1.length : Int) == 0)) else (transeptlaw05_EventCuts.j0 k a1 l2 t306 bt317.1 bt317.2 true)))) = some r := H
 have A4 := aM A40
 clear A40
 replace H := Option.bind_eq_some_iff.mp H
 obtain ⟨⟨t307, t308, t309, t310, t311, t312, t313, t314, t315, t316⟩, A50, H⟩ := H
 replace H : ((event_Encode.f t307 t308 t309 t310 t311 t312 t313 t314 t315 t316).bind fun bt317 => (if bt317.2 = 0 then (transeptlaw05_EventCuts.j0 k a1 l2 t306 bt317.1 bt317.2 ((bt317.1.length : Int) == 0)) else (transeptlaw05_EventCuts.j0 k a1 l2 t306 bt317.1 bt317.2 true))) = some r := H
 have A5 := aM A50
 clear A50
 replace H := Option.bind_eq_some_iff.mp H
 obtain ⟨⟨t317, t320⟩, A60, H⟩ := H
 replace H : (if t320 = 0 then (transeptlaw05_EventCuts.j0 k a1 l2 t306 t317 t320 ((t317.length : Int) == 0)) else (transeptlaw05_EventCuts.j0 k a1 l2 t306 t317 t320 true)) = some r := H
 have A6 := aM A60
 clear A60
 have HC7 := aM H
 clear H
 go_enter Tryd.func6, Tryd.ntmps6
 go_upto_region 3 with (first | ((with_reducible refine gate_dst (N := 3) rfl ?_); (try (refine gate_guard (by rfl) ?_; dsimp only)); refine box_event ?hg (N := 3) ?hd (cs := #[.int .i64 a0_0, .int .u64 a0_1, .int .u64 a0_2, .string a0_3, .string a0_4, .string a0_5, .string a0_6, .int .i64 a0_7, .int .i64 a0_8, .int .i64 a0_9]) (t := 24) ?hr ?_; (case hd => rfl); (case hg => rfl); (case hr => first | (go_simp; done) | (go_simp; rfl)); intro gb305 hg w8 hbox hb; have n0_ := aM (lS (by repeat (first | (with_reducible first | exact HB.out | apply lA | apply lN | apply lD) | exact HB.out)) hb); have n1_ := aM (hbox); have n2_ := aM ((by rw [hg]; exact (lZ (by repeat (first | (with_reducible first | exact HB.out | apply lA | apply lN | apply lD) | exact HB.out))) : w.heap.size ≤ gb305)); have n3_ := aM ((by rw [hg]; exact (lZ (by repeat (first | (with_reducible first | exact HB.out | apply lA | apply lN | apply lD) | exact HB.out))) : w.heap.size ≤ gb305)); clear HB; have HB := n0_; have BK305 := n1_; have GW305 := n2_; have GE305 := n3_; clear n0_ n1_ n2_ n3_; clear hb hbox hg) | ((with_reducible refine gate_callee (f := 11) rfl ?_); refine goesL_ (some 17) rfl rfl Tryd.func11 (by kernel_rfl) rfl #[] rfl (by (try simp only [List.map_toArray, List.map_cons, List.map_nil]); first | done | rfl | (simp only [List.length_drop, List.length_take]; rfl)) ?_; (with_reducible refine (transeptlaw05_shown.calls  t306 _ ?side1 A4.out).mono ?_); (case side1 => first | exact HG.out | exact Glob.below HG.out HB.out | exact Glob.drewN (Glob.below HG.out HB.out) _ | exact Glob.drewN HG.out _ | (refine Glob.below HG.out ?_; (repeat (first | (with_reducible first | exact HB.out | apply lA | apply lN | apply lD | refine lT ?_ GE305.out) | exact HB.out)); done) | (repeat (first | exact HG.out | (with_reducible refine Glob.drewN ?_ _) | (with_reducible refine Glob.drew ?_) | (with_reducible refine Glob.alloc ?_ _)); done)); rintro e w9 ⟨rfl, hb⟩; refine ⟨_, rfl, ?_⟩; have n0_ := aM (bB (g := gb305) (o := .cells #[.int .i64 a0_0, .int .u64 a0_1, .int .u64 a0_2, .string a0_3, .string a0_4, .string a0_5, .string a0_6, .int .i64 a0_7, .int .i64 a0_8, .int .i64 a0_9] 24 (0, 0)) (by (with_reducible repeat first | refine bN ?_ _ | refine bD ?_ | refine bA ?_ _); exact BK305.out) hb); have n1_ := aM (lS (by repeat (first | (with_reducible first | exact HB.out | apply lA | apply lN | apply lD | refine lT ?_ GE305.out) | exact HB.out)) hb); clear BK305; clear HB; have BK305 := n0_; have HB := n1_; clear n0_ n1_; (try clear hb); (try clear hb2); (try clear hk); (try clear hi); have hcz10_0 : w9.cell? ⟨gb305, 0, none⟩ = some (.int .i64 a0_0) := (blk_cell BK305.out 0).trans rfl; have hcz10_1 : w9.cell? ⟨gb305, 1, none⟩ = some (.int .u64 a0_1) := (blk_cell BK305.out 1).trans rfl; have hcz10_2 : w9.cell? ⟨gb305, 2, none⟩ = some (.int .u64 a0_2) := (blk_cell BK305.out 2).trans rfl; have hcz10_3 : w9.cell? ⟨gb305, 3, none⟩ = some (.string a0_3) := (blk_cell BK305.out 3).trans rfl; have hcz10_4 : w9.cell? ⟨gb305, 4, none⟩ = some (.string a0_4) := (blk_cell BK305.out 4).trans rfl; have hcz10_5 : w9.cell? ⟨gb305, 5, none⟩ = some (.string a0_5) := (blk_cell BK305.out 5).trans rfl; have hcz10_6 : w9.cell? ⟨gb305, 6, none⟩ = some (.string a0_6) := (blk_cell BK305.out 6).trans rfl; have hcz10_7 : w9.cell? ⟨gb305, 7, none⟩ = some (.int .i64 a0_7) := (blk_cell BK305.out 7).trans rfl; have hcz10_8 : w9.cell? ⟨gb305, 8, none⟩ = some (.int .i64 a0_8) := (blk_cell BK305.out 8).trans rfl; have hcz10_9 : w9.cell? ⟨gb305, 9, none⟩ = some (.int .i64 a0_9) := (blk_cell BK305.out 9).trans rfl; have hfz10_0 := blk_frozen BK305.out 0; have hfz10_1 := blk_frozen BK305.out 1; have hfz10_2 := blk_frozen BK305.out 2; have hfz10_3 := blk_frozen BK305.out 3; have hfz10_4 := blk_frozen BK305.out 4; have hfz10_5 := blk_frozen BK305.out 5; have hfz10_6 := blk_frozen BK305.out 6; have hfz10_7 := blk_frozen BK305.out 7; have hfz10_8 := blk_frozen BK305.out 8; have hfz10_9 := blk_frozen BK305.out 9) | ((with_reducible refine gate_callee (f := 12) rfl ?_); refine goesL_ (some 20) rfl rfl Tryd.func12 (by kernel_rfl) rfl #[.agg #[.int .i64 a0_0, .int .u64 a0_1, .int .u64 a0_2, .string a0_3, .string a0_4, .string a0_5, .string a0_6, .int .i64 a0_7, .int .i64 a0_8, .int .i64 a0_9]] rfl (by (try simp only [List.map_toArray, List.map_cons, List.map_nil]); first | done | rfl | (simp only [List.length_drop, List.length_take]; rfl)) ?_; (with_reducible refine (transeptlaw05_cut.calls a0_0 a0_1 a0_2 a0_3 a0_4 a0_5 a0_6 a0_7 a0_8 a0_9 t307 t308 t309 t310 t311 t312 t313 t314 t315 t316 _ A5.out).mono ?_); rintro e w11 ⟨rfl, hb⟩; refine ⟨_, rfl, ?_⟩; have n0_ := aM (bB (g := gb305) (o := .cells #[.int .i64 a0_0, .int .u64 a0_1, .int .u64 a0_2, .string a0_3, .string a0_4, .string a0_5, .string a0_6, .int .i64 a0_7, .int .i64 a0_8, .int .i64 a0_9] 24 (0, 0)) (by (with_reducible repeat first | refine bN ?_ _ | refine bD ?_ | refine bA ?_ _); exact BK305.out) hb); have n1_ := aM (lS (by repeat (first | (with_reducible first | exact HB.out | apply lA | apply lN | apply lD | refine lT ?_ GE305.out) | exact HB.out)) hb); clear BK305; clear HB; have BK305 := n0_; have HB := n1_; clear n0_ n1_; (try clear hb); (try clear hb2); (try clear hk); (try clear hi)) | ((with_reducible refine gate_callee (f := 13) rfl ?_); refine goesL_ (some 21) rfl rfl Tryd.func13 (by kernel_rfl) rfl #[.agg #[.int .i64 t307, .int .u64 t308, .int .u64 t309, .string t310, .string t311, .string t312, .string t313, .int .i64 t314, .int .i64 t315, .int .i64 t316]] rfl (by (try simp only [List.map_toArray, List.map_cons, List.map_nil]); first | done | rfl | (simp only [List.length_drop, List.length_take]; rfl)) ?_; (with_reducible refine (event_Encode.calls t307 t308 t309 t310 t311 t312 t313 t314 t315 t316 t317 t320 _ ?side1 A6.out).mono ?_); (case side1 => first | exact HG.out | exact Glob.below HG.out HB.out | exact Glob.drewN (Glob.below HG.out HB.out) _ | exact Glob.drewN HG.out _ | (refine Glob.below HG.out ?_; (repeat (first | (with_reducible first | exact HB.out | apply lA | apply lN | apply lD | refine lT ?_ GE305.out) | exact HB.out)); done) | (repeat (first | exact HG.out | (with_reducible refine Glob.drewN ?_ _) | (with_reducible refine Glob.drew ?_) | (with_reducible refine Glob.alloc ?_ _)); done)); rintro e w12 ⟨v318, rfl, ho0, hb⟩; refine ⟨_, rfl, ?_⟩; have n0_ := aM (rL ho0 (lZ (by repeat (first | (with_reducible first | exact HB.out | apply lA | apply lN | apply lD | refine lT ?_ GE305.out) | exact HB.out)))); have n1_ := aM (bB (g := gb305) (o := .cells #[.int .i64 a0_0, .int .u64 a0_1, .int .u64 a0_2, .string a0_3, .string a0_4, .string a0_5, .string a0_6, .int .i64 a0_7, .int .i64 a0_8, .int .i64 a0_9] 24 (0, 0)) (by (with_reducible repeat first | refine bN ?_ _ | refine bD ?_ | refine bA ?_ _); exact BK305.out) hb); have n2_ := aM (lS (by repeat (first | (with_reducible first | exact HB.out | apply lA | apply lN | apply lD | refine lT ?_ GE305.out) | exact HB.out)) hb); clear BK305; clear HB; have HO319 := n0_; have BK305 := n1_; have HB := n2_; clear n0_ n1_ n2_; (try clear hb); (try clear hb2); (try clear hk); (try clear hi); (try clear ho0)))
 (try simp only [Act.put, sA, sZ, sS])
 go_cut [30] (fun v30 wc => ∃ (kq : Nat) (x30_6 : Bool), v30 = .bool x30_6 ∧ Aside0 (transeptlaw05_EventCuts.j0 kq a1 l2 t306 t317 t320 x30_6 = some r) ∧ Aside0 (kq ≤ k) ∧ Aside0 (Kd.R (Kd.int .u8) 5 wc w.heap.size (fun _ => True) v318 t317) ∧ Aside0 (wc.heap[gb305]? = some (.cells #[.int .i64 a0_0, .int .u64 a0_1, .int .u64 a0_2, .string a0_3, .string a0_4, .string a0_5, .string a0_6, .int .i64 a0_7, .int .i64 a0_8, .int .i64 a0_9] 24 (0, 0))) ∧ Aside0 (Below w.heap.size w wc))
 case first =>
  have H := HC7.out
  clear HC7
  by_cases c13 : t320 = 0
  ·
   rw [if_pos c13] at H
   have c13b0 : (t320 == 0) = true := beq_iff_eq.mpr c13
   have c13b1 : (t320 != 0) = false := bne_eq_false_iff_eq.mpr c13
   clear c13
   (first | rw [c13b0] | (simp only [i64_w, i32_w]; rw [c13b0]) | skip)
   have H' := aM H
   clear H
   obtain ⟨Ao14, co14, eo14⟩ := Kd.R_slice HO319.out
   subst eo14
   go_wp2
   go_meet
   case rel => exact ⟨_, (((t317.length : Int) == 0)), (by first | rfl | (simp; done) | (simp [*]; done)), H', ⟨by first | omega | exact Nat.le_refl _⟩, ⟨by (with_reducible repeat first | apply rA | apply rN | apply rD); exact HO319.out⟩, ⟨by (with_reducible repeat first | refine bN ?_ _ | refine bD ?_ | refine bA ?_ _); exact BK305.out⟩, ⟨by repeat (first | (with_reducible first | exact HB.out | apply lA | apply lN | apply lD | refine lT ?_ GE305.out) | exact HB.out)⟩⟩
  ·
   rw [if_neg c13] at H
   have c13b0 : (t320 == 0) = false := beq_eq_false_iff_ne.mpr c13
   have c13b1 : (t320 != 0) = true := bne_iff_ne.mpr c13
   (first | rw [c13b0] | (simp only [i64_w, i32_w]; rw [c13b0]) | skip)
   have H' := aM H
   clear H
   go_wp2
   go_meet
   case rel => exact ⟨_, (true), (by first | rfl | (simp; done) | (simp [*]; done)), H', ⟨by first | omega | exact Nat.le_refl _⟩, ⟨by (with_reducible repeat first | apply rA | apply rN | apply rD); exact HO319.out⟩, ⟨by (with_reducible repeat first | refine bN ?_ _ | refine bD ?_ | refine bA ?_ _); exact BK305.out⟩, ⟨by repeat (first | (with_reducible first | exact HB.out | apply lA | apply lN | apply lD | refine lT ?_ GE305.out) | exact HB.out)⟩⟩
 case rest =>
  clear HC7
  try clear c1
  try clear c2
  try clear p2
  try clear c6
  try clear c11
  try clear c12
  try clear c13
  try clear c13b0
  try clear c13b1
  try clear hcz10_0
  try clear hcz10_1
  try clear hcz10_2
  try clear hcz10_3
  try clear hcz10_4
  try clear hcz10_5
  try clear hcz10_6
  try clear hcz10_7
  try clear hcz10_8
  try clear hcz10_9
  try clear hfz10_0
  try clear hfz10_1
  try clear hfz10_2
  try clear hfz10_3
  try clear hfz10_4
  try clear hfz10_5
  try clear hfz10_6
  try clear hfz10_7
  try clear hfz10_8
  try clear hfz10_9
  obtain ⟨kq, x30_6, rfl, HA, HJ6, HO_8, BK305, HB⟩ := hcut
  cases kq with
  | zero => exact absurd HA.out (by simp [transeptlaw05_EventCuts.j0])
  | succ kj6 =>
   have H := HA.out
   clear HA
   simp only [transeptlaw05_EventCuts.j0] at H
   by_cases c15 : x30_6 = true
   ·
    subst c15
    have H1 : (if t306 = true then (some (t320 == 1)) else (some false)) = some r := by rw [if_pos rfl] at H; exact H
    clear H
    have H := H1
    clear H1
    by_cases c16 : t306 = true
    ·
     subst c16
     have H1 : (some (t320 == 1)) = some r := by rw [if_pos rfl] at H; exact H
     clear H
     have H := H1
     clear H1
     obtain rfl := Option.some.inj H
     go_wp2
     go_ret
     exact ⟨by first | rfl | (simp [errW_none, errW_some] <;> rfl) | (simp [*, errW_none, errW_some] <;> rfl), by repeat (first | (with_reducible first | exact HB.out | apply lA | apply lN | apply lD | refine lT ?_ GE305.out) | exact HB.out)⟩
    ·
     replace c16 := Bool.eq_false_iff.mpr c16
     subst c16
     have H1 : (some false) = some r := by rw [if_neg (show ¬ (false = true) by decide)] at H; exact H
     clear H
     have H := H1
     clear H1
     exact absurd HT.out (by rw [← Option.some.inj H]; decide)
   ·
    replace c15 := Bool.eq_false_iff.mpr c15
    subst c15
    have H1 : (if (t317.length : Int) = 0 then (none) else (if 0 ≤ (Int.tmod (Go.bits .and .i64 a1 16777215) (t317.length : Int)) then (if (Int.tmod (Go.bits .and .i64 a1 16777215) (t317.length : Int)) ≤ (t317.length : Int) then ((event_Decode.f (t317.take ((Int.tmod (Go.bits .and .i64 a1 16777215) (t317.length : Int)) : Int).toNat)).bind fun bt325 => ((some (([] : List Int) : List Int)).bind fun y338 => (if y338.length + t317.length < 140737488355328 then ((some (y338 ++ t317 : List Int)).bind fun y341 => ((some (([1] : List Int) : List Int)).bind fun y344 => (if y341.length + y344.length < 140737488355328 then ((some (y341 ++ y344 : List Int)).bind fun y347 => (if 0 ≤ (mn (l2.length : Int) 50) then (if (mn (l2.length : Int) 50) ≤ (l2.length : Int) then (if y347.length + (l2.take ((mn (l2.length : Int) 50) : Int).toNat).length < 140737488355328 then ((event_Decode.f (y347 ++ (l2.take ((mn (l2.length : Int) 50) : Int).toNat))).bind fun bt354 => (if t306 = true then (if bt325.2.2.2.2.2.2.2.2.2.2.1 = (Int.tmod (Go.bits .and .i64 a1 16777215) (t317.length : Int)) then (if bt325.2.2.2.2.2.2.2.2.2.2.2 = 2 then (if bt354.2.2.2.2.2.2.2.2.2.2.1 = (t317.length : Int) then (some (bt354.2.2.2.2.2.2.2.2.2.2.2 == 8)) else (some false)) else (some false)) else (some false)) else (some false))) else (none)) else (none)) else (none))) else (none)))) else (none)))) else (none)) else (none))) = some r := by rw [if_neg (show ¬ (false = true) by decide)] at H; exact H
    clear H
    have H := H1
    clear H1
    by_cases c17 : (t317.length : Int) = 0
    ·
     rw [if_pos c17] at H
     exact absurd H (by simp)
    ·
     rw [if_neg c17] at H
     have c17b0 : ((t317.length : Int) == 0) = false := beq_eq_false_iff_ne.mpr c17
     have c17b1 : ((t317.length : Int) != 0) = true := bne_iff_ne.mpr c17
     have c17b2 : ¬ (t317 = []) := fun h_ => c17 (by rw [h_]; rfl)
     obtain ⟨ji18, hji18⟩ : ∃ j_ : Int, (Int.tmod (Go.bits .and .i64 a1 16777215) (t317.length : Int)) = j_ := ⟨_, rfl⟩
     replace H : (if 0 ≤ (ji18) then (if (ji18) ≤ (t317.length : Int) then ((event_Decode.f (t317.take ((ji18) : Int).toNat)).bind fun bt325 => ((some (([] : List Int) : List Int)).bind fun y338 => (if y338.length + t317.length < 140737488355328 then ((some (y338 ++ t317 : List Int)).bind fun y341 => ((some (([1] : List Int) : List Int)).bind fun y344 => (if y341.length + y344.length < 140737488355328 then ((some (y341 ++ y344 : List Int)).bind fun y347 => (if 0 ≤ (mn (l2.length : Int) 50) then (if (mn (l2.length : Int) 50) ≤ (l2.length : Int) then (if y347.length + (l2.take ((mn (l2.length : Int) 50) : Int).toNat).length < 140737488355328 then ((event_Decode.f (y347 ++ (l2.take ((mn (l2.length : Int) 50) : Int).toNat))).bind fun bt354 => (if t306 = true then (if bt325.2.2.2.2.2.2.2.2.2.2.1 = (ji18) then (if bt325.2.2.2.2.2.2.2.2.2.2.2 = 2 then (if bt354.2.2.2.2.2.2.2.2.2.2.1 = (t317.length : Int) then (some (bt354.2.2.2.2.2.2.2.2.2.2.2 == 8)) else (some false)) else (some false)) else (some false)) else (some false))) else (none)) else (none)) else (none))) else (none)))) else (none)))) else (none)) else (none)) = some r := by first | (rw [hji18] at H; exact H) | (simp only [hji18] at H ⊢; exact H)
     by_cases c19 : 0 ≤ (ji18)
     ·
      rw [if_pos c19] at H
      have c19b0 := eq_true c19
      have c19b1 : decide (0 ≤ (ji18)) = true := decide_eq_true c19
      clear c19
      by_cases c20 : (ji18) ≤ (t317.length : Int)
      ·
       rw [if_pos c20] at H
       have c20b0 := eq_true c20
       have c20b1 : decide ((ji18) ≤ (t317.length : Int)) = true := decide_eq_true c20
       clear c20
       obtain ⟨y321, hy321⟩ : ∃ y_ : List Int, y_ = (t317.take ((ji18) : Int).toNat) := ⟨_, rfl⟩
       replace H : ((event_Decode.f y321).bind fun bt325 => ((some (([] : List Int) : List Int)).bind fun y338 => (if y338.length + t317.length < 140737488355328 then ((some (y338 ++ t317 : List Int)).bind fun y341 => ((some (([1] : List Int) : List Int)).bind fun y344 => (if y341.length + y344.length < 140737488355328 then ((some (y341 ++ y344 : List Int)).bind fun y347 => (if 0 ≤ (mn (l2.length : Int) 50) then (if (mn (l2.length : Int) 50) ≤ (l2.length : Int) then (if y347.length + (l2.take ((mn (l2.length : Int) 50) : Int).toNat).length < 140737488355328 then ((event_Decode.f (y347 ++ (l2.take ((mn (l2.length : Int) 50) : Int).toNat))).bind fun bt354 => (if t306 = true then (if bt325.2.2.2.2.2.2.2.2.2.2.1 = (ji18) then (if bt325.2.2.2.2.2.2.2.2.2.2.2 = 2 then (if bt354.2.2.2.2.2.2.2.2.2.2.1 = (t317.length : Int) then (some (bt354.2.2.2.2.2.2.2.2.2.2.2 == 8)) else (some false)) else (some false)) else (some false)) else (some false))) else (none)) else (none)) else (none))) else (none)))) else (none)))) = some r := by first | (rw [hy321]; with_reducible exact H) | (have H2_ := (Option.bind_some _ _).symm.trans H; rw [hy321]; with_reducible exact H2_) | (have H2_ := (Option.bind_some _ _).symm.trans H; with_reducible exact H2_) | with_reducible exact H | (rw [hy321]; exact H) | exact H
       have Ny321 := aM hy321
       clear hy321
       replace H := Option.bind_eq_some_iff.mp H
       obtain ⟨⟨t325, t326, t327, t328, t329, t330, t331, t332, t333, t334, t335, t336⟩, A210, H⟩ := H
       replace H : ((some (([] : List Int) : List Int)).bind fun y338 => (if y338.length + t317.length < 140737488355328 then ((some (y338 ++ t317 : List Int)).bind fun y341 => ((some (([1] : List Int) : List Int)).bind fun y344 => (if y341.length + y344.length < 140737488355328 then ((some (y341 ++ y344 : List Int)).bind fun y347 => (if 0 ≤ (mn (l2.length : Int) 50) then (if (mn (l2.length : Int) 50) ≤ (l2.length : Int) then (if y347.length + (l2.take ((mn (l2.length : Int) 50) : Int).toNat).length < 140737488355328 then ((event_Decode.f (y347 ++ (l2.take ((mn (l2.length : Int) 50) : Int).toNat))).bind fun bt354 => (if t306 = true then (if t335 = (ji18) then (if t336 = 2 then (if bt354.2.2.2.2.2.2.2.2.2.2.1 = (t317.length : Int) then (some (bt354.2.2.2.2.2.2.2.2.2.2.2 == 8)) else (some false)) else (some false)) else (some false)) else (some false))) else (none)) else (none)) else (none))) else (none)))) else (none))) = some r := H
       have A21 := aM A210
       clear A210
       obtain ⟨y338, hy338⟩ : ∃ y_ : List Int, y_ = (([] : List Int)) := ⟨_, rfl⟩
       replace H : (if y338.length + t317.length < 140737488355328 then ((some (y338 ++ t317 : List Int)).bind fun y341 => ((some (([1] : List Int) : List Int)).bind fun y344 => (if y341.length + y344.length < 140737488355328 then ((some (y341 ++ y344 : List Int)).bind fun y347 => (if 0 ≤ (mn (l2.length : Int) 50) then (if (mn (l2.length : Int) 50) ≤ (l2.length : Int) then (if y347.length + (l2.take ((mn (l2.length : Int) 50) : Int).toNat).length < 140737488355328 then ((event_Decode.f (y347 ++ (l2.take ((mn (l2.length : Int) 50) : Int).toNat))).bind fun bt354 => (if t306 = true then (if t335 = (ji18) then (if t336 = 2 then (if bt354.2.2.2.2.2.2.2.2.2.2.1 = (t317.length : Int) then (some (bt354.2.2.2.2.2.2.2.2.2.2.2 == 8)) else (some false)) else (some false)) else (some false)) else (some false))) else (none)) else (none)) else (none))) else (none)))) else (none)) = some r := by first | (rw [hy338]; with_reducible exact H) | (have H2_ := (Option.bind_some _ _).symm.trans H; rw [hy338]; with_reducible exact H2_) | (have H2_ := (Option.bind_some _ _).symm.trans H; with_reducible exact H2_) | with_reducible exact H | (rw [hy338]; exact H) | exact H
       have Ny338 := aM hy338
       clear hy338
       by_cases c22 : y338.length + t317.length < 140737488355328
       ·
        rw [if_pos c22] at H
        have LMc22 := aM c22
        clear c22
        obtain ⟨y341, hy341⟩ : ∃ y_ : List Int, y_ = (y338 ++ t317) := ⟨_, rfl⟩
        replace H : ((some (([1] : List Int) : List Int)).bind fun y344 => (if y341.length + y344.length < 140737488355328 then ((some (y341 ++ y344 : List Int)).bind fun y347 => (if 0 ≤ (mn (l2.length : Int) 50) then (if (mn (l2.length : Int) 50) ≤ (l2.length : Int) then (if y347.length + (l2.take ((mn (l2.length : Int) 50) : Int).toNat).length < 140737488355328 then ((event_Decode.f (y347 ++ (l2.take ((mn (l2.length : Int) 50) : Int).toNat))).bind fun bt354 => (if t306 = true then (if t335 = (ji18) then (if t336 = 2 then (if bt354.2.2.2.2.2.2.2.2.2.2.1 = (t317.length : Int) then (some (bt354.2.2.2.2.2.2.2.2.2.2.2 == 8)) else (some false)) else (some false)) else (some false)) else (some false))) else (none)) else (none)) else (none))) else (none))) = some r := by first | (rw [hy341]; with_reducible exact H) | (have H2_ := (Option.bind_some _ _).symm.trans H; rw [hy341]; with_reducible exact H2_) | (have H2_ := (Option.bind_some _ _).symm.trans H; with_reducible exact H2_) | with_reducible exact H | (rw [hy341]; exact H) | exact H
        have Ny341 := aM hy341
        clear hy341
        obtain ⟨y344, hy344⟩ : ∃ y_ : List Int, y_ = (([1] : List Int)) := ⟨_, rfl⟩
        replace H : (if y341.length + y344.length < 140737488355328 then ((some (y341 ++ y344 : List Int)).bind fun y347 => (if 0 ≤ (mn (l2.length : Int) 50) then (if (mn (l2.length : Int) 50) ≤ (l2.length : Int) then (if y347.length + (l2.take ((mn (l2.length : Int) 50) : Int).toNat).length < 140737488355328 then ((event_Decode.f (y347 ++ (l2.take ((mn (l2.length : Int) 50) : Int).toNat))).bind fun bt354 => (if t306 = true then (if t335 = (ji18) then (if t336 = 2 then (if bt354.2.2.2.2.2.2.2.2.2.2.1 = (t317.length : Int) then (some (bt354.2.2.2.2.2.2.2.2.2.2.2 == 8)) else (some false)) else (some false)) else (some false)) else (some false))) else (none)) else (none)) else (none))) else (none)) = some r := by first | (rw [hy344]; with_reducible exact H) | (have H2_ := (Option.bind_some _ _).symm.trans H; rw [hy344]; with_reducible exact H2_) | (have H2_ := (Option.bind_some _ _).symm.trans H; with_reducible exact H2_) | with_reducible exact H | (rw [hy344]; exact H) | exact H
        have Ny344 := aM hy344
        clear hy344
        by_cases c23 : y341.length + y344.length < 140737488355328
        ·
         rw [if_pos c23] at H
         have LMc23 := aM c23
         clear c23
         obtain ⟨y347, hy347⟩ : ∃ y_ : List Int, y_ = (y341 ++ y344) := ⟨_, rfl⟩
         replace H : (if 0 ≤ (mn (l2.length : Int) 50) then (if (mn (l2.length : Int) 50) ≤ (l2.length : Int) then (if y347.length + (l2.take ((mn (l2.length : Int) 50) : Int).toNat).length < 140737488355328 then ((event_Decode.f (y347 ++ (l2.take ((mn (l2.length : Int) 50) : Int).toNat))).bind fun bt354 => (if t306 = true then (if t335 = (ji18) then (if t336 = 2 then (if bt354.2.2.2.2.2.2.2.2.2.2.1 = (t317.length : Int) then (some (bt354.2.2.2.2.2.2.2.2.2.2.2 == 8)) else (some false)) else (some false)) else (some false)) else (some false))) else (none)) else (none)) else (none)) = some r := by first | (rw [hy347]; with_reducible exact H) | (have H2_ := (Option.bind_some _ _).symm.trans H; rw [hy347]; with_reducible exact H2_) | (have H2_ := (Option.bind_some _ _).symm.trans H; with_reducible exact H2_) | with_reducible exact H | (rw [hy347]; exact H) | exact H
         have Ny347 := aM hy347
         clear hy347
         obtain ⟨ji24, hji24⟩ : ∃ j_ : Int, (mn (l2.length : Int) 50) = j_ := ⟨_, rfl⟩
         replace H : (if 0 ≤ (ji24) then (if (ji24) ≤ (l2.length : Int) then (if y347.length + (l2.take ((ji24) : Int).toNat).length < 140737488355328 then ((event_Decode.f (y347 ++ (l2.take ((ji24) : Int).toNat))).bind fun bt354 => (if t306 = true then (if t335 = (ji18) then (if t336 = 2 then (if bt354.2.2.2.2.2.2.2.2.2.2.1 = (t317.length : Int) then (some (bt354.2.2.2.2.2.2.2.2.2.2.2 == 8)) else (some false)) else (some false)) else (some false)) else (some false))) else (none)) else (none)) else (none)) = some r := by first | (rw [hji24] at H; exact H) | (simp only [hji24] at H ⊢; exact H)
         (try rw [hji24] at A21)
         have hji24_ : (if 50 < (l2.length : Int) then 50 else (l2.length : Int)) = ji24 := hji24
         by_cases c25 : 0 ≤ (ji24)
         ·
          rw [if_pos c25] at H
          have c25b0 := eq_true c25
          have c25b1 : decide (0 ≤ (ji24)) = true := decide_eq_true c25
          clear c25
          by_cases c26 : (ji24) ≤ (l2.length : Int)
          ·
           rw [if_pos c26] at H
           have c26b0 := eq_true c26
           have c26b1 : decide ((ji24) ≤ (l2.length : Int)) = true := decide_eq_true c26
           clear c26
           by_cases c27 : y347.length + (l2.take ((ji24) : Int).toNat).length < 140737488355328
           ·
            rw [if_pos c27] at H
            have LMc27 := aM c27
            clear c27
            obtain ⟨y351, hy351⟩ : ∃ y_ : List Int, y_ = (y347 ++ (l2.take ((ji24) : Int).toNat)) := ⟨_, rfl⟩
            replace H : ((event_Decode.f y351).bind fun bt354 => (if t306 = true then (if t335 = (ji18) then (if t336 = 2 then (if bt354.2.2.2.2.2.2.2.2.2.2.1 = (t317.length : Int) then (some (bt354.2.2.2.2.2.2.2.2.2.2.2 == 8)) else (some false)) else (some false)) else (some false)) else (some false))) = some r := by first | (rw [hy351]; with_reducible exact H) | (have H2_ := (Option.bind_some _ _).symm.trans H; rw [hy351]; with_reducible exact H2_) | (have H2_ := (Option.bind_some _ _).symm.trans H; with_reducible exact H2_) | with_reducible exact H | (rw [hy351]; exact H) | exact H
            have Ny351 := aM hy351
            clear hy351
            replace H := Option.bind_eq_some_iff.mp H
            obtain ⟨⟨t354, t355, t356, t357, t358, t359, t360, t361, t362, t363, t364, t365⟩, A280, H⟩ := H
            replace H : (if t306 = true then (if t335 = (ji18) then (if t336 = 2 then (if t364 = (t317.length : Int) then (some (t365 == 8)) else (some false)) else (some false)) else (some false)) else (some false)) = some r := H
            have A28 := aM A280
            clear A280
            by_cases c29 : t306 = true
            ·
             subst c29
             have H1 : (if t335 = (ji18) then (if t336 = 2 then (if t364 = (t317.length : Int) then (some (t365 == 8)) else (some false)) else (some false)) else (some false)) = some r := by rw [if_pos rfl] at H; exact H
             clear H
             have H := H1
             clear H1
             by_cases c30 : t335 = (ji18)
             ·
              rw [if_pos c30] at H
              have c30b0 : (t335 == (ji18)) = true := beq_iff_eq.mpr c30
              have c30b1 : (t335 != (ji18)) = false := bne_eq_false_iff_eq.mpr c30
              clear c30
              by_cases c31 : t336 = 2
              ·
               rw [if_pos c31] at H
               have c31b0 : (t336 == 2) = true := beq_iff_eq.mpr c31
               have c31b1 : (t336 != 2) = false := bne_eq_false_iff_eq.mpr c31
               clear c31
               by_cases c32 : t364 = (t317.length : Int)
               ·
                rw [if_pos c32] at H
                have c32b0 : (t364 == (t317.length : Int)) = true := beq_iff_eq.mpr c32
                have c32b1 : (t364 != (t317.length : Int)) = false := bne_eq_false_iff_eq.mpr c32
                clear c32
                obtain rfl := Option.some.inj H
                obtain ⟨Ao33, co33, eo33⟩ := Kd.R_slice HO_8.out
                subst eo33
                have q34 : ((ji18) : Int) ≤ ((t317.length : Int) : Int) := of_decide_eq_true (by first | (with_reducible assumption) | assumption)
                obtain ⟨i034, hi034, _, hsz34, _⟩ := info_parts info5
                have hroom34 : t317.length ≤ co33 := (rR HO_8.out).2.1
                have hC34 : Kd.C (Kd.int .u8) _ Ao33 t317.length t317 := (rR HO_8.out).2.2
                have hcut34 := cut_to (P := Tryd.prog) 27 5 .i64 Tryd.underlying27 hi034 Ao33 t317.length co33 (ji18) (of_decide_eq_true (by first | (with_reducible assumption) | assumption)) q34 hroom34
                have hr34 := Kd.C_take (m := ((ji18) : Int).toNat) hC34 (by omega)
                have hy34 : y321.length = ((ji18) : Int).toNat := (by rw [Ny321.out, List.length_take]; omega)
                rw [← Ny321.out] at hr34
                rw [← hy34] at hcut34
                have HR324 := aM hr34
                have HC324 := aM (show y321.length ≤ co33 from by omega)
                clear hr34 hC34 hroom34 hi034 hsz34
                have KY34 := aM hy34
                clear hy34
                have KL34 := aM (show ((ji18) : Int).toNat ≤ t317.length from by omega)
                replace q34 := eq_true q34
                try have q34m := eq_true (by have z_ := of_eq_true q34; simp only [ByteArray.size_extract, Nat.sub_zero] at z_; exact z_)
                try go_wp2_with (first | ((with_reducible refine gate_callee (f := 17) rfl ?_); refine goesL_ (some 45) rfl rfl Tryd.func17 (by kernel_rfl) rfl #[.slice Ao33 y321.length co33] rfl (by (try simp only [List.map_toArray, List.map_cons, List.map_nil]); first | done | rfl | (simp only [List.length_drop, List.length_take]; rfl)) ?_; (with_reducible refine (event_Decode.calls _ _ y321 t325 t326 t327 t328 t329 t330 t331 t332 t333 t334 t335 t336 _ ?side3 ?side1 ?side2 A21.out).mono ?_); (case side1 => repeat (first | exact (by repeat (first | (with_reducible exact HR324.out) | (with_reducible refine cA ?_ _) | (with_reducible refine cN ?_ _) | (with_reducible refine cD ?_) | exact HR324.out)) | (with_reducible refine cA ?_ _) | (with_reducible refine cN ?_ _) | (with_reducible refine cD ?_))); (case side2 => exact HC324.out); (case side3 => first | exact HG.out | exact Glob.below HG.out HB.out | exact Glob.drewN (Glob.below HG.out HB.out) _ | exact Glob.drewN HG.out _ | (refine Glob.below HG.out ?_; (repeat (first | (with_reducible first | exact HB.out | apply lA | apply lN | apply lD | refine lT ?_ GE305.out) | exact HB.out)); done) | (repeat (first | exact HG.out | (with_reducible refine Glob.drewN ?_ _) | (with_reducible refine Glob.drew ?_) | (with_reducible refine Glob.alloc ?_ _)); done)); rintro e w35 ⟨rfl, hb⟩; refine ⟨_, rfl, ?_⟩; have n0_ := aM (rB (by (with_reducible repeat first | apply rA | apply rN | apply rD); exact HO_8.out) hb); have n1_ := aM (bB (g := gb305) (o := .cells #[.int .i64 a0_0, .int .u64 a0_1, .int .u64 a0_2, .string a0_3, .string a0_4, .string a0_5, .string a0_6, .int .i64 a0_7, .int .i64 a0_8, .int .i64 a0_9] 24 (0, 0)) (by (with_reducible repeat first | refine bN ?_ _ | refine bD ?_ | refine bA ?_ _); exact BK305.out) hb); have n2_ := aM (Kd.C_below (by repeat (first | (with_reducible exact HR324.out) | (with_reducible refine cA ?_ _) | (with_reducible refine cN ?_ _) | (with_reducible refine cD ?_) | exact HR324.out)) hb); have n3_ := aM (lS (by repeat (first | (with_reducible first | exact HB.out | apply lA | apply lN | apply lD | refine lT ?_ GE305.out) | exact HB.out)) hb); clear HO_8; clear BK305; clear HR324; clear HB; have HO_8 := n0_; have BK305 := n1_; have HR324 := n2_; have HB := n3_; clear n0_ n1_ n2_ n3_; (try clear hb); (try clear hb2); (try clear hk); (try clear hi)) | ((with_reducible refine gate_dst (N := 11) rfl ?_); (try (refine gate_guard (by rfl) ?_; dsimp only)); refine box_event ?hg (N := 11) ?hd (cs := #[.int .i64 0, .int .u64 0, .int .u64 0, .string (⟨#[]⟩ : ByteArray), .string (⟨#[]⟩ : ByteArray), .string (⟨#[]⟩ : ByteArray), .string (⟨#[]⟩ : ByteArray), .int .i64 0, .int .i64 0, .int .i64 0]) (t := 24) ?hr ?_; (case hd => rfl); (case hg => rfl); (case hr => first | (go_simp; done) | (go_simp; rfl)); intro gb337 hg w36 hbox hb; have n0_ := aM (rB (by (with_reducible repeat first | apply rA | apply rN | apply rD); exact HO_8.out) hb); have n1_ := aM (bB (g := gb305) (o := .cells #[.int .i64 a0_0, .int .u64 a0_1, .int .u64 a0_2, .string a0_3, .string a0_4, .string a0_5, .string a0_6, .int .i64 a0_7, .int .i64 a0_8, .int .i64 a0_9] 24 (0, 0)) (by (with_reducible repeat first | refine bN ?_ _ | refine bD ?_ | refine bA ?_ _); exact BK305.out) hb); have n2_ := aM (Kd.C_below (by repeat (first | (with_reducible exact HR324.out) | (with_reducible refine cA ?_ _) | (with_reducible refine cN ?_ _) | (with_reducible refine cD ?_) | exact HR324.out)) hb); have n3_ := aM (lS (by repeat (first | (with_reducible first | exact HB.out | apply lA | apply lN | apply lD | refine lT ?_ GE305.out) | exact HB.out)) hb); have n4_ := aM (hbox); have n5_ := aM ((by rw [hg]; exact (lZ (by repeat (first | (with_reducible first | exact HB.out | apply lA | apply lN | apply lD | refine lT ?_ GE305.out) | exact HB.out))) : w.heap.size ≤ gb337)); have n6_ := aM ((by rw [hg]; exact (lZ (by repeat (first | (with_reducible first | exact HB.out | apply lA | apply lN | apply lD | refine lT ?_ GE305.out) | exact HB.out))) : w.heap.size ≤ gb337)); have n7_ := aM ((by rw [hg]; exact Nat.ne_of_lt (blk_lt (g := gb305) (o := .cells #[.int .i64 a0_0, .int .u64 a0_1, .int .u64 a0_2, .string a0_3, .string a0_4, .string a0_5, .string a0_6, .int .i64 a0_7, .int .i64 a0_8, .int .i64 a0_9] 24 (0, 0)) (by (with_reducible repeat first | refine bN ?_ _ | refine bD ?_ | refine bA ?_ _); exact BK305.out)) : gb305 ≠ gb337)); have n8_ := aM ((by rw [hg]; exact Nat.ne_of_gt (blk_lt (g := gb305) (o := .cells #[.int .i64 a0_0, .int .u64 a0_1, .int .u64 a0_2, .string a0_3, .string a0_4, .string a0_5, .string a0_6, .int .i64 a0_7, .int .i64 a0_8, .int .i64 a0_9] 24 (0, 0)) (by (with_reducible repeat first | refine bN ?_ _ | refine bD ?_ | refine bA ?_ _); exact BK305.out)) : gb337 ≠ gb305)); clear HO_8; clear BK305; clear HR324; clear HB; have HO_8 := n0_; have BK305 := n1_; have HR324 := n2_; have HB := n3_; have BK337 := n4_; have GW337 := n5_; have GE337 := n6_; have NB305_337 := n7_; have NB337_305 := n8_; clear n0_ n1_ n2_ n3_ n4_ n5_ n6_ n7_ n8_; clear hb hbox hg; have hnb37 := NB337_305.out; have hnc37 := NB305_337.out; have hcz38_0 : w36.cell? ⟨gb337, 0, none⟩ = some (.int .i64 0) := (blk_cell BK337.out 0).trans rfl; have hcz38_1 : w36.cell? ⟨gb337, 1, none⟩ = some (.int .u64 0) := (blk_cell BK337.out 1).trans rfl; have hcz38_2 : w36.cell? ⟨gb337, 2, none⟩ = some (.int .u64 0) := (blk_cell BK337.out 2).trans rfl; have hcz38_3 : w36.cell? ⟨gb337, 3, none⟩ = some (.string (⟨#[]⟩ : ByteArray)) := (blk_cell BK337.out 3).trans rfl; have hcz38_4 : w36.cell? ⟨gb337, 4, none⟩ = some (.string (⟨#[]⟩ : ByteArray)) := (blk_cell BK337.out 4).trans rfl; have hcz38_5 : w36.cell? ⟨gb337, 5, none⟩ = some (.string (⟨#[]⟩ : ByteArray)) := (blk_cell BK337.out 5).trans rfl; have hcz38_6 : w36.cell? ⟨gb337, 6, none⟩ = some (.string (⟨#[]⟩ : ByteArray)) := (blk_cell BK337.out 6).trans rfl; have hcz38_7 : w36.cell? ⟨gb337, 7, none⟩ = some (.int .i64 0) := (blk_cell BK337.out 7).trans rfl; have hcz38_8 : w36.cell? ⟨gb337, 8, none⟩ = some (.int .i64 0) := (blk_cell BK337.out 8).trans rfl; have hcz38_9 : w36.cell? ⟨gb337, 9, none⟩ = some (.int .i64 0) := (blk_cell BK337.out 9).trans rfl; have hfz38_0 := blk_frozen BK337.out 0; have hfz38_1 := blk_frozen BK337.out 1; have hfz38_2 := blk_frozen BK337.out 2; have hfz38_3 := blk_frozen BK337.out 3; have hfz38_4 := blk_frozen BK337.out 4; have hfz38_5 := blk_frozen BK337.out 5; have hfz38_6 := blk_frozen BK337.out 6; have hfz38_7 := blk_frozen BK337.out 7; have hfz38_8 := blk_frozen BK337.out 8; have hfz38_9 := blk_frozen BK337.out 9))
                have n0_ : Aside0 (Kd.R (Kd.int .u8) 5 ((((((((((w36.setCell ⟨gb337, 0, none⟩ (.int .i64 t325)).setCell ⟨gb337, 1, none⟩ (.int .u64 t326)).setCell ⟨gb337, 2, none⟩ (.int .u64 t327)).setCell ⟨gb337, 3, none⟩ (.string t328)).setCell ⟨gb337, 4, none⟩ (.string t329)).setCell ⟨gb337, 5, none⟩ (.string t330)).setCell ⟨gb337, 6, none⟩ (.string t331)).setCell ⟨gb337, 7, none⟩ (.int .i64 t332)).setCell ⟨gb337, 8, none⟩ (.int .i64 t333)).setCell ⟨gb337, 9, none⟩ (.int .i64 t334)) w.heap.size (fun _ => True) (.slice Ao33 t317.length co33) t317) := ⟨by (with_reducible repeat first | apply rA | apply rN | apply rD); exact rM (rX (p := ⟨gb337, 9, none⟩) (rX (p := ⟨gb337, 8, none⟩) (rX (p := ⟨gb337, 7, none⟩) (rX (p := ⟨gb337, 6, none⟩) (rX (p := ⟨gb337, 5, none⟩) (rX (p := ⟨gb337, 4, none⟩) (rX (p := ⟨gb337, 3, none⟩) (rX (p := ⟨gb337, 2, none⟩) (rX (p := ⟨gb337, 1, none⟩) (rX (p := ⟨gb337, 0, none⟩) (rY HO_8.out BK337.out (by decide)) (fun _ hk => hk.2) (.int .i64 t325)) (fun _ hk => hk.2) (.int .u64 t326)) (fun _ hk => hk.2) (.int .u64 t327)) (fun _ hk => hk.2) (.string t328)) (fun _ hk => hk.2) (.string t329)) (fun _ hk => hk.2) (.string t330)) (fun _ hk => hk.2) (.string t331)) (fun _ hk => hk.2) (.int .i64 t332)) (fun _ hk => hk.2) (.int .i64 t333)) (fun _ hk => hk.2) (.int .i64 t334)) (fun _ hk => trivial)⟩
                have n1_ : Aside0 (((((((((((w36.setCell ⟨gb337, 0, none⟩ (.int .i64 t325)).setCell ⟨gb337, 1, none⟩ (.int .u64 t326)).setCell ⟨gb337, 2, none⟩ (.int .u64 t327)).setCell ⟨gb337, 3, none⟩ (.string t328)).setCell ⟨gb337, 4, none⟩ (.string t329)).setCell ⟨gb337, 5, none⟩ (.string t330)).setCell ⟨gb337, 6, none⟩ (.string t331)).setCell ⟨gb337, 7, none⟩ (.int .i64 t332)).setCell ⟨gb337, 8, none⟩ (.int .i64 t333)).setCell ⟨gb337, 9, none⟩ (.int .i64 t334)).heap[gb305]? = some (.cells #[.int .i64 a0_0, .int .u64 a0_1, .int .u64 a0_2, .string a0_3, .string a0_4, .string a0_5, .string a0_6, .int .i64 a0_7, .int .i64 a0_8, .int .i64 a0_9] 24 (0, 0))) := ⟨by (with_reducible repeat first | refine bN ?_ _ | refine bD ?_ | refine bA ?_ _); refine bX ?_ NB305_337.out _; (with_reducible repeat first | refine bN ?_ _ | refine bD ?_ | refine bA ?_ _); refine bX ?_ NB305_337.out _; (with_reducible repeat first | refine bN ?_ _ | refine bD ?_ | refine bA ?_ _); refine bX ?_ NB305_337.out _; (with_reducible repeat first | refine bN ?_ _ | refine bD ?_ | refine bA ?_ _); refine bX ?_ NB305_337.out _; (with_reducible repeat first | refine bN ?_ _ | refine bD ?_ | refine bA ?_ _); refine bX ?_ NB305_337.out _; (with_reducible repeat first | refine bN ?_ _ | refine bD ?_ | refine bA ?_ _); refine bX ?_ NB305_337.out _; (with_reducible repeat first | refine bN ?_ _ | refine bD ?_ | refine bA ?_ _); refine bX ?_ NB305_337.out _; (with_reducible repeat first | refine bN ?_ _ | refine bD ?_ | refine bA ?_ _); refine bX ?_ NB305_337.out _; (with_reducible repeat first | refine bN ?_ _ | refine bD ?_ | refine bA ?_ _); refine bX ?_ NB305_337.out _; (with_reducible repeat first | refine bN ?_ _ | refine bD ?_ | refine bA ?_ _); refine bX ?_ NB305_337.out _; (with_reducible repeat first | refine bN ?_ _ | refine bD ?_ | refine bA ?_ _); exact BK305.out⟩
                have n2_ : Aside0 (((((((((((w36.setCell ⟨gb337, 0, none⟩ (.int .i64 t325)).setCell ⟨gb337, 1, none⟩ (.int .u64 t326)).setCell ⟨gb337, 2, none⟩ (.int .u64 t327)).setCell ⟨gb337, 3, none⟩ (.string t328)).setCell ⟨gb337, 4, none⟩ (.string t329)).setCell ⟨gb337, 5, none⟩ (.string t330)).setCell ⟨gb337, 6, none⟩ (.string t331)).setCell ⟨gb337, 7, none⟩ (.int .i64 t332)).setCell ⟨gb337, 8, none⟩ (.int .i64 t333)).setCell ⟨gb337, 9, none⟩ (.int .i64 t334)).heap[gb337]? = some (.cells #[.int .i64 t325, .int .u64 t326, .int .u64 t327, .string t328, .string t329, .string t330, .string t331, .int .i64 t332, .int .i64 t333, .int .i64 t334] 24 (0, 0))) := ⟨by (with_reducible repeat first | refine bN ?_ _ | refine bD ?_ | refine bA ?_ _); refine blk_put (cs := #[.int .i64 t325, .int .u64 t326, .int .u64 t327, .string t328, .string t329, .string t330, .string t331, .int .i64 t332, .int .i64 t333, .int .i64 0]) ?_ 9 _ rfl; (with_reducible repeat first | refine bN ?_ _ | refine bD ?_ | refine bA ?_ _); refine blk_put (cs := #[.int .i64 t325, .int .u64 t326, .int .u64 t327, .string t328, .string t329, .string t330, .string t331, .int .i64 t332, .int .i64 0, .int .i64 0]) ?_ 8 _ rfl; (with_reducible repeat first | refine bN ?_ _ | refine bD ?_ | refine bA ?_ _); refine blk_put (cs := #[.int .i64 t325, .int .u64 t326, .int .u64 t327, .string t328, .string t329, .string t330, .string t331, .int .i64 0, .int .i64 0, .int .i64 0]) ?_ 7 _ rfl; (with_reducible repeat first | refine bN ?_ _ | refine bD ?_ | refine bA ?_ _); refine blk_put (cs := #[.int .i64 t325, .int .u64 t326, .int .u64 t327, .string t328, .string t329, .string t330, .string (⟨#[]⟩ : ByteArray), .int .i64 0, .int .i64 0, .int .i64 0]) ?_ 6 _ rfl; (with_reducible repeat first | refine bN ?_ _ | refine bD ?_ | refine bA ?_ _); refine blk_put (cs := #[.int .i64 t325, .int .u64 t326, .int .u64 t327, .string t328, .string t329, .string (⟨#[]⟩ : ByteArray), .string (⟨#[]⟩ : ByteArray), .int .i64 0, .int .i64 0, .int .i64 0]) ?_ 5 _ rfl; (with_reducible repeat first | refine bN ?_ _ | refine bD ?_ | refine bA ?_ _); refine blk_put (cs := #[.int .i64 t325, .int .u64 t326, .int .u64 t327, .string t328, .string (⟨#[]⟩ : ByteArray), .string (⟨#[]⟩ : ByteArray), .string (⟨#[]⟩ : ByteArray), .int .i64 0, .int .i64 0, .int .i64 0]) ?_ 4 _ rfl; (with_reducible repeat first | refine bN ?_ _ | refine bD ?_ | refine bA ?_ _); refine blk_put (cs := #[.int .i64 t325, .int .u64 t326, .int .u64 t327, .string (⟨#[]⟩ : ByteArray), .string (⟨#[]⟩ : ByteArray), .string (⟨#[]⟩ : ByteArray), .string (⟨#[]⟩ : ByteArray), .int .i64 0, .int .i64 0, .int .i64 0]) ?_ 3 _ rfl; (with_reducible repeat first | refine bN ?_ _ | refine bD ?_ | refine bA ?_ _); refine blk_put (cs := #[.int .i64 t325, .int .u64 t326, .int .u64 0, .string (⟨#[]⟩ : ByteArray), .string (⟨#[]⟩ : ByteArray), .string (⟨#[]⟩ : ByteArray), .string (⟨#[]⟩ : ByteArray), .int .i64 0, .int .i64 0, .int .i64 0]) ?_ 2 _ rfl; (with_reducible repeat first | refine bN ?_ _ | refine bD ?_ | refine bA ?_ _); refine blk_put (cs := #[.int .i64 t325, .int .u64 0, .int .u64 0, .string (⟨#[]⟩ : ByteArray), .string (⟨#[]⟩ : ByteArray), .string (⟨#[]⟩ : ByteArray), .string (⟨#[]⟩ : ByteArray), .int .i64 0, .int .i64 0, .int .i64 0]) ?_ 1 _ rfl; (with_reducible repeat first | refine bN ?_ _ | refine bD ?_ | refine bA ?_ _); refine blk_put (cs := #[.int .i64 0, .int .u64 0, .int .u64 0, .string (⟨#[]⟩ : ByteArray), .string (⟨#[]⟩ : ByteArray), .string (⟨#[]⟩ : ByteArray), .string (⟨#[]⟩ : ByteArray), .int .i64 0, .int .i64 0, .int .i64 0]) ?_ 0 _ rfl; (with_reducible repeat first | refine bN ?_ _ | refine bD ?_ | refine bA ?_ _); exact BK337.out⟩
                have n3_ : Aside0 (Below w.heap.size w ((((((((((w36.setCell ⟨gb337, 0, none⟩ (.int .i64 t325)).setCell ⟨gb337, 1, none⟩ (.int .u64 t326)).setCell ⟨gb337, 2, none⟩ (.int .u64 t327)).setCell ⟨gb337, 3, none⟩ (.string t328)).setCell ⟨gb337, 4, none⟩ (.string t329)).setCell ⟨gb337, 5, none⟩ (.string t330)).setCell ⟨gb337, 6, none⟩ (.string t331)).setCell ⟨gb337, 7, none⟩ (.int .i64 t332)).setCell ⟨gb337, 8, none⟩ (.int .i64 t333)).setCell ⟨gb337, 9, none⟩ (.int .i64 t334))) := ⟨by repeat (first | (with_reducible first | exact HB.out | apply lA | apply lN | apply lD | refine lT ?_ GE305.out | refine lT ?_ GE337.out) | exact HB.out)⟩
                (try clear HO_8)
                (try clear BK305)
                (try clear BK337)
                (try clear HB)
                generalize ((((((((((w36.setCell ⟨gb337, 0, none⟩ (.int .i64 t325)).setCell ⟨gb337, 1, none⟩ (.int .u64 t326)).setCell ⟨gb337, 2, none⟩ (.int .u64 t327)).setCell ⟨gb337, 3, none⟩ (.string t328)).setCell ⟨gb337, 4, none⟩ (.string t329)).setCell ⟨gb337, 5, none⟩ (.string t330)).setCell ⟨gb337, 6, none⟩ (.string t331)).setCell ⟨gb337, 7, none⟩ (.int .i64 t332)).setCell ⟨gb337, 8, none⟩ (.int .i64 t333)).setCell ⟨gb337, 9, none⟩ (.int .i64 t334)) = w39 at n0_ n1_ n2_ n3_ ⊢
                have HO_8 := n0_
                have BK305 := n1_
                have BK337 := n2_
                have HB := n3_
                clear n0_ n1_ n2_ n3_
                have n0_ := aM (rD HO_8.out)
                have n1_ := aM (bD BK305.out)
                have n2_ := aM (bD BK337.out)
                have n3_ := aM (lD HB.out)
                clear HO_8
                clear BK305
                clear BK337
                clear HB
                have HO_8 := n0_
                have BK305 := n1_
                have BK337 := n2_
                have HB := n3_
                clear n0_ n1_ n2_ n3_
                obtain ⟨i041, hi041, _, hsz41, _⟩ := info_parts info5
                obtain ⟨hcut41, hA41, hC41⟩ := print_take_of (P := Tryd.prog) (Value.int .u8) 0 27 5 .i64 Tryd.underlying27 hi041 hsz41 A2 c2 l2 (ji24) (of_decide_eq_true (by first | (with_reducible assumption) | assumption)) (of_decide_eq_true (by first | (with_reducible assumption) | assumption)) HC2.out
                have hl41 := aM (show (l2.take ((ji24) : Int).toNat).length = ((ji24) : Int).toNat from by have q0_ : 0 ≤ (ji24) := (of_decide_eq_true (by first | (with_reducible assumption) | assumption)); have q1_ : (ji24) ≤ (l2.length : Int) := (of_decide_eq_true (by first | (with_reducible assumption) | assumption)); (try simp only [List.length_drop, List.length_take] at q0_ q1_); (try simp only [List.length_drop, List.length_take] at q2_); simp only [List.length_drop, List.length_take]; first | done | omega)
                (try rw [hl41.out] at hcut41)
                have HR350 := aM (Kd.C_of_reads (h1 := fun _ => rfl) (hA41 _ (Kd.reads_of_C HR2.out)))
                have HC350 := aM hC41
                clear hA41 hC41 hi041 hsz41
                refine start_ (n := 20) (S := fun w' => True) (ds := []) #[false, false, false, false, false, false, false, false, false, false, false, false, false, false, false, false, false, false, false, false] (by kernel_rfl) rfl rfl trivial (fun hHeld => ?_); refine with_tabW transeptlaw05_EventCuts.tab7 transeptlaw05_EventCuts.bits7 (fun HT_ HW_ => ?_)
                generalize w39.drew = w40 at HO_8 BK305 BK337 HB HR350 hHeld ⊢
                refine pure_ (i := 1) (N := some 51) (v := ?_) (a' := ?_) #[false, true, false, false, false, false, false, false, false, false, false, false, false, false, false, false, false, false, false, false] rfl rfl (any_of HT_.out (by kernel_rfl)) (fun _ _ _ h => h) (Or.inl ⟨by rfl, ?_⟩) ?_ ?_
                rotate_left
                ·
                 intro w'
                 go_simp
                 with_reducible rfl
                rotate_left
                ·
                 simp only [Act.put, sA, sZ, sS, i64_w, i32_w]
                 rfl
                refine pure_ (i := 5) (N := some 55) (v := ?_) (a' := ?_) #[false, true, false, false, false, true, false, false, false, false, false, false, false, false, false, false, false, false, false, false] rfl rfl (any_of HT_.out (by kernel_rfl)) (fun _ _ _ h => h) (Or.inl ⟨by rfl, ?_⟩) ?_ ?_
                rotate_left
                ·
                 intro w'
                 go_simp
                 with_reducible rfl
                rotate_left
                ·
                 simp only [Act.put, sA, sZ, sS, i64_w, i32_w]
                 rfl
                refine pure_ (i := 6) (N := some 56) (v := ?_) (a' := ?_) #[false, true, false, false, false, true, true, false, false, false, false, false, false, false, false, false, false, false, false, false] rfl rfl (any_of HT_.out (by kernel_rfl)) (fun _ _ _ h => h) (Or.inl ⟨by rfl, ?_⟩) ?_ ?_
                rotate_left
                ·
                 intro w'
                 go_simp
                 with_reducible rfl
                rotate_left
                ·
                 simp only [Act.put, sA, sZ, sS, i64_w, i32_w]
                 rfl
                refine pure_ (i := 7) (N := some 57) (v := ?_) (a' := ?_) #[false, true, false, false, false, true, true, true, false, false, false, false, false, false, false, false, false, false, false, false] rfl rfl (any_of HT_.out (by kernel_rfl)) (fun _ _ _ h => h) (Or.inl ⟨by rfl, ?_⟩) ?_ ?_
                rotate_left
                ·
                 intro w'
                 go_simp
                 with_reducible rfl
                rotate_left
                ·
                 simp only [Act.put, sA, sZ, sS, i64_w, i32_w]
                 rfl
                refine pure_ (i := 8) (N := some 58) (v := ?_) (a' := ?_) #[false, true, false, false, false, true, true, true, true, false, false, false, false, false, false, false, false, false, false, false] rfl rfl (any_of HT_.out (by kernel_rfl)) (fun _ _ _ h => h) (Or.inl ⟨by rfl, ?_⟩) ?_ ?_
                rotate_left
                ·
                 intro w'
                 go_simp
                 with_reducible rfl
                rotate_left
                ·
                 simp only [Act.put, sA, sZ, sS, i64_w, i32_w]
                 rfl
                refine pure_ (i := 9) (N := some 59) (v := ?_) (a' := ?_) #[false, true, false, false, false, true, true, true, true, true, false, false, false, false, false, false, false, false, false, false] rfl rfl (any_of HT_.out (by kernel_rfl)) (fun _ _ _ h => h) (Or.inl ⟨by rfl, ?_⟩) ?_ ?_
                rotate_left
                ·
                 intro w'
                 go_simp
                 with_reducible rfl
                rotate_left
                ·
                 simp only [Act.put, sA, sZ, sS, i64_w, i32_w]
                 rfl
                refine join_ (σ := Value × Value × Value × Value × Value × Nat) 3 #[true, true, true, true, true, true, true, true, true, true, true, true, true, true, true, true, true, false, false, false] (fun s_ => [(50, s_.1), (52, s_.2.1), (53, s_.2.2.1), (54, s_.2.2.2.1), (60, s_.2.2.2.2.1), (61, .tuple #[.agg #[.int .i64 t354, .int .u64 t355, .int .u64 t356, .string t357, .string t358, .string t359, .string t360, .int .i64 t361, .int .i64 t362, .int .i64 t363], .int .i64 t364, .int .i64 t365]), (14, .pointer (some ⟨s_.2.2.2.2.2, 0, none⟩)), (49, .tuple #[.agg #[.int .i64 t354, .int .u64 t355, .int .u64 t356, .string t357, .string t358, .string t359, .string t360, .int .i64 t361, .int .i64 t362, .int .i64 t363], .int .i64 t364, .int .i64 t365]), (62, .agg #[.int .i64 t354, .int .u64 t355, .int .u64 t356, .string t357, .string t358, .string t359, .string t360, .int .i64 t361, .int .i64 t362, .int .i64 t363]), (63, .int .i64 t364), (64, .int .i64 t365)]) (fun s_ w' => (Kd.R (Kd.int .u8) 5 w' w.heap.size (fun k_ => some k_ ≠ (s_.2.2.2.2.1 : Value).ownBlock ∧ some k_ ≠ (.slice Ao33 t317.length co33 : Value).ownBlock) s_.2.2.1 y344) ∧ (Kd.R (Kd.int .u8) 5 w' w.heap.size (fun k_ => some k_ ≠ (s_.2.2.1 : Value).ownBlock ∧ some k_ ≠ (.slice Ao33 t317.length co33 : Value).ownBlock) s_.2.2.2.2.1 y351) ∧ (Kd.R (Kd.int .u8) 5 w' w.heap.size (fun k_ => some k_ ≠ (s_.2.2.1 : Value).ownBlock ∧ some k_ ≠ (s_.2.2.2.2.1 : Value).ownBlock) (.slice Ao33 t317.length co33) t317) ∧ (w'.heap[gb305]? = some (.cells #[.int .i64 a0_0, .int .u64 a0_1, .int .u64 a0_2, .string a0_3, .string a0_4, .string a0_5, .string a0_6, .int .i64 a0_7, .int .i64 a0_8, .int .i64 a0_9] 24 (0, 0))) ∧ (w'.heap[gb337]? = some (.cells #[.int .i64 t325, .int .u64 t326, .int .u64 t327, .string t328, .string t329, .string t330, .string t331, .int .i64 t332, .int .i64 t333, .int .i64 t334] 24 (0, 0))) ∧ (w'.heap[s_.2.2.2.2.2]? = some (.cells #[.int .i64 0, .int .u64 0, .int .u64 0, .string (⟨#[]⟩ : ByteArray), .string (⟨#[]⟩ : ByteArray), .string (⟨#[]⟩ : ByteArray), .string (⟨#[]⟩ : ByteArray), .int .i64 0, .int .i64 0, .int .i64 0] 24 (0, 0))) ∧ (w.heap.size ≤ s_.2.2.2.2.2) ∧ (w.heap.size ≤ s_.2.2.2.2.2) ∧ (gb305 ≠ s_.2.2.2.2.2) ∧ (s_.2.2.2.2.2 ≠ gb305) ∧ (gb337 ≠ s_.2.2.2.2.2) ∧ (s_.2.2.2.2.2 ≠ gb337) ∧ (Below w.heap.size w w')) ?_ ?_
                rotate_left
                ·
                 intro hJ0_2_3_4_10_11_16
                 refine join_ (σ := Value × Value × Value × Value × Value) 4 #[true, true, true, true, true, true, true, true, true, true, true, true, true, true, true, true, false, false, false, false] (fun s_ => [(50, s_.1), (52, s_.2.1), (53, s_.2.2.1), (54, s_.2.2.2.1), (60, s_.2.2.2.2), (61, .tuple #[.agg #[.int .i64 t354, .int .u64 t355, .int .u64 t356, .string t357, .string t358, .string t359, .string t360, .int .i64 t361, .int .i64 t362, .int .i64 t363], .int .i64 t364, .int .i64 t365]), (49, .tuple #[.agg #[.int .i64 t354, .int .u64 t355, .int .u64 t356, .string t357, .string t358, .string t359, .string t360, .int .i64 t361, .int .i64 t362, .int .i64 t363], .int .i64 t364, .int .i64 t365]), (62, .agg #[.int .i64 t354, .int .u64 t355, .int .u64 t356, .string t357, .string t358, .string t359, .string t360, .int .i64 t361, .int .i64 t362, .int .i64 t363]), (63, .int .i64 t364), (64, .int .i64 t365)]) (fun s_ w' => (Kd.R (Kd.int .u8) 5 w' w.heap.size (fun k_ => some k_ ≠ (s_.2.2.2.2 : Value).ownBlock ∧ some k_ ≠ (.slice Ao33 t317.length co33 : Value).ownBlock) s_.2.2.1 y344) ∧ (Kd.R (Kd.int .u8) 5 w' w.heap.size (fun k_ => some k_ ≠ (s_.2.2.1 : Value).ownBlock ∧ some k_ ≠ (.slice Ao33 t317.length co33 : Value).ownBlock) s_.2.2.2.2 y351) ∧ (Kd.R (Kd.int .u8) 5 w' w.heap.size (fun k_ => some k_ ≠ (s_.2.2.1 : Value).ownBlock ∧ some k_ ≠ (s_.2.2.2.2 : Value).ownBlock) (.slice Ao33 t317.length co33) t317) ∧ (w'.heap[gb305]? = some (.cells #[.int .i64 a0_0, .int .u64 a0_1, .int .u64 a0_2, .string a0_3, .string a0_4, .string a0_5, .string a0_6, .int .i64 a0_7, .int .i64 a0_8, .int .i64 a0_9] 24 (0, 0))) ∧ (w'.heap[gb337]? = some (.cells #[.int .i64 t325, .int .u64 t326, .int .u64 t327, .string t328, .string t329, .string t330, .string t331, .int .i64 t332, .int .i64 t333, .int .i64 t334] 24 (0, 0))) ∧ (Below w.heap.size w w')) ?_ ?_
                 rotate_left
                 ·
                  intro hJ0_2_3_4_10_11
                  refine join_ (σ := Value × Value × Value × Value × Value × Nat) 8 #[true, true, true, true, true, true, true, true, true, true, true, false, false, false, false, false, true, false, false, false] (fun s_ => [(50, s_.1), (52, s_.2.1), (53, s_.2.2.1), (54, s_.2.2.2.1), (60, s_.2.2.2.2.1), (14, .pointer (some ⟨s_.2.2.2.2.2, 0, none⟩))]) (fun s_ w' => (Kd.R (Kd.int .u8) 5 w' w.heap.size (fun k_ => some k_ ≠ (s_.2.2.2.2.1 : Value).ownBlock ∧ some k_ ≠ (.slice Ao33 t317.length co33 : Value).ownBlock) s_.2.2.1 y344) ∧ (Kd.R (Kd.int .u8) 5 w' w.heap.size (fun k_ => some k_ ≠ (s_.2.2.1 : Value).ownBlock ∧ some k_ ≠ (.slice Ao33 t317.length co33 : Value).ownBlock) s_.2.2.2.2.1 y351) ∧ (Kd.R (Kd.int .u8) 5 w' w.heap.size (fun k_ => some k_ ≠ (s_.2.2.1 : Value).ownBlock ∧ some k_ ≠ (s_.2.2.2.2.1 : Value).ownBlock) (.slice Ao33 t317.length co33) t317) ∧ (w'.heap[gb305]? = some (.cells #[.int .i64 a0_0, .int .u64 a0_1, .int .u64 a0_2, .string a0_3, .string a0_4, .string a0_5, .string a0_6, .int .i64 a0_7, .int .i64 a0_8, .int .i64 a0_9] 24 (0, 0))) ∧ (w'.heap[gb337]? = some (.cells #[.int .i64 t325, .int .u64 t326, .int .u64 t327, .string t328, .string t329, .string t330, .string t331, .int .i64 t332, .int .i64 t333, .int .i64 t334] 24 (0, 0))) ∧ (w'.heap[s_.2.2.2.2.2]? = some (.cells #[.int .i64 0, .int .u64 0, .int .u64 0, .string (⟨#[]⟩ : ByteArray), .string (⟨#[]⟩ : ByteArray), .string (⟨#[]⟩ : ByteArray), .string (⟨#[]⟩ : ByteArray), .int .i64 0, .int .i64 0, .int .i64 0] 24 (0, 0))) ∧ (w.heap.size ≤ s_.2.2.2.2.2) ∧ (w.heap.size ≤ s_.2.2.2.2.2) ∧ (gb305 ≠ s_.2.2.2.2.2) ∧ (s_.2.2.2.2.2 ≠ gb305) ∧ (gb337 ≠ s_.2.2.2.2.2) ∧ (s_.2.2.2.2.2 ≠ gb337) ∧ (Below w.heap.size w w')) ?_ ?_
                  rotate_left
                  ·
                   intro hJ0_2_3_4_10_16
                   refine join_ (σ := Value × Value × Value × Value × Value) 9 #[true, true, true, true, true, true, true, true, true, true, true, false, false, false, false, false, false, false, false, false] (fun s_ => [(50, s_.1), (52, s_.2.1), (53, s_.2.2.1), (54, s_.2.2.2.1), (60, s_.2.2.2.2)]) (fun s_ w' => (Kd.R (Kd.int .u8) 5 w' w.heap.size (fun k_ => some k_ ≠ (s_.2.2.2.2 : Value).ownBlock ∧ some k_ ≠ (.slice Ao33 t317.length co33 : Value).ownBlock) s_.2.2.1 y344) ∧ (Kd.R (Kd.int .u8) 5 w' w.heap.size (fun k_ => some k_ ≠ (s_.2.2.1 : Value).ownBlock ∧ some k_ ≠ (.slice Ao33 t317.length co33 : Value).ownBlock) s_.2.2.2.2 y351) ∧ (Kd.R (Kd.int .u8) 5 w' w.heap.size (fun k_ => some k_ ≠ (s_.2.2.1 : Value).ownBlock ∧ some k_ ≠ (s_.2.2.2.2 : Value).ownBlock) (.slice Ao33 t317.length co33) t317) ∧ (w'.heap[gb305]? = some (.cells #[.int .i64 a0_0, .int .u64 a0_1, .int .u64 a0_2, .string a0_3, .string a0_4, .string a0_5, .string a0_6, .int .i64 a0_7, .int .i64 a0_8, .int .i64 a0_9] 24 (0, 0))) ∧ (w'.heap[gb337]? = some (.cells #[.int .i64 t325, .int .u64 t326, .int .u64 t327, .string t328, .string t329, .string t330, .string t331, .int .i64 t332, .int .i64 t333, .int .i64 t334] 24 (0, 0))) ∧ (Below w.heap.size w w')) ?_ ?_
                   rotate_left
                   ·
                    intro hJ0_2_3_4_10
                    refine join_ (σ := Value × Value × Value × Value × Nat) 9 #[true, true, true, true, true, true, true, true, true, true, false, false, false, false, false, false, true, false, false, false] (fun s_ => [(50, s_.1), (52, s_.2.1), (53, s_.2.2.1), (54, s_.2.2.2.1), (14, .pointer (some ⟨s_.2.2.2.2, 0, none⟩))]) (fun s_ w' => (Kd.R (Kd.int .u8) 5 w' w.heap.size (fun k_ => some k_ ≠ (s_.2.2.2.1 : Value).ownBlock ∧ some k_ ≠ (.slice Ao33 t317.length co33 : Value).ownBlock) s_.2.2.1 y344) ∧ (Kd.R (Kd.int .u8) 5 w' w.heap.size (fun k_ => some k_ ≠ (s_.2.2.1 : Value).ownBlock ∧ some k_ ≠ (.slice Ao33 t317.length co33 : Value).ownBlock) s_.2.2.2.1 y347) ∧ (Kd.R (Kd.int .u8) 5 w' w.heap.size (fun k_ => some k_ ≠ (s_.2.2.1 : Value).ownBlock ∧ some k_ ≠ (s_.2.2.2.1 : Value).ownBlock) (.slice Ao33 t317.length co33) t317) ∧ (w'.heap[gb305]? = some (.cells #[.int .i64 a0_0, .int .u64 a0_1, .int .u64 a0_2, .string a0_3, .string a0_4, .string a0_5, .string a0_6, .int .i64 a0_7, .int .i64 a0_8, .int .i64 a0_9] 24 (0, 0))) ∧ (w'.heap[gb337]? = some (.cells #[.int .i64 t325, .int .u64 t326, .int .u64 t327, .string t328, .string t329, .string t330, .string t331, .int .i64 t332, .int .i64 t333, .int .i64 t334] 24 (0, 0))) ∧ (w'.heap[s_.2.2.2.2]? = some (.cells #[.int .i64 0, .int .u64 0, .int .u64 0, .string (⟨#[]⟩ : ByteArray), .string (⟨#[]⟩ : ByteArray), .string (⟨#[]⟩ : ByteArray), .string (⟨#[]⟩ : ByteArray), .int .i64 0, .int .i64 0, .int .i64 0] 24 (0, 0))) ∧ (w.heap.size ≤ s_.2.2.2.2) ∧ (w.heap.size ≤ s_.2.2.2.2) ∧ (gb305 ≠ s_.2.2.2.2) ∧ (s_.2.2.2.2 ≠ gb305) ∧ (gb337 ≠ s_.2.2.2.2) ∧ (s_.2.2.2.2 ≠ gb337) ∧ (Below w.heap.size w w')) ?_ ?_
                    rotate_left
                    ·
                     intro hJ0_2_3_4_16
                     refine join_ (σ := Value × Value × Value × Value) 10 #[true, true, true, true, true, true, true, true, true, true, false, false, false, false, false, false, false, false, false, false] (fun s_ => [(50, s_.1), (52, s_.2.1), (53, s_.2.2.1), (54, s_.2.2.2)]) (fun s_ w' => (Kd.R (Kd.int .u8) 5 w' w.heap.size (fun k_ => some k_ ≠ (s_.2.2.2 : Value).ownBlock ∧ some k_ ≠ (.slice Ao33 t317.length co33 : Value).ownBlock) s_.2.2.1 y344) ∧ (Kd.R (Kd.int .u8) 5 w' w.heap.size (fun k_ => some k_ ≠ (s_.2.2.1 : Value).ownBlock ∧ some k_ ≠ (.slice Ao33 t317.length co33 : Value).ownBlock) s_.2.2.2 y347) ∧ (Kd.R (Kd.int .u8) 5 w' w.heap.size (fun k_ => some k_ ≠ (s_.2.2.1 : Value).ownBlock ∧ some k_ ≠ (s_.2.2.2 : Value).ownBlock) (.slice Ao33 t317.length co33) t317) ∧ (w'.heap[gb305]? = some (.cells #[.int .i64 a0_0, .int .u64 a0_1, .int .u64 a0_2, .string a0_3, .string a0_4, .string a0_5, .string a0_6, .int .i64 a0_7, .int .i64 a0_8, .int .i64 a0_9] 24 (0, 0))) ∧ (w'.heap[gb337]? = some (.cells #[.int .i64 t325, .int .u64 t326, .int .u64 t327, .string t328, .string t329, .string t330, .string t331, .int .i64 t332, .int .i64 t333, .int .i64 t334] 24 (0, 0))) ∧ (Below w.heap.size w w')) ?_ ?_
                     rotate_left
                     ·
                      intro hJ0_2_3_4
                      refine join_ (σ := Value × Value × Value × Nat) 10 #[true, true, true, true, false, true, true, true, true, true, false, false, false, false, false, false, true, false, false, false] (fun s_ => [(50, s_.1), (52, s_.2.1), (53, s_.2.2.1), (14, .pointer (some ⟨s_.2.2.2, 0, none⟩))]) (fun s_ w' => (Kd.R (Kd.int .u8) 5 w' w.heap.size (fun k_ => some k_ ≠ (s_.2.2.1 : Value).ownBlock ∧ some k_ ≠ (.slice Ao33 t317.length co33 : Value).ownBlock) s_.2.1 y341) ∧ (Kd.R (Kd.int .u8) 5 w' w.heap.size (fun k_ => some k_ ≠ (s_.2.1 : Value).ownBlock ∧ some k_ ≠ (.slice Ao33 t317.length co33 : Value).ownBlock) s_.2.2.1 y344) ∧ (Kd.R (Kd.int .u8) 5 w' w.heap.size (fun k_ => some k_ ≠ (s_.2.1 : Value).ownBlock ∧ some k_ ≠ (s_.2.2.1 : Value).ownBlock) (.slice Ao33 t317.length co33) t317) ∧ (w'.heap[gb305]? = some (.cells #[.int .i64 a0_0, .int .u64 a0_1, .int .u64 a0_2, .string a0_3, .string a0_4, .string a0_5, .string a0_6, .int .i64 a0_7, .int .i64 a0_8, .int .i64 a0_9] 24 (0, 0))) ∧ (w'.heap[gb337]? = some (.cells #[.int .i64 t325, .int .u64 t326, .int .u64 t327, .string t328, .string t329, .string t330, .string t331, .int .i64 t332, .int .i64 t333, .int .i64 t334] 24 (0, 0))) ∧ (w'.heap[s_.2.2.2]? = some (.cells #[.int .i64 0, .int .u64 0, .int .u64 0, .string (⟨#[]⟩ : ByteArray), .string (⟨#[]⟩ : ByteArray), .string (⟨#[]⟩ : ByteArray), .string (⟨#[]⟩ : ByteArray), .int .i64 0, .int .i64 0, .int .i64 0] 24 (0, 0))) ∧ (w.heap.size ≤ s_.2.2.2) ∧ (w.heap.size ≤ s_.2.2.2) ∧ (gb305 ≠ s_.2.2.2) ∧ (s_.2.2.2 ≠ gb305) ∧ (gb337 ≠ s_.2.2.2) ∧ (s_.2.2.2 ≠ gb337) ∧ (Below w.heap.size w w')) ?_ ?_
                      rotate_left
                      ·
                       intro hJ0_2_3_16
                       refine join_ (σ := Value × Value × Value) 11 #[true, true, true, true, false, true, true, true, true, true, false, false, false, false, false, false, false, false, false, false] (fun s_ => [(50, s_.1), (52, s_.2.1), (53, s_.2.2)]) (fun s_ w' => (Kd.R (Kd.int .u8) 5 w' w.heap.size (fun k_ => some k_ ≠ (s_.2.2 : Value).ownBlock ∧ some k_ ≠ (.slice Ao33 t317.length co33 : Value).ownBlock) s_.2.1 y341) ∧ (Kd.R (Kd.int .u8) 5 w' w.heap.size (fun k_ => some k_ ≠ (s_.2.1 : Value).ownBlock ∧ some k_ ≠ (.slice Ao33 t317.length co33 : Value).ownBlock) s_.2.2 y344) ∧ (Kd.R (Kd.int .u8) 5 w' w.heap.size (fun k_ => some k_ ≠ (s_.2.1 : Value).ownBlock ∧ some k_ ≠ (s_.2.2 : Value).ownBlock) (.slice Ao33 t317.length co33) t317) ∧ (w'.heap[gb305]? = some (.cells #[.int .i64 a0_0, .int .u64 a0_1, .int .u64 a0_2, .string a0_3, .string a0_4, .string a0_5, .string a0_6, .int .i64 a0_7, .int .i64 a0_8, .int .i64 a0_9] 24 (0, 0))) ∧ (w'.heap[gb337]? = some (.cells #[.int .i64 t325, .int .u64 t326, .int .u64 t327, .string t328, .string t329, .string t330, .string t331, .int .i64 t332, .int .i64 t333, .int .i64 t334] 24 (0, 0))) ∧ (Below w.heap.size w w')) ?_ ?_
                       rotate_left
                       ·
                        intro hJ0_2_3
                        refine join_ (σ := Value × Value × Nat) 11 #[true, true, true, false, false, true, true, true, true, true, false, false, false, false, false, false, true, false, false, false] (fun s_ => [(50, s_.1), (52, s_.2.1), (14, .pointer (some ⟨s_.2.2, 0, none⟩))]) (fun s_ w' => (Kd.R (Kd.int .u8) 5 w' w.heap.size (fun k_ => some k_ ≠ (.slice Ao33 t317.length co33 : Value).ownBlock) s_.2.1 y341) ∧ (Kd.R (Kd.int .u8) 5 w' w.heap.size (fun k_ => some k_ ≠ (s_.2.1 : Value).ownBlock) (.slice Ao33 t317.length co33) t317) ∧ (w'.heap[gb305]? = some (.cells #[.int .i64 a0_0, .int .u64 a0_1, .int .u64 a0_2, .string a0_3, .string a0_4, .string a0_5, .string a0_6, .int .i64 a0_7, .int .i64 a0_8, .int .i64 a0_9] 24 (0, 0))) ∧ (w'.heap[gb337]? = some (.cells #[.int .i64 t325, .int .u64 t326, .int .u64 t327, .string t328, .string t329, .string t330, .string t331, .int .i64 t332, .int .i64 t333, .int .i64 t334] 24 (0, 0))) ∧ (w'.heap[s_.2.2]? = some (.cells #[.int .i64 0, .int .u64 0, .int .u64 0, .string (⟨#[]⟩ : ByteArray), .string (⟨#[]⟩ : ByteArray), .string (⟨#[]⟩ : ByteArray), .string (⟨#[]⟩ : ByteArray), .int .i64 0, .int .i64 0, .int .i64 0] 24 (0, 0))) ∧ (w.heap.size ≤ s_.2.2) ∧ (w.heap.size ≤ s_.2.2) ∧ (gb305 ≠ s_.2.2) ∧ (s_.2.2 ≠ gb305) ∧ (gb337 ≠ s_.2.2) ∧ (s_.2.2 ≠ gb337) ∧ (Below w.heap.size w w')) ?_ ?_
                        rotate_left
                        ·
                         intro hJ0_2_16
                         refine join_ (σ := Value × Value × Nat) 11 #[true, true, false, true, false, true, true, true, true, true, false, false, false, false, false, false, true, false, false, false] (fun s_ => [(50, s_.1), (53, s_.2.1), (14, .pointer (some ⟨s_.2.2, 0, none⟩))]) (fun s_ w' => (Kd.R (Kd.int .u8) 5 w' w.heap.size (fun k_ => some k_ ≠ (s_.2.1 : Value).ownBlock ∧ some k_ ≠ (.slice Ao33 t317.length co33 : Value).ownBlock) s_.1 y338) ∧ (Kd.R (Kd.int .u8) 5 w' w.heap.size (fun k_ => some k_ ≠ (s_.1 : Value).ownBlock ∧ some k_ ≠ (.slice Ao33 t317.length co33 : Value).ownBlock) s_.2.1 y344) ∧ (Kd.R (Kd.int .u8) 5 w' w.heap.size (fun k_ => some k_ ≠ (s_.1 : Value).ownBlock ∧ some k_ ≠ (s_.2.1 : Value).ownBlock) (.slice Ao33 t317.length co33) t317) ∧ (w'.heap[gb305]? = some (.cells #[.int .i64 a0_0, .int .u64 a0_1, .int .u64 a0_2, .string a0_3, .string a0_4, .string a0_5, .string a0_6, .int .i64 a0_7, .int .i64 a0_8, .int .i64 a0_9] 24 (0, 0))) ∧ (w'.heap[gb337]? = some (.cells #[.int .i64 t325, .int .u64 t326, .int .u64 t327, .string t328, .string t329, .string t330, .string t331, .int .i64 t332, .int .i64 t333, .int .i64 t334] 24 (0, 0))) ∧ (w'.heap[s_.2.2]? = some (.cells #[.int .i64 0, .int .u64 0, .int .u64 0, .string (⟨#[]⟩ : ByteArray), .string (⟨#[]⟩ : ByteArray), .string (⟨#[]⟩ : ByteArray), .string (⟨#[]⟩ : ByteArray), .int .i64 0, .int .i64 0, .int .i64 0] 24 (0, 0))) ∧ (w.heap.size ≤ s_.2.2) ∧ (w.heap.size ≤ s_.2.2) ∧ (gb305 ≠ s_.2.2) ∧ (s_.2.2 ≠ gb305) ∧ (gb337 ≠ s_.2.2) ∧ (s_.2.2 ≠ gb337) ∧ (Below w.heap.size w w')) ?_ ?_
                         rotate_left
                         ·
                          intro hJ0_3_16
                          refine join_ (σ := Value × Value) 12 #[true, true, true, false, false, true, true, true, true, true, false, false, false, false, false, false, false, false, false, false] (fun s_ => [(50, s_.1), (52, s_.2)]) (fun s_ w' => (Kd.R (Kd.int .u8) 5 w' w.heap.size (fun k_ => some k_ ≠ (.slice Ao33 t317.length co33 : Value).ownBlock) s_.2 y341) ∧ (Kd.R (Kd.int .u8) 5 w' w.heap.size (fun k_ => some k_ ≠ (s_.2 : Value).ownBlock) (.slice Ao33 t317.length co33) t317) ∧ (w'.heap[gb305]? = some (.cells #[.int .i64 a0_0, .int .u64 a0_1, .int .u64 a0_2, .string a0_3, .string a0_4, .string a0_5, .string a0_6, .int .i64 a0_7, .int .i64 a0_8, .int .i64 a0_9] 24 (0, 0))) ∧ (w'.heap[gb337]? = some (.cells #[.int .i64 t325, .int .u64 t326, .int .u64 t327, .string t328, .string t329, .string t330, .string t331, .int .i64 t332, .int .i64 t333, .int .i64 t334] 24 (0, 0))) ∧ (Below w.heap.size w w')) ?_ ?_
                          rotate_left
                          ·
                           intro hJ0_2
                           refine join_ (σ := Value × Value) 12 #[true, true, false, true, false, true, true, true, true, true, false, false, false, false, false, false, false, false, false, false] (fun s_ => [(50, s_.1), (53, s_.2)]) (fun s_ w' => (Kd.R (Kd.int .u8) 5 w' w.heap.size (fun k_ => some k_ ≠ (s_.2 : Value).ownBlock ∧ some k_ ≠ (.slice Ao33 t317.length co33 : Value).ownBlock) s_.1 y338) ∧ (Kd.R (Kd.int .u8) 5 w' w.heap.size (fun k_ => some k_ ≠ (s_.1 : Value).ownBlock ∧ some k_ ≠ (.slice Ao33 t317.length co33 : Value).ownBlock) s_.2 y344) ∧ (Kd.R (Kd.int .u8) 5 w' w.heap.size (fun k_ => some k_ ≠ (s_.1 : Value).ownBlock ∧ some k_ ≠ (s_.2 : Value).ownBlock) (.slice Ao33 t317.length co33) t317) ∧ (w'.heap[gb305]? = some (.cells #[.int .i64 a0_0, .int .u64 a0_1, .int .u64 a0_2, .string a0_3, .string a0_4, .string a0_5, .string a0_6, .int .i64 a0_7, .int .i64 a0_8, .int .i64 a0_9] 24 (0, 0))) ∧ (w'.heap[gb337]? = some (.cells #[.int .i64 t325, .int .u64 t326, .int .u64 t327, .string t328, .string t329, .string t330, .string t331, .int .i64 t332, .int .i64 t333, .int .i64 t334] 24 (0, 0))) ∧ (Below w.heap.size w w')) ?_ ?_
                           rotate_left
                           ·
                            intro hJ0_3
                            refine join_ (σ := Value × Nat) 12 #[true, true, false, false, false, true, true, true, true, true, false, false, false, false, false, false, true, false, false, false] (fun s_ => [(50, s_.1), (14, .pointer (some ⟨s_.2, 0, none⟩))]) (fun s_ w' => (Kd.R (Kd.int .u8) 5 w' w.heap.size (fun k_ => some k_ ≠ (.slice Ao33 t317.length co33 : Value).ownBlock) s_.1 y338) ∧ (Kd.R (Kd.int .u8) 5 w' w.heap.size (fun k_ => some k_ ≠ (s_.1 : Value).ownBlock) (.slice Ao33 t317.length co33) t317) ∧ (w'.heap[gb305]? = some (.cells #[.int .i64 a0_0, .int .u64 a0_1, .int .u64 a0_2, .string a0_3, .string a0_4, .string a0_5, .string a0_6, .int .i64 a0_7, .int .i64 a0_8, .int .i64 a0_9] 24 (0, 0))) ∧ (w'.heap[gb337]? = some (.cells #[.int .i64 t325, .int .u64 t326, .int .u64 t327, .string t328, .string t329, .string t330, .string t331, .int .i64 t332, .int .i64 t333, .int .i64 t334] 24 (0, 0))) ∧ (w'.heap[s_.2]? = some (.cells #[.int .i64 0, .int .u64 0, .int .u64 0, .string (⟨#[]⟩ : ByteArray), .string (⟨#[]⟩ : ByteArray), .string (⟨#[]⟩ : ByteArray), .string (⟨#[]⟩ : ByteArray), .int .i64 0, .int .i64 0, .int .i64 0] 24 (0, 0))) ∧ (w.heap.size ≤ s_.2) ∧ (w.heap.size ≤ s_.2) ∧ (gb305 ≠ s_.2) ∧ (s_.2 ≠ gb305) ∧ (gb337 ≠ s_.2) ∧ (s_.2 ≠ gb337) ∧ (Below w.heap.size w w')) ?_ ?_
                            rotate_left
                            ·
                             intro hJ0_16
                             refine join_ (σ := Value × Nat) 12 #[false, true, false, true, false, true, true, true, true, true, false, false, false, false, false, false, true, false, false, false] (fun s_ => [(53, s_.1), (14, .pointer (some ⟨s_.2, 0, none⟩))]) (fun s_ w' => (Kd.R (Kd.int .u8) 5 w' w.heap.size (fun k_ => some k_ ≠ (.slice Ao33 t317.length co33 : Value).ownBlock) s_.1 y344) ∧ (Kd.R (Kd.int .u8) 5 w' w.heap.size (fun k_ => some k_ ≠ (s_.1 : Value).ownBlock) (.slice Ao33 t317.length co33) t317) ∧ (w'.heap[gb305]? = some (.cells #[.int .i64 a0_0, .int .u64 a0_1, .int .u64 a0_2, .string a0_3, .string a0_4, .string a0_5, .string a0_6, .int .i64 a0_7, .int .i64 a0_8, .int .i64 a0_9] 24 (0, 0))) ∧ (w'.heap[gb337]? = some (.cells #[.int .i64 t325, .int .u64 t326, .int .u64 t327, .string t328, .string t329, .string t330, .string t331, .int .i64 t332, .int .i64 t333, .int .i64 t334] 24 (0, 0))) ∧ (w'.heap[s_.2]? = some (.cells #[.int .i64 0, .int .u64 0, .int .u64 0, .string (⟨#[]⟩ : ByteArray), .string (⟨#[]⟩ : ByteArray), .string (⟨#[]⟩ : ByteArray), .string (⟨#[]⟩ : ByteArray), .int .i64 0, .int .i64 0, .int .i64 0] 24 (0, 0))) ∧ (w.heap.size ≤ s_.2) ∧ (w.heap.size ≤ s_.2) ∧ (gb305 ≠ s_.2) ∧ (s_.2 ≠ gb305) ∧ (gb337 ≠ s_.2) ∧ (s_.2 ≠ gb337) ∧ (Below w.heap.size w w')) ?_ ?_
                             rotate_left
                             ·
                              intro hJ3_16
                              refine join_ (σ := Value) 13 #[true, true, false, false, false, true, true, true, true, true, false, false, false, false, false, false, false, false, false, false] (fun s_ => [(50, s_)]) (fun s_ w' => (Kd.R (Kd.int .u8) 5 w' w.heap.size (fun k_ => some k_ ≠ (.slice Ao33 t317.length co33 : Value).ownBlock) s_ y338) ∧ (Kd.R (Kd.int .u8) 5 w' w.heap.size (fun k_ => some k_ ≠ (s_ : Value).ownBlock) (.slice Ao33 t317.length co33) t317) ∧ (w'.heap[gb305]? = some (.cells #[.int .i64 a0_0, .int .u64 a0_1, .int .u64 a0_2, .string a0_3, .string a0_4, .string a0_5, .string a0_6, .int .i64 a0_7, .int .i64 a0_8, .int .i64 a0_9] 24 (0, 0))) ∧ (w'.heap[gb337]? = some (.cells #[.int .i64 t325, .int .u64 t326, .int .u64 t327, .string t328, .string t329, .string t330, .string t331, .int .i64 t332, .int .i64 t333, .int .i64 t334] 24 (0, 0))) ∧ (Below w.heap.size w w')) ?_ ?_
                              rotate_left
                              ·
                               intro hJ0
                               refine join_ (σ := Value) 13 #[false, true, false, true, false, true, true, true, true, true, false, false, false, false, false, false, false, false, false, false] (fun s_ => [(53, s_)]) (fun s_ w' => (Kd.R (Kd.int .u8) 5 w' w.heap.size (fun k_ => some k_ ≠ (.slice Ao33 t317.length co33 : Value).ownBlock) s_ y344) ∧ (Kd.R (Kd.int .u8) 5 w' w.heap.size (fun k_ => some k_ ≠ (s_ : Value).ownBlock) (.slice Ao33 t317.length co33) t317) ∧ (w'.heap[gb305]? = some (.cells #[.int .i64 a0_0, .int .u64 a0_1, .int .u64 a0_2, .string a0_3, .string a0_4, .string a0_5, .string a0_6, .int .i64 a0_7, .int .i64 a0_8, .int .i64 a0_9] 24 (0, 0))) ∧ (w'.heap[gb337]? = some (.cells #[.int .i64 t325, .int .u64 t326, .int .u64 t327, .string t328, .string t329, .string t330, .string t331, .int .i64 t332, .int .i64 t333, .int .i64 t334] 24 (0, 0))) ∧ (Below w.heap.size w w')) ?_ ?_
                               rotate_left
                               ·
                                intro hJ3
                                refine join_ (σ := Nat) 13 #[false, true, false, false, false, true, true, true, true, true, false, false, false, false, false, false, true, false, false, false] (fun s_ => [(14, .pointer (some ⟨s_, 0, none⟩))]) (fun s_ w' => (Kd.R (Kd.int .u8) 5 w' w.heap.size (fun _ => True) (.slice Ao33 t317.length co33) t317) ∧ (w'.heap[gb305]? = some (.cells #[.int .i64 a0_0, .int .u64 a0_1, .int .u64 a0_2, .string a0_3, .string a0_4, .string a0_5, .string a0_6, .int .i64 a0_7, .int .i64 a0_8, .int .i64 a0_9] 24 (0, 0))) ∧ (w'.heap[gb337]? = some (.cells #[.int .i64 t325, .int .u64 t326, .int .u64 t327, .string t328, .string t329, .string t330, .string t331, .int .i64 t332, .int .i64 t333, .int .i64 t334] 24 (0, 0))) ∧ (w'.heap[s_]? = some (.cells #[.int .i64 0, .int .u64 0, .int .u64 0, .string (⟨#[]⟩ : ByteArray), .string (⟨#[]⟩ : ByteArray), .string (⟨#[]⟩ : ByteArray), .string (⟨#[]⟩ : ByteArray), .int .i64 0, .int .i64 0, .int .i64 0] 24 (0, 0))) ∧ (w.heap.size ≤ s_) ∧ (w.heap.size ≤ s_) ∧ (gb305 ≠ s_) ∧ (s_ ≠ gb305) ∧ (gb337 ≠ s_) ∧ (s_ ≠ gb337) ∧ (Below w.heap.size w w')) ?_ ?_
                                rotate_left
                                ·
                                 intro hJ16
                                 refine three_ (i := 0) (j := 3) (k := 16) (Ni := some 50) (Nj := some 53) (Nk := some 14) #[true, true, false, false, false, true, true, true, true, true, false, false, false, false, false, false, false, false, false, false] #[false, true, false, true, false, true, true, true, true, true, false, false, false, false, false, false, false, false, false, false] #[false, true, false, false, false, true, true, true, true, true, false, false, false, false, false, false, true, false, false, false] rfl rfl rfl rfl rfl rfl (three_of HT_.out (by kernel_rfl)) (by decide) (by decide) (by decide) (fun K hK => ?_) (fun K hK => ?_) (fun K hK => ?_)
                                 ·
                                  skip
                                  refine Kd.R_lit_step (Kd.int .u8) _ 5 ?hg (N := 50) ?hd (xs := ([] : List Int)) (inner := []) (ok := fun _ => True) (okp := fun _ => True) ?hr ?hp (fun _ hk => hk) trivial (Below.refl _ _) (Nat.le_refl _) (by simp) ?_; (case hd => rfl); (case hg => rfl); (case hr => first | (go_simp; done) | (go_simp; rfl)); (case hp => exact (Reps.none _ _))
                                  intro v339 w42 ho43 hb hg_ hnew_
                                  clear hg_ hnew_
                                  (first | rw [← Ny338.out] at ho43 | (simp only [Int.reduceToNat] at ho43; rw [← Ny338.out] at ho43))
                                  have n0_ := aM (rE (by (with_reducible repeat first | apply rA | apply rN | apply rD); exact HO_8.out) (rS ho43) hb)
                                  have n1_ := aM (rL (rW ho43 (rT (by (with_reducible repeat first | apply rA | apply rN | apply rD); exact HO_8.out))) (lZ (by repeat (first | (with_reducible first | exact HB.out | apply lA | apply lN | apply lD | refine lT ?_ GE305.out | refine lT ?_ GE337.out) | exact HB.out))))
                                  have n2_ := aM (bB (g := gb305) (o := .cells #[.int .i64 a0_0, .int .u64 a0_1, .int .u64 a0_2, .string a0_3, .string a0_4, .string a0_5, .string a0_6, .int .i64 a0_7, .int .i64 a0_8, .int .i64 a0_9] 24 (0, 0)) (by (with_reducible repeat first | refine bN ?_ _ | refine bD ?_ | refine bA ?_ _); exact BK305.out) hb)
                                  have n3_ := aM (bB (g := gb337) (o := .cells #[.int .i64 t325, .int .u64 t326, .int .u64 t327, .string t328, .string t329, .string t330, .string t331, .int .i64 t332, .int .i64 t333, .int .i64 t334] 24 (0, 0)) (by (with_reducible repeat first | refine bN ?_ _ | refine bD ?_ | refine bA ?_ _); exact BK337.out) hb)
                                  have n4_ := aM (lS (by repeat (first | (with_reducible first | exact HB.out | apply lA | apply lN | apply lD | refine lT ?_ GE305.out | refine lT ?_ GE337.out) | exact HB.out)) hb)
                                  clear HO_8
                                  clear BK305
                                  clear BK337
                                  clear HB
                                  have HO_8 := n0_
                                  have HO340 := n1_
                                  have BK305 := n2_
                                  have BK337 := n3_
                                  have HB := n4_
                                  clear n0_ n1_ n2_ n3_ n4_
                                  clear hb ho43
                                  refine hK.out _ _ trivial (fun hHeld => ?_)
                                  clear hK K
                                  refine norm_ (a' := ?_) ?_ ?_
                                  rotate_left
                                  ·
                                   show Act.put _ (some 50) _ = _
                                   simp only [Act.put, sA, sZ, sS, i64_w, i32_w]
                                   rfl
                                  exact norm_ (by simp only [putAll, Act.put, sA, sZ, sS] <;> rfl) (hJ0 (v339) _ ⟨(by (with_reducible repeat first | apply rA | apply rN | apply rD); exact rM HO340.out (fun _ hk => hk.2)), (by (with_reducible repeat first | apply rA | apply rN | apply rD); exact rM HO_8.out (fun _ hk => hk.2)), (by (with_reducible repeat first | refine bN ?_ _ | refine bD ?_ | refine bA ?_ _); exact BK305.out), (by (with_reducible repeat first | refine bN ?_ _ | refine bD ?_ | refine bA ?_ _); exact BK337.out), (by repeat (first | (with_reducible first | exact HB.out | apply lA | apply lN | apply lD | refine lT ?_ GE305.out | refine lT ?_ GE337.out) | exact HB.out))⟩)
                                 ·
                                  skip
                                  refine Kd.R_lit_step (Kd.int .u8) _ 5 ?hg (N := 53) ?hd (xs := ([1] : List Int)) (inner := [.int .u8 1]) (ok := fun _ => True) (okp := fun _ => True) ?hr ?hp (fun _ hk => hk) trivial (Below.refl _ _) (Nat.le_refl _) (by simp) ?_; (case hd => rfl); (case hg => rfl); (case hr => first | (go_simp; done) | (go_simp; rfl)); (case hp => exact (Reps.one (show Kd.M (Kd.int .u8) _ _ _ 1 [.int .u8 1] from rfl) (Reps.none _ _)))
                                  intro v345 w42 ho43 hb hg_ hnew_
                                  clear hg_ hnew_
                                  (first | rw [← Ny344.out] at ho43 | (simp only [Int.reduceToNat] at ho43; rw [← Ny344.out] at ho43))
                                  have n0_ := aM (rE (by (with_reducible repeat first | apply rA | apply rN | apply rD); exact HO_8.out) (rS ho43) hb)
                                  have n1_ := aM (rL (rW ho43 (rT (by (with_reducible repeat first | apply rA | apply rN | apply rD); exact HO_8.out))) (lZ (by repeat (first | (with_reducible first | exact HB.out | apply lA | apply lN | apply lD | refine lT ?_ GE305.out | refine lT ?_ GE337.out) | exact HB.out))))
                                  have n2_ := aM (bB (g := gb305) (o := .cells #[.int .i64 a0_0, .int .u64 a0_1, .int .u64 a0_2, .string a0_3, .string a0_4, .string a0_5, .string a0_6, .int .i64 a0_7, .int .i64 a0_8, .int .i64 a0_9] 24 (0, 0)) (by (with_reducible repeat first | refine bN ?_ _ | refine bD ?_ | refine bA ?_ _); exact BK305.out) hb)
                                  have n3_ := aM (bB (g := gb337) (o := .cells #[.int .i64 t325, .int .u64 t326, .int .u64 t327, .string t328, .string t329, .string t330, .string t331, .int .i64 t332, .int .i64 t333, .int .i64 t334] 24 (0, 0)) (by (with_reducible repeat first | refine bN ?_ _ | refine bD ?_ | refine bA ?_ _); exact BK337.out) hb)
                                  have n4_ := aM (lS (by repeat (first | (with_reducible first | exact HB.out | apply lA | apply lN | apply lD | refine lT ?_ GE305.out | refine lT ?_ GE337.out) | exact HB.out)) hb)
                                  clear HO_8
                                  clear BK305
                                  clear BK337
                                  clear HB
                                  have HO_8 := n0_
                                  have HO346 := n1_
                                  have BK305 := n2_
                                  have BK337 := n3_
                                  have HB := n4_
                                  clear n0_ n1_ n2_ n3_ n4_
                                  clear hb ho43
                                  refine hK.out _ _ trivial (fun hHeld => ?_)
                                  clear hK K
                                  refine norm_ (a' := ?_) ?_ ?_
                                  rotate_left
                                  ·
                                   show Act.put _ (some 53) _ = _
                                   simp only [Act.put, sA, sZ, sS, i64_w, i32_w]
                                   rfl
                                  exact norm_ (by simp only [putAll, Act.put, sA, sZ, sS] <;> rfl) (hJ3 (v345) _ ⟨(by (with_reducible repeat first | apply rA | apply rN | apply rD); exact rM HO346.out (fun _ hk => hk.2)), (by (with_reducible repeat first | apply rA | apply rN | apply rD); exact rM HO_8.out (fun _ hk => hk.2)), (by (with_reducible repeat first | refine bN ?_ _ | refine bD ?_ | refine bA ?_ _); exact BK305.out), (by (with_reducible repeat first | refine bN ?_ _ | refine bD ?_ | refine bA ?_ _); exact BK337.out), (by repeat (first | (with_reducible first | exact HB.out | apply lA | apply lN | apply lD | refine lT ?_ GE305.out | refine lT ?_ GE337.out) | exact HB.out))⟩)
                                 ·
                                  skip
                                  refine box_step ?hg (N := 14) ?hd (cs := #[.int .i64 0, .int .u64 0, .int .u64 0, .string (⟨#[]⟩ : ByteArray), .string (⟨#[]⟩ : ByteArray), .string (⟨#[]⟩ : ByteArray), .string (⟨#[]⟩ : ByteArray), .int .i64 0, .int .i64 0, .int .i64 0]) (t := 24) ?hr ?_; (case hd => rfl); (case hg => rfl); (case hr => first | (go_simp; done) | (go_simp; rfl))
                                  intro gb366 hg w42 hbox hb
                                  have n0_ := aM (rB (by (with_reducible repeat first | apply rA | apply rN | apply rD); exact HO_8.out) hb)
                                  have n1_ := aM (bB (g := gb305) (o := .cells #[.int .i64 a0_0, .int .u64 a0_1, .int .u64 a0_2, .string a0_3, .string a0_4, .string a0_5, .string a0_6, .int .i64 a0_7, .int .i64 a0_8, .int .i64 a0_9] 24 (0, 0)) (by (with_reducible repeat first | refine bN ?_ _ | refine bD ?_ | refine bA ?_ _); exact BK305.out) hb)
                                  have n2_ := aM (bB (g := gb337) (o := .cells #[.int .i64 t325, .int .u64 t326, .int .u64 t327, .string t328, .string t329, .string t330, .string t331, .int .i64 t332, .int .i64 t333, .int .i64 t334] 24 (0, 0)) (by (with_reducible repeat first | refine bN ?_ _ | refine bD ?_ | refine bA ?_ _); exact BK337.out) hb)
                                  have n3_ := aM (lS (by repeat (first | (with_reducible first | exact HB.out | apply lA | apply lN | apply lD | refine lT ?_ GE305.out | refine lT ?_ GE337.out) | exact HB.out)) hb)
                                  have n4_ := aM (hbox)
                                  have n5_ := aM ((by rw [hg]; exact (lZ (by repeat (first | (with_reducible first | exact HB.out | apply lA | apply lN | apply lD | refine lT ?_ GE305.out | refine lT ?_ GE337.out) | exact HB.out))) : w.heap.size ≤ gb366))
                                  have n6_ := aM ((by rw [hg]; exact (lZ (by repeat (first | (with_reducible first | exact HB.out | apply lA | apply lN | apply lD | refine lT ?_ GE305.out | refine lT ?_ GE337.out) | exact HB.out))) : w.heap.size ≤ gb366))
                                  have n7_ := aM ((by rw [hg]; exact Nat.ne_of_lt (blk_lt (g := gb305) (o := .cells #[.int .i64 a0_0, .int .u64 a0_1, .int .u64 a0_2, .string a0_3, .string a0_4, .string a0_5, .string a0_6, .int .i64 a0_7, .int .i64 a0_8, .int .i64 a0_9] 24 (0, 0)) (by (with_reducible repeat first | refine bN ?_ _ | refine bD ?_ | refine bA ?_ _); exact BK305.out)) : gb305 ≠ gb366))
                                  have n8_ := aM ((by rw [hg]; exact Nat.ne_of_gt (blk_lt (g := gb305) (o := .cells #[.int .i64 a0_0, .int .u64 a0_1, .int .u64 a0_2, .string a0_3, .string a0_4, .string a0_5, .string a0_6, .int .i64 a0_7, .int .i64 a0_8, .int .i64 a0_9] 24 (0, 0)) (by (with_reducible repeat first | refine bN ?_ _ | refine bD ?_ | refine bA ?_ _); exact BK305.out)) : gb366 ≠ gb305))
                                  have n9_ := aM ((by rw [hg]; exact Nat.ne_of_lt (blk_lt (g := gb337) (o := .cells #[.int .i64 t325, .int .u64 t326, .int .u64 t327, .string t328, .string t329, .string t330, .string t331, .int .i64 t332, .int .i64 t333, .int .i64 t334] 24 (0, 0)) (by (with_reducible repeat first | refine bN ?_ _ | refine bD ?_ | refine bA ?_ _); exact BK337.out)) : gb337 ≠ gb366))
                                  have n10_ := aM ((by rw [hg]; exact Nat.ne_of_gt (blk_lt (g := gb337) (o := .cells #[.int .i64 t325, .int .u64 t326, .int .u64 t327, .string t328, .string t329, .string t330, .string t331, .int .i64 t332, .int .i64 t333, .int .i64 t334] 24 (0, 0)) (by (with_reducible repeat first | refine bN ?_ _ | refine bD ?_ | refine bA ?_ _); exact BK337.out)) : gb366 ≠ gb337))
                                  clear HO_8
                                  clear BK305
                                  clear BK337
                                  clear HB
                                  have HO_8 := n0_
                                  have BK305 := n1_
                                  have BK337 := n2_
                                  have HB := n3_
                                  have BK366 := n4_
                                  have GW366 := n5_
                                  have GE366 := n6_
                                  have NB305_366 := n7_
                                  have NB366_305 := n8_
                                  have NB337_366 := n9_
                                  have NB366_337 := n10_
                                  clear n0_ n1_ n2_ n3_ n4_ n5_ n6_ n7_ n8_ n9_ n10_
                                  clear hb hbox hg
                                  refine hK.out _ _ trivial (fun hHeld => ?_)
                                  clear hK K
                                  refine norm_ (a' := ?_) ?_ ?_
                                  rotate_left
                                  ·
                                   show Act.put _ (some 14) _ = _
                                   simp only [Act.put, sA, sZ, sS, i64_w, i32_w]
                                   rfl
                                  exact norm_ (by simp only [putAll, Act.put, sA, sZ, sS] <;> rfl) (hJ16 (gb366) _ ⟨(by (with_reducible repeat first | apply rA | apply rN | apply rD); exact HO_8.out), (by (with_reducible repeat first | refine bN ?_ _ | refine bD ?_ | refine bA ?_ _); exact BK305.out), (by (with_reducible repeat first | refine bN ?_ _ | refine bD ?_ | refine bA ?_ _); exact BK337.out), (by (with_reducible repeat first | refine bN ?_ _ | refine bD ?_ | refine bA ?_ _); exact BK366.out), GW366.out, GE366.out, NB305_366.out, NB366_305.out, NB337_366.out, NB366_337.out, (by repeat (first | (with_reducible first | exact HB.out | apply lA | apply lN | apply lD | refine lT ?_ GE305.out | refine lT ?_ GE337.out | refine lT ?_ GE366.out) | exact HB.out))⟩)
                                ·
                                 skip
                                 rintro gb366 w43 ⟨h0_, h1_, h2_, h3_, h4_, h5_, h6_, h7_, h8_, h9_, h10_⟩
                                 have n0_ : Aside0 (Kd.R (Kd.int .u8) 5 w43 w.heap.size (fun _ => True) (.slice Ao33 t317.length co33) t317) := ⟨h0_⟩
                                 have n1_ : Aside0 (w43.heap[gb305]? = some (.cells #[.int .i64 a0_0, .int .u64 a0_1, .int .u64 a0_2, .string a0_3, .string a0_4, .string a0_5, .string a0_6, .int .i64 a0_7, .int .i64 a0_8, .int .i64 a0_9] 24 (0, 0))) := ⟨h1_⟩
                                 have n2_ : Aside0 (w43.heap[gb337]? = some (.cells #[.int .i64 t325, .int .u64 t326, .int .u64 t327, .string t328, .string t329, .string t330, .string t331, .int .i64 t332, .int .i64 t333, .int .i64 t334] 24 (0, 0))) := ⟨h2_⟩
                                 have n3_ : Aside0 (w43.heap[gb366]? = some (.cells #[.int .i64 0, .int .u64 0, .int .u64 0, .string (⟨#[]⟩ : ByteArray), .string (⟨#[]⟩ : ByteArray), .string (⟨#[]⟩ : ByteArray), .string (⟨#[]⟩ : ByteArray), .int .i64 0, .int .i64 0, .int .i64 0] 24 (0, 0))) := ⟨h3_⟩
                                 have n4_ : Aside0 (w.heap.size ≤ gb366) := ⟨h4_⟩
                                 have n5_ : Aside0 (w.heap.size ≤ gb366) := ⟨h5_⟩
                                 have n6_ : Aside0 (gb305 ≠ gb366) := ⟨h6_⟩
                                 have n7_ : Aside0 (gb366 ≠ gb305) := ⟨h7_⟩
                                 have n8_ : Aside0 (gb337 ≠ gb366) := ⟨h8_⟩
                                 have n9_ : Aside0 (gb366 ≠ gb337) := ⟨h9_⟩
                                 have n10_ : Aside0 (Below w.heap.size w w43) := ⟨h10_⟩
                                 clear HO_8
                                 clear BK305
                                 clear BK337
                                 clear HB
                                 clear h0_ h1_ h2_ h3_ h4_ h5_ h6_ h7_ h8_ h9_ h10_
                                 have HO_8 := n0_
                                 have BK305 := n1_
                                 have BK337 := n2_
                                 have BK366 := n3_
                                 have GW366 := n4_
                                 have GE366 := n5_
                                 have NB305_366 := n6_
                                 have NB366_305 := n7_
                                 have NB337_366 := n8_
                                 have NB366_337 := n9_
                                 have HB := n10_
                                 clear n0_ n1_ n2_ n3_ n4_ n5_ n6_ n7_ n8_ n9_ n10_
                                 have hHeld := trivial
                                 refine norm_ (a' := ?_) ?_ ?_
                                 rotate_left
                                 ·
                                  simp only [putAll, Act.put, sA, sZ, sS, *]
                                  rfl
                                 refine two_ (i := 0) (j := 3) (Ni := some 50) (Nj := some 53) #[true, true, false, false, false, true, true, true, true, true, false, false, false, false, false, false, true, false, false, false] #[false, true, false, true, false, true, true, true, true, true, false, false, false, false, false, false, true, false, false, false] rfl rfl rfl rfl (two_of HT_.out (by kernel_rfl)) (by decide) (by decide) (fun K hK => ?_) (fun K hK => ?_)
                                 ·
                                  skip
                                  refine Kd.R_lit_step (Kd.int .u8) _ 5 ?hg (N := 50) ?hd (xs := ([] : List Int)) (inner := []) (ok := fun _ => True) (okp := fun _ => True) ?hr ?hp (fun _ hk => hk) trivial (Below.refl _ _) (Nat.le_refl _) (by simp) ?_; (case hd => rfl); (case hg => rfl); (case hr => first | (go_simp; done) | (go_simp; rfl)); (case hp => exact (Reps.none _ _))
                                  intro v339 w44 ho45 hb hg_ hnew_
                                  clear hg_ hnew_
                                  (first | rw [← Ny338.out] at ho45 | (simp only [Int.reduceToNat] at ho45; rw [← Ny338.out] at ho45))
                                  have n0_ := aM (rE (by (with_reducible repeat first | apply rA | apply rN | apply rD); exact HO_8.out) (rS ho45) hb)
                                  have n1_ := aM (rL (rW ho45 (rT (by (with_reducible repeat first | apply rA | apply rN | apply rD); exact HO_8.out))) (lZ (by repeat (first | (with_reducible first | exact HB.out | apply lA | apply lN | apply lD | refine lT ?_ GE305.out | refine lT ?_ GE337.out | refine lT ?_ GE366.out) | exact HB.out))))
                                  have n2_ := aM (bB (g := gb305) (o := .cells #[.int .i64 a0_0, .int .u64 a0_1, .int .u64 a0_2, .string a0_3, .string a0_4, .string a0_5, .string a0_6, .int .i64 a0_7, .int .i64 a0_8, .int .i64 a0_9] 24 (0, 0)) (by (with_reducible repeat first | refine bN ?_ _ | refine bD ?_ | refine bA ?_ _); exact BK305.out) hb)
                                  have n3_ := aM (bB (g := gb337) (o := .cells #[.int .i64 t325, .int .u64 t326, .int .u64 t327, .string t328, .string t329, .string t330, .string t331, .int .i64 t332, .int .i64 t333, .int .i64 t334] 24 (0, 0)) (by (with_reducible repeat first | refine bN ?_ _ | refine bD ?_ | refine bA ?_ _); exact BK337.out) hb)
                                  have n4_ := aM (bB (g := gb366) (o := .cells #[.int .i64 0, .int .u64 0, .int .u64 0, .string (⟨#[]⟩ : ByteArray), .string (⟨#[]⟩ : ByteArray), .string (⟨#[]⟩ : ByteArray), .string (⟨#[]⟩ : ByteArray), .int .i64 0, .int .i64 0, .int .i64 0] 24 (0, 0)) (by (with_reducible repeat first | refine bN ?_ _ | refine bD ?_ | refine bA ?_ _); exact BK366.out) hb)
                                  have n5_ := aM (lS (by repeat (first | (with_reducible first | exact HB.out | apply lA | apply lN | apply lD | refine lT ?_ GE305.out | refine lT ?_ GE337.out | refine lT ?_ GE366.out) | exact HB.out)) hb)
                                  clear HO_8
                                  clear BK305
                                  clear BK337
                                  clear BK366
                                  clear HB
                                  have HO_8 := n0_
                                  have HO340 := n1_
                                  have BK305 := n2_
                                  have BK337 := n3_
                                  have BK366 := n4_
                                  have HB := n5_
                                  clear n0_ n1_ n2_ n3_ n4_ n5_
                                  clear hb ho45
                                  refine hK.out _ _ trivial (fun hHeld => ?_)
                                  clear hK K
                                  refine norm_ (a' := ?_) ?_ ?_
                                  rotate_left
                                  ·
                                   show Act.put _ (some 50) _ = _
                                   simp only [Act.put, sA, sZ, sS, i64_w, i32_w]
                                   rfl
                                  exact norm_ (by simp only [putAll, Act.put, sA, sZ, sS] <;> rfl) (hJ0_16 (v339, gb366) _ ⟨(by (with_reducible repeat first | apply rA | apply rN | apply rD); exact rM HO340.out (fun _ hk => hk.2)), (by (with_reducible repeat first | apply rA | apply rN | apply rD); exact rM HO_8.out (fun _ hk => hk.2)), (by (with_reducible repeat first | refine bN ?_ _ | refine bD ?_ | refine bA ?_ _); exact BK305.out), (by (with_reducible repeat first | refine bN ?_ _ | refine bD ?_ | refine bA ?_ _); exact BK337.out), (by (with_reducible repeat first | refine bN ?_ _ | refine bD ?_ | refine bA ?_ _); exact BK366.out), GW366.out, GE366.out, NB305_366.out, NB366_305.out, NB337_366.out, NB366_337.out, (by repeat (first | (with_reducible first | exact HB.out | apply lA | apply lN | apply lD | refine lT ?_ GE305.out | refine lT ?_ GE337.out | refine lT ?_ GE366.out) | exact HB.out))⟩)
                                 ·
                                  skip
                                  refine Kd.R_lit_step (Kd.int .u8) _ 5 ?hg (N := 53) ?hd (xs := ([1] : List Int)) (inner := [.int .u8 1]) (ok := fun _ => True) (okp := fun _ => True) ?hr ?hp (fun _ hk => hk) trivial (Below.refl _ _) (Nat.le_refl _) (by simp) ?_; (case hd => rfl); (case hg => rfl); (case hr => first | (go_simp; done) | (go_simp; rfl)); (case hp => exact (Reps.one (show Kd.M (Kd.int .u8) _ _ _ 1 [.int .u8 1] from rfl) (Reps.none _ _)))
                                  intro v345 w44 ho45 hb hg_ hnew_
                                  clear hg_ hnew_
                                  (first | rw [← Ny344.out] at ho45 | (simp only [Int.reduceToNat] at ho45; rw [← Ny344.out] at ho45))
                                  have n0_ := aM (rE (by (with_reducible repeat first | apply rA | apply rN | apply rD); exact HO_8.out) (rS ho45) hb)
                                  have n1_ := aM (rL (rW ho45 (rT (by (with_reducible repeat first | apply rA | apply rN | apply rD); exact HO_8.out))) (lZ (by repeat (first | (with_reducible first | exact HB.out | apply lA | apply lN | apply lD | refine lT ?_ GE305.out | refine lT ?_ GE337.out | refine lT ?_ GE366.out) | exact HB.out))))
                                  have n2_ := aM (bB (g := gb305) (o := .cells #[.int .i64 a0_0, .int .u64 a0_1, .int .u64 a0_2, .string a0_3, .string a0_4, .string a0_5, .string a0_6, .int .i64 a0_7, .int .i64 a0_8, .int .i64 a0_9] 24 (0, 0)) (by (with_reducible repeat first | refine bN ?_ _ | refine bD ?_ | refine bA ?_ _); exact BK305.out) hb)
                                  have n3_ := aM (bB (g := gb337) (o := .cells #[.int .i64 t325, .int .u64 t326, .int .u64 t327, .string t328, .string t329, .string t330, .string t331, .int .i64 t332, .int .i64 t333, .int .i64 t334] 24 (0, 0)) (by (with_reducible repeat first | refine bN ?_ _ | refine bD ?_ | refine bA ?_ _); exact BK337.out) hb)
                                  have n4_ := aM (bB (g := gb366) (o := .cells #[.int .i64 0, .int .u64 0, .int .u64 0, .string (⟨#[]⟩ : ByteArray), .string (⟨#[]⟩ : ByteArray), .string (⟨#[]⟩ : ByteArray), .string (⟨#[]⟩ : ByteArray), .int .i64 0, .int .i64 0, .int .i64 0] 24 (0, 0)) (by (with_reducible repeat first | refine bN ?_ _ | refine bD ?_ | refine bA ?_ _); exact BK366.out) hb)
                                  have n5_ := aM (lS (by repeat (first | (with_reducible first | exact HB.out | apply lA | apply lN | apply lD | refine lT ?_ GE305.out | refine lT ?_ GE337.out | refine lT ?_ GE366.out) | exact HB.out)) hb)
                                  clear HO_8
                                  clear BK305
                                  clear BK337
                                  clear BK366
                                  clear HB
                                  have HO_8 := n0_
                                  have HO346 := n1_
                                  have BK305 := n2_
                                  have BK337 := n3_
                                  have BK366 := n4_
                                  have HB := n5_
                                  clear n0_ n1_ n2_ n3_ n4_ n5_
                                  clear hb ho45
                                  refine hK.out _ _ trivial (fun hHeld => ?_)
                                  clear hK K
                                  refine norm_ (a' := ?_) ?_ ?_
                                  rotate_left
                                  ·
                                   show Act.put _ (some 53) _ = _
                                   simp only [Act.put, sA, sZ, sS, i64_w, i32_w]
                                   rfl
                                  exact norm_ (by simp only [putAll, Act.put, sA, sZ, sS] <;> rfl) (hJ3_16 (v345, gb366) _ ⟨(by (with_reducible repeat first | apply rA | apply rN | apply rD); exact rM HO346.out (fun _ hk => hk.2)), (by (with_reducible repeat first | apply rA | apply rN | apply rD); exact rM HO_8.out (fun _ hk => hk.2)), (by (with_reducible repeat first | refine bN ?_ _ | refine bD ?_ | refine bA ?_ _); exact BK305.out), (by (with_reducible repeat first | refine bN ?_ _ | refine bD ?_ | refine bA ?_ _); exact BK337.out), (by (with_reducible repeat first | refine bN ?_ _ | refine bD ?_ | refine bA ?_ _); exact BK366.out), GW366.out, GE366.out, NB305_366.out, NB366_305.out, NB337_366.out, NB366_337.out, (by repeat (first | (with_reducible first | exact HB.out | apply lA | apply lN | apply lD | refine lT ?_ GE305.out | refine lT ?_ GE337.out | refine lT ?_ GE366.out) | exact HB.out))⟩)
                               ·
                                skip
                                rintro v345 w44 ⟨h0_, h1_, h2_, h3_, h4_⟩
                                have n0_ : Aside0 (Kd.R (Kd.int .u8) 5 w44 w.heap.size (fun k_ => some k_ ≠ (.slice Ao33 t317.length co33 : Value).ownBlock) v345 y344) := ⟨h0_⟩
                                have n1_ : Aside0 (Kd.R (Kd.int .u8) 5 w44 w.heap.size (fun k_ => some k_ ≠ (v345 : Value).ownBlock) (.slice Ao33 t317.length co33) t317) := ⟨h1_⟩
                                have n2_ : Aside0 (w44.heap[gb305]? = some (.cells #[.int .i64 a0_0, .int .u64 a0_1, .int .u64 a0_2, .string a0_3, .string a0_4, .string a0_5, .string a0_6, .int .i64 a0_7, .int .i64 a0_8, .int .i64 a0_9] 24 (0, 0))) := ⟨h2_⟩
                                have n3_ : Aside0 (w44.heap[gb337]? = some (.cells #[.int .i64 t325, .int .u64 t326, .int .u64 t327, .string t328, .string t329, .string t330, .string t331, .int .i64 t332, .int .i64 t333, .int .i64 t334] 24 (0, 0))) := ⟨h3_⟩
                                have n4_ : Aside0 (Below w.heap.size w w44) := ⟨h4_⟩
                                clear HO_8
                                clear BK305
                                clear BK337
                                clear HB
                                clear h0_ h1_ h2_ h3_ h4_
                                have HO346 := n0_
                                have HO_8 := n1_
                                have BK305 := n2_
                                have BK337 := n3_
                                have HB := n4_
                                clear n0_ n1_ n2_ n3_ n4_
                                have hHeld := trivial
                                refine norm_ (a' := ?_) ?_ ?_
                                rotate_left
                                ·
                                 simp only [putAll, Act.put, sA, sZ, sS, *]
                                 rfl
                                refine two_ (i := 0) (j := 16) (Ni := some 50) (Nj := some 14) #[true, true, false, true, false, true, true, true, true, true, false, false, false, false, false, false, false, false, false, false] #[false, true, false, true, false, true, true, true, true, true, false, false, false, false, false, false, true, false, false, false] rfl rfl rfl rfl (two_of HT_.out (by kernel_rfl)) (by decide) (by decide) (fun K hK => ?_) (fun K hK => ?_)
                                ·
                                 skip
                                 refine Kd.R_lit_step (Kd.int .u8) _ 5 ?hg (N := 50) ?hd (xs := ([] : List Int)) (inner := []) (ok := fun _ => True) (okp := fun _ => True) ?hr ?hp (fun _ hk => hk) trivial (Below.refl _ _) (Nat.le_refl _) (by simp) ?_; (case hd => rfl); (case hg => rfl); (case hr => first | (go_simp; done) | (go_simp; rfl)); (case hp => exact (Reps.none _ _))
                                 intro v339 w45 ho46 hb hg_ hnew_
                                 clear hg_ hnew_
                                 (first | rw [← Ny338.out] at ho46 | (simp only [Int.reduceToNat] at ho46; rw [← Ny338.out] at ho46))
                                 have n0_ := aM (rE (by (with_reducible repeat first | apply rA | apply rN | apply rD); exact HO_8.out) (rS ho46) hb)
                                 have n1_ := aM (rE (by (with_reducible repeat first | apply rA | apply rN | apply rD); exact HO346.out) (rS ho46) hb)
                                 have n2_ := aM (rL (rW (rW ho46 (rT (by (with_reducible repeat first | apply rA | apply rN | apply rD); exact HO_8.out))) (rT (by (with_reducible repeat first | apply rA | apply rN | apply rD); exact HO346.out))) (lZ (by repeat (first | (with_reducible first | exact HB.out | apply lA | apply lN | apply lD | refine lT ?_ GE305.out | refine lT ?_ GE337.out) | exact HB.out))))
                                 have n3_ := aM (bB (g := gb305) (o := .cells #[.int .i64 a0_0, .int .u64 a0_1, .int .u64 a0_2, .string a0_3, .string a0_4, .string a0_5, .string a0_6, .int .i64 a0_7, .int .i64 a0_8, .int .i64 a0_9] 24 (0, 0)) (by (with_reducible repeat first | refine bN ?_ _ | refine bD ?_ | refine bA ?_ _); exact BK305.out) hb)
                                 have n4_ := aM (bB (g := gb337) (o := .cells #[.int .i64 t325, .int .u64 t326, .int .u64 t327, .string t328, .string t329, .string t330, .string t331, .int .i64 t332, .int .i64 t333, .int .i64 t334] 24 (0, 0)) (by (with_reducible repeat first | refine bN ?_ _ | refine bD ?_ | refine bA ?_ _); exact BK337.out) hb)
                                 have n5_ := aM (lS (by repeat (first | (with_reducible first | exact HB.out | apply lA | apply lN | apply lD | refine lT ?_ GE305.out | refine lT ?_ GE337.out) | exact HB.out)) hb)
                                 clear HO_8
                                 clear HO346
                                 clear BK305
                                 clear BK337
                                 clear HB
                                 have HO_8 := n0_
                                 have HO346 := n1_
                                 have HO340 := n2_
                                 have BK305 := n3_
                                 have BK337 := n4_
                                 have HB := n5_
                                 clear n0_ n1_ n2_ n3_ n4_ n5_
                                 clear hb ho46
                                 refine hK.out _ _ trivial (fun hHeld => ?_)
                                 clear hK K
                                 refine norm_ (a' := ?_) ?_ ?_
                                 rotate_left
                                 ·
                                  show Act.put _ (some 50) _ = _
                                  simp only [Act.put, sA, sZ, sS, i64_w, i32_w]
                                  rfl
                                 exact norm_ (by simp only [putAll, Act.put, sA, sZ, sS] <;> rfl) (hJ0_3 (v339, v345) _ ⟨(by (with_reducible repeat first | apply rA | apply rN | apply rD); exact rM HO340.out (fun _ hk => ⟨hk.2, hk.1.2⟩)), (by (with_reducible repeat first | apply rA | apply rN | apply rD); exact rM HO346.out (fun _ hk => ⟨hk.2, hk.1⟩)), (by (with_reducible repeat first | apply rA | apply rN | apply rD); exact rM HO_8.out (fun _ hk => ⟨hk.2, hk.1⟩)), (by (with_reducible repeat first | refine bN ?_ _ | refine bD ?_ | refine bA ?_ _); exact BK305.out), (by (with_reducible repeat first | refine bN ?_ _ | refine bD ?_ | refine bA ?_ _); exact BK337.out), (by repeat (first | (with_reducible first | exact HB.out | apply lA | apply lN | apply lD | refine lT ?_ GE305.out | refine lT ?_ GE337.out) | exact HB.out))⟩)
                                ·
                                 skip
                                 refine box_step ?hg (N := 14) ?hd (cs := #[.int .i64 0, .int .u64 0, .int .u64 0, .string (⟨#[]⟩ : ByteArray), .string (⟨#[]⟩ : ByteArray), .string (⟨#[]⟩ : ByteArray), .string (⟨#[]⟩ : ByteArray), .int .i64 0, .int .i64 0, .int .i64 0]) (t := 24) ?hr ?_; (case hd => rfl); (case hg => rfl); (case hr => first | (go_simp; done) | (go_simp; rfl))
                                 intro gb366 hg w45 hbox hb
                                 have n0_ := aM (rB (by (with_reducible repeat first | apply rA | apply rN | apply rD); exact HO_8.out) hb)
                                 have n1_ := aM (rB (by (with_reducible repeat first | apply rA | apply rN | apply rD); exact HO346.out) hb)
                                 have n2_ := aM (bB (g := gb305) (o := .cells #[.int .i64 a0_0, .int .u64 a0_1, .int .u64 a0_2, .string a0_3, .string a0_4, .string a0_5, .string a0_6, .int .i64 a0_7, .int .i64 a0_8, .int .i64 a0_9] 24 (0, 0)) (by (with_reducible repeat first | refine bN ?_ _ | refine bD ?_ | refine bA ?_ _); exact BK305.out) hb)
                                 have n3_ := aM (bB (g := gb337) (o := .cells #[.int .i64 t325, .int .u64 t326, .int .u64 t327, .string t328, .string t329, .string t330, .string t331, .int .i64 t332, .int .i64 t333, .int .i64 t334] 24 (0, 0)) (by (with_reducible repeat first | refine bN ?_ _ | refine bD ?_ | refine bA ?_ _); exact BK337.out) hb)
                                 have n4_ := aM (lS (by repeat (first | (with_reducible first | exact HB.out | apply lA | apply lN | apply lD | refine lT ?_ GE305.out | refine lT ?_ GE337.out) | exact HB.out)) hb)
                                 have n5_ := aM (hbox)
                                 have n6_ := aM ((by rw [hg]; exact (lZ (by repeat (first | (with_reducible first | exact HB.out | apply lA | apply lN | apply lD | refine lT ?_ GE305.out | refine lT ?_ GE337.out) | exact HB.out))) : w.heap.size ≤ gb366))
                                 have n7_ := aM ((by rw [hg]; exact (lZ (by repeat (first | (with_reducible first | exact HB.out | apply lA | apply lN | apply lD | refine lT ?_ GE305.out | refine lT ?_ GE337.out) | exact HB.out))) : w.heap.size ≤ gb366))
                                 have n8_ := aM ((by rw [hg]; exact Nat.ne_of_lt (blk_lt (g := gb305) (o := .cells #[.int .i64 a0_0, .int .u64 a0_1, .int .u64 a0_2, .string a0_3, .string a0_4, .string a0_5, .string a0_6, .int .i64 a0_7, .int .i64 a0_8, .int .i64 a0_9] 24 (0, 0)) (by (with_reducible repeat first | refine bN ?_ _ | refine bD ?_ | refine bA ?_ _); exact BK305.out)) : gb305 ≠ gb366))
                                 have n9_ := aM ((by rw [hg]; exact Nat.ne_of_gt (blk_lt (g := gb305) (o := .cells #[.int .i64 a0_0, .int .u64 a0_1, .int .u64 a0_2, .string a0_3, .string a0_4, .string a0_5, .string a0_6, .int .i64 a0_7, .int .i64 a0_8, .int .i64 a0_9] 24 (0, 0)) (by (with_reducible repeat first | refine bN ?_ _ | refine bD ?_ | refine bA ?_ _); exact BK305.out)) : gb366 ≠ gb305))
                                 have n10_ := aM ((by rw [hg]; exact Nat.ne_of_lt (blk_lt (g := gb337) (o := .cells #[.int .i64 t325, .int .u64 t326, .int .u64 t327, .string t328, .string t329, .string t330, .string t331, .int .i64 t332, .int .i64 t333, .int .i64 t334] 24 (0, 0)) (by (with_reducible repeat first | refine bN ?_ _ | refine bD ?_ | refine bA ?_ _); exact BK337.out)) : gb337 ≠ gb366))
                                 have n11_ := aM ((by rw [hg]; exact Nat.ne_of_gt (blk_lt (g := gb337) (o := .cells #[.int .i64 t325, .int .u64 t326, .int .u64 t327, .string t328, .string t329, .string t330, .string t331, .int .i64 t332, .int .i64 t333, .int .i64 t334] 24 (0, 0)) (by (with_reducible repeat first | refine bN ?_ _ | refine bD ?_ | refine bA ?_ _); exact BK337.out)) : gb366 ≠ gb337))
                                 clear HO_8
                                 clear HO346
                                 clear BK305
                                 clear BK337
                                 clear HB
                                 have HO_8 := n0_
                                 have HO346 := n1_
                                 have BK305 := n2_
                                 have BK337 := n3_
                                 have HB := n4_
                                 have BK366 := n5_
                                 have GW366 := n6_
                                 have GE366 := n7_
                                 have NB305_366 := n8_
                                 have NB366_305 := n9_
                                 have NB337_366 := n10_
                                 have NB366_337 := n11_
                                 clear n0_ n1_ n2_ n3_ n4_ n5_ n6_ n7_ n8_ n9_ n10_ n11_
                                 clear hb hbox hg
                                 refine hK.out _ _ trivial (fun hHeld => ?_)
                                 clear hK K
                                 refine norm_ (a' := ?_) ?_ ?_
                                 rotate_left
                                 ·
                                  show Act.put _ (some 14) _ = _
                                  simp only [Act.put, sA, sZ, sS, i64_w, i32_w]
                                  rfl
                                 exact norm_ (by simp only [putAll, Act.put, sA, sZ, sS] <;> rfl) (hJ3_16 (v345, gb366) _ ⟨(by (with_reducible repeat first | apply rA | apply rN | apply rD); exact HO346.out), (by (with_reducible repeat first | apply rA | apply rN | apply rD); exact HO_8.out), (by (with_reducible repeat first | refine bN ?_ _ | refine bD ?_ | refine bA ?_ _); exact BK305.out), (by (with_reducible repeat first | refine bN ?_ _ | refine bD ?_ | refine bA ?_ _); exact BK337.out), (by (with_reducible repeat first | refine bN ?_ _ | refine bD ?_ | refine bA ?_ _); exact BK366.out), GW366.out, GE366.out, NB305_366.out, NB366_305.out, NB337_366.out, NB366_337.out, (by repeat (first | (with_reducible first | exact HB.out | apply lA | apply lN | apply lD | refine lT ?_ GE305.out | refine lT ?_ GE337.out | refine lT ?_ GE366.out) | exact HB.out))⟩)
                              ·
                               skip
                               rintro v339 w44 ⟨h0_, h1_, h2_, h3_, h4_⟩
                               have n0_ : Aside0 (Kd.R (Kd.int .u8) 5 w44 w.heap.size (fun k_ => some k_ ≠ (.slice Ao33 t317.length co33 : Value).ownBlock) v339 y338) := ⟨h0_⟩
                               have n1_ : Aside0 (Kd.R (Kd.int .u8) 5 w44 w.heap.size (fun k_ => some k_ ≠ (v339 : Value).ownBlock) (.slice Ao33 t317.length co33) t317) := ⟨h1_⟩
                               have n2_ : Aside0 (w44.heap[gb305]? = some (.cells #[.int .i64 a0_0, .int .u64 a0_1, .int .u64 a0_2, .string a0_3, .string a0_4, .string a0_5, .string a0_6, .int .i64 a0_7, .int .i64 a0_8, .int .i64 a0_9] 24 (0, 0))) := ⟨h2_⟩
                               have n3_ : Aside0 (w44.heap[gb337]? = some (.cells #[.int .i64 t325, .int .u64 t326, .int .u64 t327, .string t328, .string t329, .string t330, .string t331, .int .i64 t332, .int .i64 t333, .int .i64 t334] 24 (0, 0))) := ⟨h3_⟩
                               have n4_ : Aside0 (Below w.heap.size w w44) := ⟨h4_⟩
                               clear HO_8
                               clear BK305
                               clear BK337
                               clear HB
                               clear h0_ h1_ h2_ h3_ h4_
                               have HO340 := n0_
                               have HO_8 := n1_
                               have BK305 := n2_
                               have BK337 := n3_
                               have HB := n4_
                               clear n0_ n1_ n2_ n3_ n4_
                               have hHeld := trivial
                               refine norm_ (a' := ?_) ?_ ?_
                               rotate_left
                               ·
                                simp only [putAll, Act.put, sA, sZ, sS, *]
                                rfl
                               refine three_ (i := 2) (j := 3) (k := 16) (Ni := some 52) (Nj := some 53) (Nk := some 14) #[true, true, true, false, false, true, true, true, true, true, false, false, false, false, false, false, false, false, false, false] #[true, true, false, true, false, true, true, true, true, true, false, false, false, false, false, false, false, false, false, false] #[true, true, false, false, false, true, true, true, true, true, false, false, false, false, false, false, true, false, false, false] rfl rfl rfl rfl rfl rfl (three_of HT_.out (by kernel_rfl)) (by decide) (by decide) (by decide) (fun K hK => ?_) (fun K hK => ?_) (fun K hK => ?_)
                               ·
                                skip
                                refine Kd.R_append_rows_step (Kd.int .u8) (w0 := w) w.heap.size (by rfl) (.tmp 50) (.tmp 51) 27 5 (.int .u8 0) 1 rfl Tryd.underlying27 info5 rfl (by decide) (by omega) v339 y338 t317 _ _ _ (fun k_ => some k_ ≠ (.slice Ao33 t317.length co33 : Value).ownBlock) (fun _ => False) rfl rfl ?aO ?aR (fun _ _ h => h) (fun _ h => h.elim) ?aF ?aB ?aS ?aL ?_
                                (case aR => repeat (first | exact (rR HO_8.out).2.2 | (with_reducible refine cA ?_ _) | (with_reducible refine cN ?_ _) | (with_reducible refine cD ?_)))
                                (case aB => exact (by repeat (first | (with_reducible first | exact HB.out | apply lA | apply lN | apply lD | refine lT ?_ GE305.out | refine lT ?_ GE337.out) | exact HB.out)))
                                (case aF => exact (fun k_ hk => kF (rT (by (with_reducible repeat first | apply rA | apply rN | apply rD); exact HO_8.out)) k_ hk))
                                (case aO => exact (by (with_reducible repeat first | apply rA | apply rN | apply rD); exact HO340.out))
                                (case aS => exact (lZ (by repeat (first | (with_reducible first | exact HB.out | apply lA | apply lN | apply lD | refine lT ?_ GE305.out | refine lT ?_ GE337.out) | exact HB.out))))
                                (case aL => have := LMc22.out; omega)
                                intro v342 w45 ho hb hg hat
                                rw [← Ny341.out] at ho
                                have n0_ := aM (rF (ok := (fun _ => True)) (by (with_reducible repeat first | apply rA | apply rN | apply rD); exact rM HO_8.out (fun _ hk => ⟨trivial, hk⟩)) hg hat)
                                have n1_ := aM (blk_grown (g := gb305) (o := .cells #[.int .i64 a0_0, .int .u64 a0_1, .int .u64 a0_2, .string a0_3, .string a0_4, .string a0_5, .string a0_6, .int .i64 a0_7, .int .i64 a0_8, .int .i64 a0_9] 24 (0, 0)) (by (with_reducible repeat first | refine bN ?_ _ | refine bD ?_ | refine bA ?_ _); exact BK305.out) hg (Kd.R_ne HO340.out BK305.out (by decide)))
                                have n2_ := aM (blk_grown (g := gb337) (o := .cells #[.int .i64 t325, .int .u64 t326, .int .u64 t327, .string t328, .string t329, .string t330, .string t331, .int .i64 t332, .int .i64 t333, .int .i64 t334] 24 (0, 0)) (by (with_reducible repeat first | refine bN ?_ _ | refine bD ?_ | refine bA ?_ _); exact BK337.out) hg (Kd.R_ne HO340.out BK337.out (by decide)))
                                have n3_ := aM (hb)
                                have n4_ := aM (ho)
                                clear HO_8
                                clear BK305
                                clear BK337
                                clear HB
                                clear HO340
                                have HO_8 := n0_
                                have BK305 := n1_
                                have BK337 := n2_
                                have HB := n3_
                                have HO343 := n4_
                                clear n0_ n1_ n2_ n3_ n4_
                                clear ho hb hg hat
                                refine hK.out _ _ trivial (fun hHeld => ?_)
                                clear hK K
                                refine norm_ (a' := ?_) ?_ ?_
                                rotate_left
                                ·
                                 show Act.put _ (some 52) _ = _
                                 simp only [Act.put, sA, sZ, sS, i64_w, i32_w]
                                 rfl
                                exact norm_ (by simp only [putAll, Act.put, sA, sZ, sS] <;> rfl) (hJ0_2 (v339, v342) _ ⟨(by (with_reducible repeat first | apply rA | apply rN | apply rD); exact HO343.out), (by (with_reducible repeat first | apply rA | apply rN | apply rD); exact rM HO_8.out (fun _ hk => hk.2)), (by (with_reducible repeat first | refine bN ?_ _ | refine bD ?_ | refine bA ?_ _); exact BK305.out), (by (with_reducible repeat first | refine bN ?_ _ | refine bD ?_ | refine bA ?_ _); exact BK337.out), (by repeat (first | (with_reducible first | exact HB.out | apply lA | apply lN | apply lD | refine lT ?_ GE305.out | refine lT ?_ GE337.out) | exact HB.out))⟩)
                               ·
                                skip
                                refine Kd.R_lit_step (Kd.int .u8) _ 5 ?hg (N := 53) ?hd (xs := ([1] : List Int)) (inner := [.int .u8 1]) (ok := fun _ => True) (okp := fun _ => True) ?hr ?hp (fun _ hk => hk) trivial (Below.refl _ _) (Nat.le_refl _) (by simp) ?_; (case hd => rfl); (case hg => rfl); (case hr => first | (go_simp; done) | (go_simp; rfl)); (case hp => exact (Reps.one (show Kd.M (Kd.int .u8) _ _ _ 1 [.int .u8 1] from rfl) (Reps.none _ _)))
                                intro v345 w45 ho46 hb hg_ hnew_
                                clear hg_ hnew_
                                (first | rw [← Ny344.out] at ho46 | (simp only [Int.reduceToNat] at ho46; rw [← Ny344.out] at ho46))
                                have n0_ := aM (rE (by (with_reducible repeat first | apply rA | apply rN | apply rD); exact HO_8.out) (rS ho46) hb)
                                have n1_ := aM (rE (by (with_reducible repeat first | apply rA | apply rN | apply rD); exact HO340.out) (rS ho46) hb)
                                have n2_ := aM (rL (rW (rW ho46 (rT (by (with_reducible repeat first | apply rA | apply rN | apply rD); exact HO_8.out))) (rT (by (with_reducible repeat first | apply rA | apply rN | apply rD); exact HO340.out))) (lZ (by repeat (first | (with_reducible first | exact HB.out | apply lA | apply lN | apply lD | refine lT ?_ GE305.out | refine lT ?_ GE337.out) | exact HB.out))))
                                have n3_ := aM (bB (g := gb305) (o := .cells #[.int .i64 a0_0, .int .u64 a0_1, .int .u64 a0_2, .string a0_3, .string a0_4, .string a0_5, .string a0_6, .int .i64 a0_7, .int .i64 a0_8, .int .i64 a0_9] 24 (0, 0)) (by (with_reducible repeat first | refine bN ?_ _ | refine bD ?_ | refine bA ?_ _); exact BK305.out) hb)
                                have n4_ := aM (bB (g := gb337) (o := .cells #[.int .i64 t325, .int .u64 t326, .int .u64 t327, .string t328, .string t329, .string t330, .string t331, .int .i64 t332, .int .i64 t333, .int .i64 t334] 24 (0, 0)) (by (with_reducible repeat first | refine bN ?_ _ | refine bD ?_ | refine bA ?_ _); exact BK337.out) hb)
                                have n5_ := aM (lS (by repeat (first | (with_reducible first | exact HB.out | apply lA | apply lN | apply lD | refine lT ?_ GE305.out | refine lT ?_ GE337.out) | exact HB.out)) hb)
                                clear HO_8
                                clear HO340
                                clear BK305
                                clear BK337
                                clear HB
                                have HO_8 := n0_
                                have HO340 := n1_
                                have HO346 := n2_
                                have BK305 := n3_
                                have BK337 := n4_
                                have HB := n5_
                                clear n0_ n1_ n2_ n3_ n4_ n5_
                                clear hb ho46
                                refine hK.out _ _ trivial (fun hHeld => ?_)
                                clear hK K
                                refine norm_ (a' := ?_) ?_ ?_
                                rotate_left
                                ·
                                 show Act.put _ (some 53) _ = _
                                 simp only [Act.put, sA, sZ, sS, i64_w, i32_w]
                                 rfl
                                exact norm_ (by simp only [putAll, Act.put, sA, sZ, sS] <;> rfl) (hJ0_3 (v339, v345) _ ⟨(by (with_reducible repeat first | apply rA | apply rN | apply rD); exact rM HO340.out (fun _ hk => ⟨hk.2, hk.1⟩)), (by (with_reducible repeat first | apply rA | apply rN | apply rD); exact rM HO346.out (fun _ hk => ⟨hk.2, hk.1.2⟩)), (by (with_reducible repeat first | apply rA | apply rN | apply rD); exact HO_8.out), (by (with_reducible repeat first | refine bN ?_ _ | refine bD ?_ | refine bA ?_ _); exact BK305.out), (by (with_reducible repeat first | refine bN ?_ _ | refine bD ?_ | refine bA ?_ _); exact BK337.out), (by repeat (first | (with_reducible first | exact HB.out | apply lA | apply lN | apply lD | refine lT ?_ GE305.out | refine lT ?_ GE337.out) | exact HB.out))⟩)
                               ·
                                skip
                                refine box_step ?hg (N := 14) ?hd (cs := #[.int .i64 0, .int .u64 0, .int .u64 0, .string (⟨#[]⟩ : ByteArray), .string (⟨#[]⟩ : ByteArray), .string (⟨#[]⟩ : ByteArray), .string (⟨#[]⟩ : ByteArray), .int .i64 0, .int .i64 0, .int .i64 0]) (t := 24) ?hr ?_; (case hd => rfl); (case hg => rfl); (case hr => first | (go_simp; done) | (go_simp; rfl))
                                intro gb366 hg w45 hbox hb
                                have n0_ := aM (rB (by (with_reducible repeat first | apply rA | apply rN | apply rD); exact HO_8.out) hb)
                                have n1_ := aM (rB (by (with_reducible repeat first | apply rA | apply rN | apply rD); exact HO340.out) hb)
                                have n2_ := aM (bB (g := gb305) (o := .cells #[.int .i64 a0_0, .int .u64 a0_1, .int .u64 a0_2, .string a0_3, .string a0_4, .string a0_5, .string a0_6, .int .i64 a0_7, .int .i64 a0_8, .int .i64 a0_9] 24 (0, 0)) (by (with_reducible repeat first | refine bN ?_ _ | refine bD ?_ | refine bA ?_ _); exact BK305.out) hb)
                                have n3_ := aM (bB (g := gb337) (o := .cells #[.int .i64 t325, .int .u64 t326, .int .u64 t327, .string t328, .string t329, .string t330, .string t331, .int .i64 t332, .int .i64 t333, .int .i64 t334] 24 (0, 0)) (by (with_reducible repeat first | refine bN ?_ _ | refine bD ?_ | refine bA ?_ _); exact BK337.out) hb)
                                have n4_ := aM (lS (by repeat (first | (with_reducible first | exact HB.out | apply lA | apply lN | apply lD | refine lT ?_ GE305.out | refine lT ?_ GE337.out) | exact HB.out)) hb)
                                have n5_ := aM (hbox)
                                have n6_ := aM ((by rw [hg]; exact (lZ (by repeat (first | (with_reducible first | exact HB.out | apply lA | apply lN | apply lD | refine lT ?_ GE305.out | refine lT ?_ GE337.out) | exact HB.out))) : w.heap.size ≤ gb366))
                                have n7_ := aM ((by rw [hg]; exact (lZ (by repeat (first | (with_reducible first | exact HB.out | apply lA | apply lN | apply lD | refine lT ?_ GE305.out | refine lT ?_ GE337.out) | exact HB.out))) : w.heap.size ≤ gb366))
                                have n8_ := aM ((by rw [hg]; exact Nat.ne_of_lt (blk_lt (g := gb305) (o := .cells #[.int .i64 a0_0, .int .u64 a0_1, .int .u64 a0_2, .string a0_3, .string a0_4, .string a0_5, .string a0_6, .int .i64 a0_7, .int .i64 a0_8, .int .i64 a0_9] 24 (0, 0)) (by (with_reducible repeat first | refine bN ?_ _ | refine bD ?_ | refine bA ?_ _); exact BK305.out)) : gb305 ≠ gb366))
                                have n9_ := aM ((by rw [hg]; exact Nat.ne_of_gt (blk_lt (g := gb305) (o := .cells #[.int .i64 a0_0, .int .u64 a0_1, .int .u64 a0_2, .string a0_3, .string a0_4, .string a0_5, .string a0_6, .int .i64 a0_7, .int .i64 a0_8, .int .i64 a0_9] 24 (0, 0)) (by (with_reducible repeat first | refine bN ?_ _ | refine bD ?_ | refine bA ?_ _); exact BK305.out)) : gb366 ≠ gb305))
                                have n10_ := aM ((by rw [hg]; exact Nat.ne_of_lt (blk_lt (g := gb337) (o := .cells #[.int .i64 t325, .int .u64 t326, .int .u64 t327, .string t328, .string t329, .string t330, .string t331, .int .i64 t332, .int .i64 t333, .int .i64 t334] 24 (0, 0)) (by (with_reducible repeat first | refine bN ?_ _ | refine bD ?_ | refine bA ?_ _); exact BK337.out)) : gb337 ≠ gb366))
                                have n11_ := aM ((by rw [hg]; exact Nat.ne_of_gt (blk_lt (g := gb337) (o := .cells #[.int .i64 t325, .int .u64 t326, .int .u64 t327, .string t328, .string t329, .string t330, .string t331, .int .i64 t332, .int .i64 t333, .int .i64 t334] 24 (0, 0)) (by (with_reducible repeat first | refine bN ?_ _ | refine bD ?_ | refine bA ?_ _); exact BK337.out)) : gb366 ≠ gb337))
                                clear HO_8
                                clear HO340
                                clear BK305
                                clear BK337
                                clear HB
                                have HO_8 := n0_
                                have HO340 := n1_
                                have BK305 := n2_
                                have BK337 := n3_
                                have HB := n4_
                                have BK366 := n5_
                                have GW366 := n6_
                                have GE366 := n7_
                                have NB305_366 := n8_
                                have NB366_305 := n9_
                                have NB337_366 := n10_
                                have NB366_337 := n11_
                                clear n0_ n1_ n2_ n3_ n4_ n5_ n6_ n7_ n8_ n9_ n10_ n11_
                                clear hb hbox hg
                                refine hK.out _ _ trivial (fun hHeld => ?_)
                                clear hK K
                                refine norm_ (a' := ?_) ?_ ?_
                                rotate_left
                                ·
                                 show Act.put _ (some 14) _ = _
                                 simp only [Act.put, sA, sZ, sS, i64_w, i32_w]
                                 rfl
                                exact norm_ (by simp only [putAll, Act.put, sA, sZ, sS] <;> rfl) (hJ0_16 (v339, gb366) _ ⟨(by (with_reducible repeat first | apply rA | apply rN | apply rD); exact HO340.out), (by (with_reducible repeat first | apply rA | apply rN | apply rD); exact HO_8.out), (by (with_reducible repeat first | refine bN ?_ _ | refine bD ?_ | refine bA ?_ _); exact BK305.out), (by (with_reducible repeat first | refine bN ?_ _ | refine bD ?_ | refine bA ?_ _); exact BK337.out), (by (with_reducible repeat first | refine bN ?_ _ | refine bD ?_ | refine bA ?_ _); exact BK366.out), GW366.out, GE366.out, NB305_366.out, NB366_305.out, NB337_366.out, NB366_337.out, (by repeat (first | (with_reducible first | exact HB.out | apply lA | apply lN | apply lD | refine lT ?_ GE305.out | refine lT ?_ GE337.out | refine lT ?_ GE366.out) | exact HB.out))⟩)
                             ·
                              skip
                              rintro ⟨v345, gb366⟩ w45 ⟨h0_, h1_, h2_, h3_, h4_, h5_, h6_, h7_, h8_, h9_, h10_, h11_⟩
                              have n0_ : Aside0 (Kd.R (Kd.int .u8) 5 w45 w.heap.size (fun k_ => some k_ ≠ (.slice Ao33 t317.length co33 : Value).ownBlock) v345 y344) := ⟨h0_⟩
                              have n1_ : Aside0 (Kd.R (Kd.int .u8) 5 w45 w.heap.size (fun k_ => some k_ ≠ (v345 : Value).ownBlock) (.slice Ao33 t317.length co33) t317) := ⟨h1_⟩
                              have n2_ : Aside0 (w45.heap[gb305]? = some (.cells #[.int .i64 a0_0, .int .u64 a0_1, .int .u64 a0_2, .string a0_3, .string a0_4, .string a0_5, .string a0_6, .int .i64 a0_7, .int .i64 a0_8, .int .i64 a0_9] 24 (0, 0))) := ⟨h2_⟩
                              have n3_ : Aside0 (w45.heap[gb337]? = some (.cells #[.int .i64 t325, .int .u64 t326, .int .u64 t327, .string t328, .string t329, .string t330, .string t331, .int .i64 t332, .int .i64 t333, .int .i64 t334] 24 (0, 0))) := ⟨h3_⟩
                              have n4_ : Aside0 (w45.heap[gb366]? = some (.cells #[.int .i64 0, .int .u64 0, .int .u64 0, .string (⟨#[]⟩ : ByteArray), .string (⟨#[]⟩ : ByteArray), .string (⟨#[]⟩ : ByteArray), .string (⟨#[]⟩ : ByteArray), .int .i64 0, .int .i64 0, .int .i64 0] 24 (0, 0))) := ⟨h4_⟩
                              have n5_ : Aside0 (w.heap.size ≤ gb366) := ⟨h5_⟩
                              have n6_ : Aside0 (w.heap.size ≤ gb366) := ⟨h6_⟩
                              have n7_ : Aside0 (gb305 ≠ gb366) := ⟨h7_⟩
                              have n8_ : Aside0 (gb366 ≠ gb305) := ⟨h8_⟩
                              have n9_ : Aside0 (gb337 ≠ gb366) := ⟨h9_⟩
                              have n10_ : Aside0 (gb366 ≠ gb337) := ⟨h10_⟩
                              have n11_ : Aside0 (Below w.heap.size w w45) := ⟨h11_⟩
                              clear HO_8
                              clear BK305
                              clear BK337
                              clear HB
                              clear h0_ h1_ h2_ h3_ h4_ h5_ h6_ h7_ h8_ h9_ h10_ h11_
                              have HO346 := n0_
                              have HO_8 := n1_
                              have BK305 := n2_
                              have BK337 := n3_
                              have BK366 := n4_
                              have GW366 := n5_
                              have GE366 := n6_
                              have NB305_366 := n7_
                              have NB366_305 := n8_
                              have NB337_366 := n9_
                              have NB366_337 := n10_
                              have HB := n11_
                              clear n0_ n1_ n2_ n3_ n4_ n5_ n6_ n7_ n8_ n9_ n10_ n11_
                              have hHeld := trivial
                              refine norm_ (a' := ?_) ?_ ?_
                              rotate_left
                              ·
                               simp only [putAll, Act.put, sA, sZ, sS, *]
                               rfl
                              refine one_ (i := 0) (N := some 50) #[true, true, false, true, false, true, true, true, true, true, false, false, false, false, false, false, true, false, false, false] rfl rfl (one_of HT_.out (by kernel_rfl)) (by decide) (fun K hK => ?_)
                              refine Kd.R_lit_step (Kd.int .u8) _ 5 ?hg (N := 50) ?hd (xs := ([] : List Int)) (inner := []) (ok := fun _ => True) (okp := fun _ => True) ?hr ?hp (fun _ hk => hk) trivial (Below.refl _ _) (Nat.le_refl _) (by simp) ?_; (case hd => rfl); (case hg => rfl); (case hr => first | (go_simp; done) | (go_simp; rfl)); (case hp => exact (Reps.none _ _))
                              intro v339 w46 ho47 hb hg_ hnew_
                              clear hg_ hnew_
                              (first | rw [← Ny338.out] at ho47 | (simp only [Int.reduceToNat] at ho47; rw [← Ny338.out] at ho47))
                              have n0_ := aM (rE (by (with_reducible repeat first | apply rA | apply rN | apply rD); exact HO_8.out) (rS ho47) hb)
                              have n1_ := aM (rE (by (with_reducible repeat first | apply rA | apply rN | apply rD); exact HO346.out) (rS ho47) hb)
                              have n2_ := aM (rL (rW (rW ho47 (rT (by (with_reducible repeat first | apply rA | apply rN | apply rD); exact HO_8.out))) (rT (by (with_reducible repeat first | apply rA | apply rN | apply rD); exact HO346.out))) (lZ (by repeat (first | (with_reducible first | exact HB.out | apply lA | apply lN | apply lD | refine lT ?_ GE305.out | refine lT ?_ GE337.out | refine lT ?_ GE366.out) | exact HB.out))))
                              have n3_ := aM (bB (g := gb305) (o := .cells #[.int .i64 a0_0, .int .u64 a0_1, .int .u64 a0_2, .string a0_3, .string a0_4, .string a0_5, .string a0_6, .int .i64 a0_7, .int .i64 a0_8, .int .i64 a0_9] 24 (0, 0)) (by (with_reducible repeat first | refine bN ?_ _ | refine bD ?_ | refine bA ?_ _); exact BK305.out) hb)
                              have n4_ := aM (bB (g := gb337) (o := .cells #[.int .i64 t325, .int .u64 t326, .int .u64 t327, .string t328, .string t329, .string t330, .string t331, .int .i64 t332, .int .i64 t333, .int .i64 t334] 24 (0, 0)) (by (with_reducible repeat first | refine bN ?_ _ | refine bD ?_ | refine bA ?_ _); exact BK337.out) hb)
                              have n5_ := aM (bB (g := gb366) (o := .cells #[.int .i64 0, .int .u64 0, .int .u64 0, .string (⟨#[]⟩ : ByteArray), .string (⟨#[]⟩ : ByteArray), .string (⟨#[]⟩ : ByteArray), .string (⟨#[]⟩ : ByteArray), .int .i64 0, .int .i64 0, .int .i64 0] 24 (0, 0)) (by (with_reducible repeat first | refine bN ?_ _ | refine bD ?_ | refine bA ?_ _); exact BK366.out) hb)
                              have n6_ := aM (lS (by repeat (first | (with_reducible first | exact HB.out | apply lA | apply lN | apply lD | refine lT ?_ GE305.out | refine lT ?_ GE337.out | refine lT ?_ GE366.out) | exact HB.out)) hb)
                              clear HO_8
                              clear HO346
                              clear BK305
                              clear BK337
                              clear BK366
                              clear HB
                              have HO_8 := n0_
                              have HO346 := n1_
                              have HO340 := n2_
                              have BK305 := n3_
                              have BK337 := n4_
                              have BK366 := n5_
                              have HB := n6_
                              clear n0_ n1_ n2_ n3_ n4_ n5_ n6_
                              clear hb ho47
                              refine hK.out _ _ trivial (fun hHeld => ?_)
                              clear hK K
                              refine norm_ (a' := ?_) ?_ ?_
                              rotate_left
                              ·
                               show Act.put _ (some 50) _ = _
                               simp only [Act.put, sA, sZ, sS, i64_w, i32_w]
                               rfl
                              exact norm_ (by simp only [putAll, Act.put, sA, sZ, sS] <;> rfl) (hJ0_3_16 (v339, v345, gb366) _ ⟨(by (with_reducible repeat first | apply rA | apply rN | apply rD); exact rM HO340.out (fun _ hk => ⟨hk.2, hk.1.2⟩)), (by (with_reducible repeat first | apply rA | apply rN | apply rD); exact rM HO346.out (fun _ hk => ⟨hk.2, hk.1⟩)), (by (with_reducible repeat first | apply rA | apply rN | apply rD); exact rM HO_8.out (fun _ hk => ⟨hk.2, hk.1⟩)), (by (with_reducible repeat first | refine bN ?_ _ | refine bD ?_ | refine bA ?_ _); exact BK305.out), (by (with_reducible repeat first | refine bN ?_ _ | refine bD ?_ | refine bA ?_ _); exact BK337.out), (by (with_reducible repeat first | refine bN ?_ _ | refine bD ?_ | refine bA ?_ _); exact BK366.out), GW366.out, GE366.out, NB305_366.out, NB366_305.out, NB337_366.out, NB366_337.out, (by repeat (first | (with_reducible first | exact HB.out | apply lA | apply lN | apply lD | refine lT ?_ GE305.out | refine lT ?_ GE337.out | refine lT ?_ GE366.out) | exact HB.out))⟩)
                            ·
                             skip
                             rintro ⟨v339, gb366⟩ w45 ⟨h0_, h1_, h2_, h3_, h4_, h5_, h6_, h7_, h8_, h9_, h10_, h11_⟩
                             have n0_ : Aside0 (Kd.R (Kd.int .u8) 5 w45 w.heap.size (fun k_ => some k_ ≠ (.slice Ao33 t317.length co33 : Value).ownBlock) v339 y338) := ⟨h0_⟩
                             have n1_ : Aside0 (Kd.R (Kd.int .u8) 5 w45 w.heap.size (fun k_ => some k_ ≠ (v339 : Value).ownBlock) (.slice Ao33 t317.length co33) t317) := ⟨h1_⟩
                             have n2_ : Aside0 (w45.heap[gb305]? = some (.cells #[.int .i64 a0_0, .int .u64 a0_1, .int .u64 a0_2, .string a0_3, .string a0_4, .string a0_5, .string a0_6, .int .i64 a0_7, .int .i64 a0_8, .int .i64 a0_9] 24 (0, 0))) := ⟨h2_⟩
                             have n3_ : Aside0 (w45.heap[gb337]? = some (.cells #[.int .i64 t325, .int .u64 t326, .int .u64 t327, .string t328, .string t329, .string t330, .string t331, .int .i64 t332, .int .i64 t333, .int .i64 t334] 24 (0, 0))) := ⟨h3_⟩
                             have n4_ : Aside0 (w45.heap[gb366]? = some (.cells #[.int .i64 0, .int .u64 0, .int .u64 0, .string (⟨#[]⟩ : ByteArray), .string (⟨#[]⟩ : ByteArray), .string (⟨#[]⟩ : ByteArray), .string (⟨#[]⟩ : ByteArray), .int .i64 0, .int .i64 0, .int .i64 0] 24 (0, 0))) := ⟨h4_⟩
                             have n5_ : Aside0 (w.heap.size ≤ gb366) := ⟨h5_⟩
                             have n6_ : Aside0 (w.heap.size ≤ gb366) := ⟨h6_⟩
                             have n7_ : Aside0 (gb305 ≠ gb366) := ⟨h7_⟩
                             have n8_ : Aside0 (gb366 ≠ gb305) := ⟨h8_⟩
                             have n9_ : Aside0 (gb337 ≠ gb366) := ⟨h9_⟩
                             have n10_ : Aside0 (gb366 ≠ gb337) := ⟨h10_⟩
                             have n11_ : Aside0 (Below w.heap.size w w45) := ⟨h11_⟩
                             clear HO_8
                             clear BK305
                             clear BK337
                             clear HB
                             clear h0_ h1_ h2_ h3_ h4_ h5_ h6_ h7_ h8_ h9_ h10_ h11_
                             have HO340 := n0_
                             have HO_8 := n1_
                             have BK305 := n2_
                             have BK337 := n3_
                             have BK366 := n4_
                             have GW366 := n5_
                             have GE366 := n6_
                             have NB305_366 := n7_
                             have NB366_305 := n8_
                             have NB337_366 := n9_
                             have NB366_337 := n10_
                             have HB := n11_
                             clear n0_ n1_ n2_ n3_ n4_ n5_ n6_ n7_ n8_ n9_ n10_ n11_
                             have hHeld := trivial
                             refine norm_ (a' := ?_) ?_ ?_
                             rotate_left
                             ·
                              simp only [putAll, Act.put, sA, sZ, sS, *]
                              rfl
                             refine two_ (i := 2) (j := 3) (Ni := some 52) (Nj := some 53) #[true, true, true, false, false, true, true, true, true, true, false, false, false, false, false, false, true, false, false, false] #[true, true, false, true, false, true, true, true, true, true, false, false, false, false, false, false, true, false, false, false] rfl rfl rfl rfl (two_of HT_.out (by kernel_rfl)) (by decide) (by decide) (fun K hK => ?_) (fun K hK => ?_)
                             ·
                              skip
                              refine Kd.R_append_rows_step (Kd.int .u8) (w0 := w) w.heap.size (by rfl) (.tmp 50) (.tmp 51) 27 5 (.int .u8 0) 1 rfl Tryd.underlying27 info5 rfl (by decide) (by omega) v339 y338 t317 _ _ _ (fun k_ => some k_ ≠ (.slice Ao33 t317.length co33 : Value).ownBlock) (fun _ => False) rfl rfl ?aO ?aR (fun _ _ h => h) (fun _ h => h.elim) ?aF ?aB ?aS ?aL ?_
                              (case aR => repeat (first | exact (rR HO_8.out).2.2 | (with_reducible refine cA ?_ _) | (with_reducible refine cN ?_ _) | (with_reducible refine cD ?_)))
                              (case aB => exact (by repeat (first | (with_reducible first | exact HB.out | apply lA | apply lN | apply lD | refine lT ?_ GE305.out | refine lT ?_ GE337.out | refine lT ?_ GE366.out) | exact HB.out)))
                              (case aF => exact (fun k_ hk => kF (rT (by (with_reducible repeat first | apply rA | apply rN | apply rD); exact HO_8.out)) k_ hk))
                              (case aO => exact (by (with_reducible repeat first | apply rA | apply rN | apply rD); exact HO340.out))
                              (case aS => exact (lZ (by repeat (first | (with_reducible first | exact HB.out | apply lA | apply lN | apply lD | refine lT ?_ GE305.out | refine lT ?_ GE337.out | refine lT ?_ GE366.out) | exact HB.out))))
                              (case aL => have := LMc22.out; omega)
                              intro v342 w46 ho hb hg hat
                              rw [← Ny341.out] at ho
                              have n0_ := aM (rF (ok := (fun _ => True)) (by (with_reducible repeat first | apply rA | apply rN | apply rD); exact rM HO_8.out (fun _ hk => ⟨trivial, hk⟩)) hg hat)
                              have n1_ := aM (blk_grown (g := gb305) (o := .cells #[.int .i64 a0_0, .int .u64 a0_1, .int .u64 a0_2, .string a0_3, .string a0_4, .string a0_5, .string a0_6, .int .i64 a0_7, .int .i64 a0_8, .int .i64 a0_9] 24 (0, 0)) (by (with_reducible repeat first | refine bN ?_ _ | refine bD ?_ | refine bA ?_ _); exact BK305.out) hg (Kd.R_ne HO340.out BK305.out (by decide)))
                              have n2_ := aM (blk_grown (g := gb337) (o := .cells #[.int .i64 t325, .int .u64 t326, .int .u64 t327, .string t328, .string t329, .string t330, .string t331, .int .i64 t332, .int .i64 t333, .int .i64 t334] 24 (0, 0)) (by (with_reducible repeat first | refine bN ?_ _ | refine bD ?_ | refine bA ?_ _); exact BK337.out) hg (Kd.R_ne HO340.out BK337.out (by decide)))
                              have n3_ := aM (blk_grown (g := gb366) (o := .cells #[.int .i64 0, .int .u64 0, .int .u64 0, .string (⟨#[]⟩ : ByteArray), .string (⟨#[]⟩ : ByteArray), .string (⟨#[]⟩ : ByteArray), .string (⟨#[]⟩ : ByteArray), .int .i64 0, .int .i64 0, .int .i64 0] 24 (0, 0)) (by (with_reducible repeat first | refine bN ?_ _ | refine bD ?_ | refine bA ?_ _); exact BK366.out) hg (Kd.R_ne HO340.out BK366.out (by decide)))
                              have n4_ := aM (hb)
                              have n5_ := aM (ho)
                              clear HO_8
                              clear BK305
                              clear BK337
                              clear BK366
                              clear HB
                              clear HO340
                              have HO_8 := n0_
                              have BK305 := n1_
                              have BK337 := n2_
                              have BK366 := n3_
                              have HB := n4_
                              have HO343 := n5_
                              clear n0_ n1_ n2_ n3_ n4_ n5_
                              clear ho hb hg hat
                              refine hK.out _ _ trivial (fun hHeld => ?_)
                              clear hK K
                              refine norm_ (a' := ?_) ?_ ?_
                              rotate_left
                              ·
                               show Act.put _ (some 52) _ = _
                               simp only [Act.put, sA, sZ, sS, i64_w, i32_w]
                               rfl
                              exact norm_ (by simp only [putAll, Act.put, sA, sZ, sS] <;> rfl) (hJ0_2_16 (v339, v342, gb366) _ ⟨(by (with_reducible repeat first | apply rA | apply rN | apply rD); exact HO343.out), (by (with_reducible repeat first | apply rA | apply rN | apply rD); exact rM HO_8.out (fun _ hk => hk.2)), (by (with_reducible repeat first | refine bN ?_ _ | refine bD ?_ | refine bA ?_ _); exact BK305.out), (by (with_reducible repeat first | refine bN ?_ _ | refine bD ?_ | refine bA ?_ _); exact BK337.out), (by (with_reducible repeat first | refine bN ?_ _ | refine bD ?_ | refine bA ?_ _); exact BK366.out), GW366.out, GE366.out, NB305_366.out, NB366_305.out, NB337_366.out, NB366_337.out, (by repeat (first | (with_reducible first | exact HB.out | apply lA | apply lN | apply lD | refine lT ?_ GE305.out | refine lT ?_ GE337.out | refine lT ?_ GE366.out) | exact HB.out))⟩)
                             ·
                              skip
                              refine Kd.R_lit_step (Kd.int .u8) _ 5 ?hg (N := 53) ?hd (xs := ([1] : List Int)) (inner := [.int .u8 1]) (ok := fun _ => True) (okp := fun _ => True) ?hr ?hp (fun _ hk => hk) trivial (Below.refl _ _) (Nat.le_refl _) (by simp) ?_; (case hd => rfl); (case hg => rfl); (case hr => first | (go_simp; done) | (go_simp; rfl)); (case hp => exact (Reps.one (show Kd.M (Kd.int .u8) _ _ _ 1 [.int .u8 1] from rfl) (Reps.none _ _)))
                              intro v345 w46 ho47 hb hg_ hnew_
                              clear hg_ hnew_
                              (first | rw [← Ny344.out] at ho47 | (simp only [Int.reduceToNat] at ho47; rw [← Ny344.out] at ho47))
                              have n0_ := aM (rE (by (with_reducible repeat first | apply rA | apply rN | apply rD); exact HO_8.out) (rS ho47) hb)
                              have n1_ := aM (rE (by (with_reducible repeat first | apply rA | apply rN | apply rD); exact HO340.out) (rS ho47) hb)
                              have n2_ := aM (rL (rW (rW ho47 (rT (by (with_reducible repeat first | apply rA | apply rN | apply rD); exact HO_8.out))) (rT (by (with_reducible repeat first | apply rA | apply rN | apply rD); exact HO340.out))) (lZ (by repeat (first | (with_reducible first | exact HB.out | apply lA | apply lN | apply lD | refine lT ?_ GE305.out | refine lT ?_ GE337.out | refine lT ?_ GE366.out) | exact HB.out))))
                              have n3_ := aM (bB (g := gb305) (o := .cells #[.int .i64 a0_0, .int .u64 a0_1, .int .u64 a0_2, .string a0_3, .string a0_4, .string a0_5, .string a0_6, .int .i64 a0_7, .int .i64 a0_8, .int .i64 a0_9] 24 (0, 0)) (by (with_reducible repeat first | refine bN ?_ _ | refine bD ?_ | refine bA ?_ _); exact BK305.out) hb)
                              have n4_ := aM (bB (g := gb337) (o := .cells #[.int .i64 t325, .int .u64 t326, .int .u64 t327, .string t328, .string t329, .string t330, .string t331, .int .i64 t332, .int .i64 t333, .int .i64 t334] 24 (0, 0)) (by (with_reducible repeat first | refine bN ?_ _ | refine bD ?_ | refine bA ?_ _); exact BK337.out) hb)
                              have n5_ := aM (bB (g := gb366) (o := .cells #[.int .i64 0, .int .u64 0, .int .u64 0, .string (⟨#[]⟩ : ByteArray), .string (⟨#[]⟩ : ByteArray), .string (⟨#[]⟩ : ByteArray), .string (⟨#[]⟩ : ByteArray), .int .i64 0, .int .i64 0, .int .i64 0] 24 (0, 0)) (by (with_reducible repeat first | refine bN ?_ _ | refine bD ?_ | refine bA ?_ _); exact BK366.out) hb)
                              have n6_ := aM (lS (by repeat (first | (with_reducible first | exact HB.out | apply lA | apply lN | apply lD | refine lT ?_ GE305.out | refine lT ?_ GE337.out | refine lT ?_ GE366.out) | exact HB.out)) hb)
                              clear HO_8
                              clear HO340
                              clear BK305
                              clear BK337
                              clear BK366
                              clear HB
                              have HO_8 := n0_
                              have HO340 := n1_
                              have HO346 := n2_
                              have BK305 := n3_
                              have BK337 := n4_
                              have BK366 := n5_
                              have HB := n6_
                              clear n0_ n1_ n2_ n3_ n4_ n5_ n6_
                              clear hb ho47
                              refine hK.out _ _ trivial (fun hHeld => ?_)
                              clear hK K
                              refine norm_ (a' := ?_) ?_ ?_
                              rotate_left
                              ·
                               show Act.put _ (some 53) _ = _
                               simp only [Act.put, sA, sZ, sS, i64_w, i32_w]
                               rfl
                              exact norm_ (by simp only [putAll, Act.put, sA, sZ, sS] <;> rfl) (hJ0_3_16 (v339, v345, gb366) _ ⟨(by (with_reducible repeat first | apply rA | apply rN | apply rD); exact rM HO340.out (fun _ hk => ⟨hk.2, hk.1⟩)), (by (with_reducible repeat first | apply rA | apply rN | apply rD); exact rM HO346.out (fun _ hk => ⟨hk.2, hk.1.2⟩)), (by (with_reducible repeat first | apply rA | apply rN | apply rD); exact HO_8.out), (by (with_reducible repeat first | refine bN ?_ _ | refine bD ?_ | refine bA ?_ _); exact BK305.out), (by (with_reducible repeat first | refine bN ?_ _ | refine bD ?_ | refine bA ?_ _); exact BK337.out), (by (with_reducible repeat first | refine bN ?_ _ | refine bD ?_ | refine bA ?_ _); exact BK366.out), GW366.out, GE366.out, NB305_366.out, NB366_305.out, NB337_366.out, NB366_337.out, (by repeat (first | (with_reducible first | exact HB.out | apply lA | apply lN | apply lD | refine lT ?_ GE305.out | refine lT ?_ GE337.out | refine lT ?_ GE366.out) | exact HB.out))⟩)
                           ·
                            skip
                            rintro ⟨v339, v345⟩ w46 ⟨h0_, h1_, h2_, h3_, h4_, h5_⟩
                            have n0_ : Aside0 (Kd.R (Kd.int .u8) 5 w46 w.heap.size (fun k_ => some k_ ≠ (v345 : Value).ownBlock ∧ some k_ ≠ (.slice Ao33 t317.length co33 : Value).ownBlock) v339 y338) := ⟨h0_⟩
                            have n1_ : Aside0 (Kd.R (Kd.int .u8) 5 w46 w.heap.size (fun k_ => some k_ ≠ (v339 : Value).ownBlock ∧ some k_ ≠ (.slice Ao33 t317.length co33 : Value).ownBlock) v345 y344) := ⟨h1_⟩
                            have n2_ : Aside0 (Kd.R (Kd.int .u8) 5 w46 w.heap.size (fun k_ => some k_ ≠ (v339 : Value).ownBlock ∧ some k_ ≠ (v345 : Value).ownBlock) (.slice Ao33 t317.length co33) t317) := ⟨h2_⟩
                            have n3_ : Aside0 (w46.heap[gb305]? = some (.cells #[.int .i64 a0_0, .int .u64 a0_1, .int .u64 a0_2, .string a0_3, .string a0_4, .string a0_5, .string a0_6, .int .i64 a0_7, .int .i64 a0_8, .int .i64 a0_9] 24 (0, 0))) := ⟨h3_⟩
                            have n4_ : Aside0 (w46.heap[gb337]? = some (.cells #[.int .i64 t325, .int .u64 t326, .int .u64 t327, .string t328, .string t329, .string t330, .string t331, .int .i64 t332, .int .i64 t333, .int .i64 t334] 24 (0, 0))) := ⟨h4_⟩
                            have n5_ : Aside0 (Below w.heap.size w w46) := ⟨h5_⟩
                            clear HO_8
                            clear BK305
                            clear BK337
                            clear HB
                            clear h0_ h1_ h2_ h3_ h4_ h5_
                            have HO340 := n0_
                            have HO346 := n1_
                            have HO_8 := n2_
                            have BK305 := n3_
                            have BK337 := n4_
                            have HB := n5_
                            clear n0_ n1_ n2_ n3_ n4_ n5_
                            have hHeld := trivial
                            refine norm_ (a' := ?_) ?_ ?_
                            rotate_left
                            ·
                             simp only [putAll, Act.put, sA, sZ, sS, *]
                             rfl
                            refine two_ (i := 2) (j := 16) (Ni := some 52) (Nj := some 14) #[true, true, true, true, false, true, true, true, true, true, false, false, false, false, false, false, false, false, false, false] #[true, true, false, true, false, true, true, true, true, true, false, false, false, false, false, false, true, false, false, false] rfl rfl rfl rfl (two_of HT_.out (by kernel_rfl)) (by decide) (by decide) (fun K hK => ?_) (fun K hK => ?_)
                            ·
                             skip
                             refine Kd.R_append_rows_step (Kd.int .u8) (w0 := w) w.heap.size (by rfl) (.tmp 50) (.tmp 51) 27 5 (.int .u8 0) 1 rfl Tryd.underlying27 info5 rfl (by decide) (by omega) v339 y338 t317 _ _ _ (fun k_ => some k_ ≠ (.slice Ao33 t317.length co33 : Value).ownBlock ∧ some k_ ≠ (v345 : Value).ownBlock) (fun _ => False) rfl rfl ?aO ?aR (fun _ _ h => h) (fun _ h => h.elim) ?aF ?aB ?aS ?aL ?_
                             (case aR => repeat (first | exact (rR HO_8.out).2.2 | (with_reducible refine cA ?_ _) | (with_reducible refine cN ?_ _) | (with_reducible refine cD ?_)))
                             (case aB => exact (by repeat (first | (with_reducible first | exact HB.out | apply lA | apply lN | apply lD | refine lT ?_ GE305.out | refine lT ?_ GE337.out) | exact HB.out)))
                             (case aF => exact (fun k_ hk => ⟨kF (rT (by (with_reducible repeat first | apply rA | apply rN | apply rD); exact HO_8.out)) k_ hk, kF (rT (by (with_reducible repeat first | apply rA | apply rN | apply rD); exact HO346.out)) k_ hk⟩))
                             (case aO => exact (by (with_reducible repeat first | apply rA | apply rN | apply rD); exact rM HO340.out (fun _ hk => ⟨hk.2, hk.1⟩)))
                             (case aS => exact (lZ (by repeat (first | (with_reducible first | exact HB.out | apply lA | apply lN | apply lD | refine lT ?_ GE305.out | refine lT ?_ GE337.out) | exact HB.out))))
                             (case aL => have := LMc22.out; omega)
                             intro v342 w47 ho hb hg hat
                             rw [← Ny341.out] at ho
                             have n0_ := aM (rF (ok := (fun k_ => some k_ ≠ (v345 : Value).ownBlock)) (by (with_reducible repeat first | apply rA | apply rN | apply rD); exact rM HO_8.out (fun _ hk => ⟨hk.2, hk.1⟩)) hg hat)
                             have n1_ := aM (blk_grown (g := gb305) (o := .cells #[.int .i64 a0_0, .int .u64 a0_1, .int .u64 a0_2, .string a0_3, .string a0_4, .string a0_5, .string a0_6, .int .i64 a0_7, .int .i64 a0_8, .int .i64 a0_9] 24 (0, 0)) (by (with_reducible repeat first | refine bN ?_ _ | refine bD ?_ | refine bA ?_ _); exact BK305.out) hg (Kd.R_ne HO340.out BK305.out (by decide)))
                             have n2_ := aM (blk_grown (g := gb337) (o := .cells #[.int .i64 t325, .int .u64 t326, .int .u64 t327, .string t328, .string t329, .string t330, .string t331, .int .i64 t332, .int .i64 t333, .int .i64 t334] 24 (0, 0)) (by (with_reducible repeat first | refine bN ?_ _ | refine bD ?_ | refine bA ?_ _); exact BK337.out) hg (Kd.R_ne HO340.out BK337.out (by decide)))
                             have n3_ := aM (rF (ok := (fun k_ => some k_ ≠ (.slice Ao33 t317.length co33 : Value).ownBlock)) (by (with_reducible repeat first | apply rA | apply rN | apply rD); exact rM HO346.out (fun _ hk => ⟨hk.2, hk.1⟩)) hg hat)
                             have n4_ := aM (hb)
                             have n5_ := aM (ho)
                             clear HO_8
                             clear BK305
                             clear BK337
                             clear HO346
                             clear HB
                             clear HO340
                             have HO_8 := n0_
                             have BK305 := n1_
                             have BK337 := n2_
                             have HO346 := n3_
                             have HB := n4_
                             have HO343 := n5_
                             clear n0_ n1_ n2_ n3_ n4_ n5_
                             clear ho hb hg hat
                             refine hK.out _ _ trivial (fun hHeld => ?_)
                             clear hK K
                             refine norm_ (a' := ?_) ?_ ?_
                             rotate_left
                             ·
                              show Act.put _ (some 52) _ = _
                              simp only [Act.put, sA, sZ, sS, i64_w, i32_w]
                              rfl
                             exact norm_ (by simp only [putAll, Act.put, sA, sZ, sS] <;> rfl) (hJ0_2_3 (v339, v342, v345) _ ⟨(by (with_reducible repeat first | apply rA | apply rN | apply rD); exact rM HO343.out (fun _ hk => ⟨hk.2, hk.1⟩)), (by (with_reducible repeat first | apply rA | apply rN | apply rD); exact rM HO346.out (fun _ hk => ⟨hk.2, hk.1⟩)), (by (with_reducible repeat first | apply rA | apply rN | apply rD); exact rM HO_8.out (fun _ hk => ⟨hk.2, hk.1⟩)), (by (with_reducible repeat first | refine bN ?_ _ | refine bD ?_ | refine bA ?_ _); exact BK305.out), (by (with_reducible repeat first | refine bN ?_ _ | refine bD ?_ | refine bA ?_ _); exact BK337.out), (by repeat (first | (with_reducible first | exact HB.out | apply lA | apply lN | apply lD | refine lT ?_ GE305.out | refine lT ?_ GE337.out) | exact HB.out))⟩)
                            ·
                             skip
                             refine box_step ?hg (N := 14) ?hd (cs := #[.int .i64 0, .int .u64 0, .int .u64 0, .string (⟨#[]⟩ : ByteArray), .string (⟨#[]⟩ : ByteArray), .string (⟨#[]⟩ : ByteArray), .string (⟨#[]⟩ : ByteArray), .int .i64 0, .int .i64 0, .int .i64 0]) (t := 24) ?hr ?_; (case hd => rfl); (case hg => rfl); (case hr => first | (go_simp; done) | (go_simp; rfl))
                             intro gb366 hg w47 hbox hb
                             have n0_ := aM (rB (by (with_reducible repeat first | apply rA | apply rN | apply rD); exact HO_8.out) hb)
                             have n1_ := aM (rB (by (with_reducible repeat first | apply rA | apply rN | apply rD); exact HO340.out) hb)
                             have n2_ := aM (rB (by (with_reducible repeat first | apply rA | apply rN | apply rD); exact HO346.out) hb)
                             have n3_ := aM (bB (g := gb305) (o := .cells #[.int .i64 a0_0, .int .u64 a0_1, .int .u64 a0_2, .string a0_3, .string a0_4, .string a0_5, .string a0_6, .int .i64 a0_7, .int .i64 a0_8, .int .i64 a0_9] 24 (0, 0)) (by (with_reducible repeat first | refine bN ?_ _ | refine bD ?_ | refine bA ?_ _); exact BK305.out) hb)
                             have n4_ := aM (bB (g := gb337) (o := .cells #[.int .i64 t325, .int .u64 t326, .int .u64 t327, .string t328, .string t329, .string t330, .string t331, .int .i64 t332, .int .i64 t333, .int .i64 t334] 24 (0, 0)) (by (with_reducible repeat first | refine bN ?_ _ | refine bD ?_ | refine bA ?_ _); exact BK337.out) hb)
                             have n5_ := aM (lS (by repeat (first | (with_reducible first | exact HB.out | apply lA | apply lN | apply lD | refine lT ?_ GE305.out | refine lT ?_ GE337.out) | exact HB.out)) hb)
                             have n6_ := aM (hbox)
                             have n7_ := aM ((by rw [hg]; exact (lZ (by repeat (first | (with_reducible first | exact HB.out | apply lA | apply lN | apply lD | refine lT ?_ GE305.out | refine lT ?_ GE337.out) | exact HB.out))) : w.heap.size ≤ gb366))
                             have n8_ := aM ((by rw [hg]; exact (lZ (by repeat (first | (with_reducible first | exact HB.out | apply lA | apply lN | apply lD | refine lT ?_ GE305.out | refine lT ?_ GE337.out) | exact HB.out))) : w.heap.size ≤ gb366))
                             have n9_ := aM ((by rw [hg]; exact Nat.ne_of_lt (blk_lt (g := gb305) (o := .cells #[.int .i64 a0_0, .int .u64 a0_1, .int .u64 a0_2, .string a0_3, .string a0_4, .string a0_5, .string a0_6, .int .i64 a0_7, .int .i64 a0_8, .int .i64 a0_9] 24 (0, 0)) (by (with_reducible repeat first | refine bN ?_ _ | refine bD ?_ | refine bA ?_ _); exact BK305.out)) : gb305 ≠ gb366))
                             have n10_ := aM ((by rw [hg]; exact Nat.ne_of_gt (blk_lt (g := gb305) (o := .cells #[.int .i64 a0_0, .int .u64 a0_1, .int .u64 a0_2, .string a0_3, .string a0_4, .string a0_5, .string a0_6, .int .i64 a0_7, .int .i64 a0_8, .int .i64 a0_9] 24 (0, 0)) (by (with_reducible repeat first | refine bN ?_ _ | refine bD ?_ | refine bA ?_ _); exact BK305.out)) : gb366 ≠ gb305))
                             have n11_ := aM ((by rw [hg]; exact Nat.ne_of_lt (blk_lt (g := gb337) (o := .cells #[.int .i64 t325, .int .u64 t326, .int .u64 t327, .string t328, .string t329, .string t330, .string t331, .int .i64 t332, .int .i64 t333, .int .i64 t334] 24 (0, 0)) (by (with_reducible repeat first | refine bN ?_ _ | refine bD ?_ | refine bA ?_ _); exact BK337.out)) : gb337 ≠ gb366))
                             have n12_ := aM ((by rw [hg]; exact Nat.ne_of_gt (blk_lt (g := gb337) (o := .cells #[.int .i64 t325, .int .u64 t326, .int .u64 t327, .string t328, .string t329, .string t330, .string t331, .int .i64 t332, .int .i64 t333, .int .i64 t334] 24 (0, 0)) (by (with_reducible repeat first | refine bN ?_ _ | refine bD ?_ | refine bA ?_ _); exact BK337.out)) : gb366 ≠ gb337))
                             clear HO_8
                             clear HO340
                             clear HO346
                             clear BK305
                             clear BK337
                             clear HB
                             have HO_8 := n0_
                             have HO340 := n1_
                             have HO346 := n2_
                             have BK305 := n3_
                             have BK337 := n4_
                             have HB := n5_
                             have BK366 := n6_
                             have GW366 := n7_
                             have GE366 := n8_
                             have NB305_366 := n9_
                             have NB366_305 := n10_
                             have NB337_366 := n11_
                             have NB366_337 := n12_
                             clear n0_ n1_ n2_ n3_ n4_ n5_ n6_ n7_ n8_ n9_ n10_ n11_ n12_
                             clear hb hbox hg
                             refine hK.out _ _ trivial (fun hHeld => ?_)
                             clear hK K
                             refine norm_ (a' := ?_) ?_ ?_
                             rotate_left
                             ·
                              show Act.put _ (some 14) _ = _
                              simp only [Act.put, sA, sZ, sS, i64_w, i32_w]
                              rfl
                             exact norm_ (by simp only [putAll, Act.put, sA, sZ, sS] <;> rfl) (hJ0_3_16 (v339, v345, gb366) _ ⟨(by (with_reducible repeat first | apply rA | apply rN | apply rD); exact HO340.out), (by (with_reducible repeat first | apply rA | apply rN | apply rD); exact HO346.out), (by (with_reducible repeat first | apply rA | apply rN | apply rD); exact HO_8.out), (by (with_reducible repeat first | refine bN ?_ _ | refine bD ?_ | refine bA ?_ _); exact BK305.out), (by (with_reducible repeat first | refine bN ?_ _ | refine bD ?_ | refine bA ?_ _); exact BK337.out), (by (with_reducible repeat first | refine bN ?_ _ | refine bD ?_ | refine bA ?_ _); exact BK366.out), GW366.out, GE366.out, NB305_366.out, NB366_305.out, NB337_366.out, NB366_337.out, (by repeat (first | (with_reducible first | exact HB.out | apply lA | apply lN | apply lD | refine lT ?_ GE305.out | refine lT ?_ GE337.out | refine lT ?_ GE366.out) | exact HB.out))⟩)
                          ·
                           skip
                           rintro ⟨v339, v342⟩ w45 ⟨h0_, h1_, h2_, h3_, h4_⟩
                           have n0_ : Aside0 (Kd.R (Kd.int .u8) 5 w45 w.heap.size (fun k_ => some k_ ≠ (.slice Ao33 t317.length co33 : Value).ownBlock) v342 y341) := ⟨h0_⟩
                           have n1_ : Aside0 (Kd.R (Kd.int .u8) 5 w45 w.heap.size (fun k_ => some k_ ≠ (v342 : Value).ownBlock) (.slice Ao33 t317.length co33) t317) := ⟨h1_⟩
                           have n2_ : Aside0 (w45.heap[gb305]? = some (.cells #[.int .i64 a0_0, .int .u64 a0_1, .int .u64 a0_2, .string a0_3, .string a0_4, .string a0_5, .string a0_6, .int .i64 a0_7, .int .i64 a0_8, .int .i64 a0_9] 24 (0, 0))) := ⟨h2_⟩
                           have n3_ : Aside0 (w45.heap[gb337]? = some (.cells #[.int .i64 t325, .int .u64 t326, .int .u64 t327, .string t328, .string t329, .string t330, .string t331, .int .i64 t332, .int .i64 t333, .int .i64 t334] 24 (0, 0))) := ⟨h3_⟩
                           have n4_ : Aside0 (Below w.heap.size w w45) := ⟨h4_⟩
                           clear HO_8
                           clear BK305
                           clear BK337
                           clear HB
                           clear h0_ h1_ h2_ h3_ h4_
                           have HO343 := n0_
                           have HO_8 := n1_
                           have BK305 := n2_
                           have BK337 := n3_
                           have HB := n4_
                           clear n0_ n1_ n2_ n3_ n4_
                           have hHeld := trivial
                           refine norm_ (a' := ?_) ?_ ?_
                           rotate_left
                           ·
                            simp only [putAll, Act.put, sA, sZ, sS, *]
                            rfl
                           refine two_ (i := 3) (j := 16) (Ni := some 53) (Nj := some 14) #[true, true, true, true, false, true, true, true, true, true, false, false, false, false, false, false, false, false, false, false] #[true, true, true, false, false, true, true, true, true, true, false, false, false, false, false, false, true, false, false, false] rfl rfl rfl rfl (two_of HT_.out (by kernel_rfl)) (by decide) (by decide) (fun K hK => ?_) (fun K hK => ?_)
                           ·
                            skip
                            refine Kd.R_lit_step (Kd.int .u8) _ 5 ?hg (N := 53) ?hd (xs := ([1] : List Int)) (inner := [.int .u8 1]) (ok := fun _ => True) (okp := fun _ => True) ?hr ?hp (fun _ hk => hk) trivial (Below.refl _ _) (Nat.le_refl _) (by simp) ?_; (case hd => rfl); (case hg => rfl); (case hr => first | (go_simp; done) | (go_simp; rfl)); (case hp => exact (Reps.one (show Kd.M (Kd.int .u8) _ _ _ 1 [.int .u8 1] from rfl) (Reps.none _ _)))
                            intro v345 w46 ho47 hb hg_ hnew_
                            clear hg_ hnew_
                            (first | rw [← Ny344.out] at ho47 | (simp only [Int.reduceToNat] at ho47; rw [← Ny344.out] at ho47))
                            have n0_ := aM (rE (by (with_reducible repeat first | apply rA | apply rN | apply rD); exact HO_8.out) (rS ho47) hb)
                            have n1_ := aM (rE (by (with_reducible repeat first | apply rA | apply rN | apply rD); exact HO343.out) (rS ho47) hb)
                            have n2_ := aM (rL (rW (rW ho47 (rT (by (with_reducible repeat first | apply rA | apply rN | apply rD); exact HO_8.out))) (rT (by (with_reducible repeat first | apply rA | apply rN | apply rD); exact HO343.out))) (lZ (by repeat (first | (with_reducible first | exact HB.out | apply lA | apply lN | apply lD | refine lT ?_ GE305.out | refine lT ?_ GE337.out) | exact HB.out))))
                            have n3_ := aM (bB (g := gb305) (o := .cells #[.int .i64 a0_0, .int .u64 a0_1, .int .u64 a0_2, .string a0_3, .string a0_4, .string a0_5, .string a0_6, .int .i64 a0_7, .int .i64 a0_8, .int .i64 a0_9] 24 (0, 0)) (by (with_reducible repeat first | refine bN ?_ _ | refine bD ?_ | refine bA ?_ _); exact BK305.out) hb)
                            have n4_ := aM (bB (g := gb337) (o := .cells #[.int .i64 t325, .int .u64 t326, .int .u64 t327, .string t328, .string t329, .string t330, .string t331, .int .i64 t332, .int .i64 t333, .int .i64 t334] 24 (0, 0)) (by (with_reducible repeat first | refine bN ?_ _ | refine bD ?_ | refine bA ?_ _); exact BK337.out) hb)
                            have n5_ := aM (lS (by repeat (first | (with_reducible first | exact HB.out | apply lA | apply lN | apply lD | refine lT ?_ GE305.out | refine lT ?_ GE337.out) | exact HB.out)) hb)
                            clear HO_8
                            clear HO343
                            clear BK305
                            clear BK337
                            clear HB
                            have HO_8 := n0_
                            have HO343 := n1_
                            have HO346 := n2_
                            have BK305 := n3_
                            have BK337 := n4_
                            have HB := n5_
                            clear n0_ n1_ n2_ n3_ n4_ n5_
                            clear hb ho47
                            refine hK.out _ _ trivial (fun hHeld => ?_)
                            clear hK K
                            refine norm_ (a' := ?_) ?_ ?_
                            rotate_left
                            ·
                             show Act.put _ (some 53) _ = _
                             simp only [Act.put, sA, sZ, sS, i64_w, i32_w]
                             rfl
                            exact norm_ (by simp only [putAll, Act.put, sA, sZ, sS] <;> rfl) (hJ0_2_3 (v339, v342, v345) _ ⟨(by (with_reducible repeat first | apply rA | apply rN | apply rD); exact rM HO343.out (fun _ hk => ⟨hk.2, hk.1⟩)), (by (with_reducible repeat first | apply rA | apply rN | apply rD); exact rM HO346.out (fun _ hk => ⟨hk.2, hk.1.2⟩)), (by (with_reducible repeat first | apply rA | apply rN | apply rD); exact HO_8.out), (by (with_reducible repeat first | refine bN ?_ _ | refine bD ?_ | refine bA ?_ _); exact BK305.out), (by (with_reducible repeat first | refine bN ?_ _ | refine bD ?_ | refine bA ?_ _); exact BK337.out), (by repeat (first | (with_reducible first | exact HB.out | apply lA | apply lN | apply lD | refine lT ?_ GE305.out | refine lT ?_ GE337.out) | exact HB.out))⟩)
                           ·
                            skip
                            refine box_step ?hg (N := 14) ?hd (cs := #[.int .i64 0, .int .u64 0, .int .u64 0, .string (⟨#[]⟩ : ByteArray), .string (⟨#[]⟩ : ByteArray), .string (⟨#[]⟩ : ByteArray), .string (⟨#[]⟩ : ByteArray), .int .i64 0, .int .i64 0, .int .i64 0]) (t := 24) ?hr ?_; (case hd => rfl); (case hg => rfl); (case hr => first | (go_simp; done) | (go_simp; rfl))
                            intro gb366 hg w46 hbox hb
                            have n0_ := aM (rB (by (with_reducible repeat first | apply rA | apply rN | apply rD); exact HO_8.out) hb)
                            have n1_ := aM (rB (by (with_reducible repeat first | apply rA | apply rN | apply rD); exact HO343.out) hb)
                            have n2_ := aM (bB (g := gb305) (o := .cells #[.int .i64 a0_0, .int .u64 a0_1, .int .u64 a0_2, .string a0_3, .string a0_4, .string a0_5, .string a0_6, .int .i64 a0_7, .int .i64 a0_8, .int .i64 a0_9] 24 (0, 0)) (by (with_reducible repeat first | refine bN ?_ _ | refine bD ?_ | refine bA ?_ _); exact BK305.out) hb)
                            have n3_ := aM (bB (g := gb337) (o := .cells #[.int .i64 t325, .int .u64 t326, .int .u64 t327, .string t328, .string t329, .string t330, .string t331, .int .i64 t332, .int .i64 t333, .int .i64 t334] 24 (0, 0)) (by (with_reducible repeat first | refine bN ?_ _ | refine bD ?_ | refine bA ?_ _); exact BK337.out) hb)
                            have n4_ := aM (lS (by repeat (first | (with_reducible first | exact HB.out | apply lA | apply lN | apply lD | refine lT ?_ GE305.out | refine lT ?_ GE337.out) | exact HB.out)) hb)
                            have n5_ := aM (hbox)
                            have n6_ := aM ((by rw [hg]; exact (lZ (by repeat (first | (with_reducible first | exact HB.out | apply lA | apply lN | apply lD | refine lT ?_ GE305.out | refine lT ?_ GE337.out) | exact HB.out))) : w.heap.size ≤ gb366))
                            have n7_ := aM ((by rw [hg]; exact (lZ (by repeat (first | (with_reducible first | exact HB.out | apply lA | apply lN | apply lD | refine lT ?_ GE305.out | refine lT ?_ GE337.out) | exact HB.out))) : w.heap.size ≤ gb366))
                            have n8_ := aM ((by rw [hg]; exact Nat.ne_of_lt (blk_lt (g := gb305) (o := .cells #[.int .i64 a0_0, .int .u64 a0_1, .int .u64 a0_2, .string a0_3, .string a0_4, .string a0_5, .string a0_6, .int .i64 a0_7, .int .i64 a0_8, .int .i64 a0_9] 24 (0, 0)) (by (with_reducible repeat first | refine bN ?_ _ | refine bD ?_ | refine bA ?_ _); exact BK305.out)) : gb305 ≠ gb366))
                            have n9_ := aM ((by rw [hg]; exact Nat.ne_of_gt (blk_lt (g := gb305) (o := .cells #[.int .i64 a0_0, .int .u64 a0_1, .int .u64 a0_2, .string a0_3, .string a0_4, .string a0_5, .string a0_6, .int .i64 a0_7, .int .i64 a0_8, .int .i64 a0_9] 24 (0, 0)) (by (with_reducible repeat first | refine bN ?_ _ | refine bD ?_ | refine bA ?_ _); exact BK305.out)) : gb366 ≠ gb305))
                            have n10_ := aM ((by rw [hg]; exact Nat.ne_of_lt (blk_lt (g := gb337) (o := .cells #[.int .i64 t325, .int .u64 t326, .int .u64 t327, .string t328, .string t329, .string t330, .string t331, .int .i64 t332, .int .i64 t333, .int .i64 t334] 24 (0, 0)) (by (with_reducible repeat first | refine bN ?_ _ | refine bD ?_ | refine bA ?_ _); exact BK337.out)) : gb337 ≠ gb366))
                            have n11_ := aM ((by rw [hg]; exact Nat.ne_of_gt (blk_lt (g := gb337) (o := .cells #[.int .i64 t325, .int .u64 t326, .int .u64 t327, .string t328, .string t329, .string t330, .string t331, .int .i64 t332, .int .i64 t333, .int .i64 t334] 24 (0, 0)) (by (with_reducible repeat first | refine bN ?_ _ | refine bD ?_ | refine bA ?_ _); exact BK337.out)) : gb366 ≠ gb337))
                            clear HO_8
                            clear HO343
                            clear BK305
                            clear BK337
                            clear HB
                            have HO_8 := n0_
                            have HO343 := n1_
                            have BK305 := n2_
                            have BK337 := n3_
                            have HB := n4_
                            have BK366 := n5_
                            have GW366 := n6_
                            have GE366 := n7_
                            have NB305_366 := n8_
                            have NB366_305 := n9_
                            have NB337_366 := n10_
                            have NB366_337 := n11_
                            clear n0_ n1_ n2_ n3_ n4_ n5_ n6_ n7_ n8_ n9_ n10_ n11_
                            clear hb hbox hg
                            refine hK.out _ _ trivial (fun hHeld => ?_)
                            clear hK K
                            refine norm_ (a' := ?_) ?_ ?_
                            rotate_left
                            ·
                             show Act.put _ (some 14) _ = _
                             simp only [Act.put, sA, sZ, sS, i64_w, i32_w]
                             rfl
                            exact norm_ (by simp only [putAll, Act.put, sA, sZ, sS] <;> rfl) (hJ0_2_16 (v339, v342, gb366) _ ⟨(by (with_reducible repeat first | apply rA | apply rN | apply rD); exact HO343.out), (by (with_reducible repeat first | apply rA | apply rN | apply rD); exact HO_8.out), (by (with_reducible repeat first | refine bN ?_ _ | refine bD ?_ | refine bA ?_ _); exact BK305.out), (by (with_reducible repeat first | refine bN ?_ _ | refine bD ?_ | refine bA ?_ _); exact BK337.out), (by (with_reducible repeat first | refine bN ?_ _ | refine bD ?_ | refine bA ?_ _); exact BK366.out), GW366.out, GE366.out, NB305_366.out, NB366_305.out, NB337_366.out, NB366_337.out, (by repeat (first | (with_reducible first | exact HB.out | apply lA | apply lN | apply lD | refine lT ?_ GE305.out | refine lT ?_ GE337.out | refine lT ?_ GE366.out) | exact HB.out))⟩)
                         ·
                          skip
                          rintro ⟨v339, v345, gb366⟩ w47 ⟨h0_, h1_, h2_, h3_, h4_, h5_, h6_, h7_, h8_, h9_, h10_, h11_, h12_⟩
                          have n0_ : Aside0 (Kd.R (Kd.int .u8) 5 w47 w.heap.size (fun k_ => some k_ ≠ (v345 : Value).ownBlock ∧ some k_ ≠ (.slice Ao33 t317.length co33 : Value).ownBlock) v339 y338) := ⟨h0_⟩
                          have n1_ : Aside0 (Kd.R (Kd.int .u8) 5 w47 w.heap.size (fun k_ => some k_ ≠ (v339 : Value).ownBlock ∧ some k_ ≠ (.slice Ao33 t317.length co33 : Value).ownBlock) v345 y344) := ⟨h1_⟩
                          have n2_ : Aside0 (Kd.R (Kd.int .u8) 5 w47 w.heap.size (fun k_ => some k_ ≠ (v339 : Value).ownBlock ∧ some k_ ≠ (v345 : Value).ownBlock) (.slice Ao33 t317.length co33) t317) := ⟨h2_⟩
                          have n3_ : Aside0 (w47.heap[gb305]? = some (.cells #[.int .i64 a0_0, .int .u64 a0_1, .int .u64 a0_2, .string a0_3, .string a0_4, .string a0_5, .string a0_6, .int .i64 a0_7, .int .i64 a0_8, .int .i64 a0_9] 24 (0, 0))) := ⟨h3_⟩
                          have n4_ : Aside0 (w47.heap[gb337]? = some (.cells #[.int .i64 t325, .int .u64 t326, .int .u64 t327, .string t328, .string t329, .string t330, .string t331, .int .i64 t332, .int .i64 t333, .int .i64 t334] 24 (0, 0))) := ⟨h4_⟩
                          have n5_ : Aside0 (w47.heap[gb366]? = some (.cells #[.int .i64 0, .int .u64 0, .int .u64 0, .string (⟨#[]⟩ : ByteArray), .string (⟨#[]⟩ : ByteArray), .string (⟨#[]⟩ : ByteArray), .string (⟨#[]⟩ : ByteArray), .int .i64 0, .int .i64 0, .int .i64 0] 24 (0, 0))) := ⟨h5_⟩
                          have n6_ : Aside0 (w.heap.size ≤ gb366) := ⟨h6_⟩
                          have n7_ : Aside0 (w.heap.size ≤ gb366) := ⟨h7_⟩
                          have n8_ : Aside0 (gb305 ≠ gb366) := ⟨h8_⟩
                          have n9_ : Aside0 (gb366 ≠ gb305) := ⟨h9_⟩
                          have n10_ : Aside0 (gb337 ≠ gb366) := ⟨h10_⟩
                          have n11_ : Aside0 (gb366 ≠ gb337) := ⟨h11_⟩
                          have n12_ : Aside0 (Below w.heap.size w w47) := ⟨h12_⟩
                          clear HO_8
                          clear BK305
                          clear BK337
                          clear HB
                          clear h0_ h1_ h2_ h3_ h4_ h5_ h6_ h7_ h8_ h9_ h10_ h11_ h12_
                          have HO340 := n0_
                          have HO346 := n1_
                          have HO_8 := n2_
                          have BK305 := n3_
                          have BK337 := n4_
                          have BK366 := n5_
                          have GW366 := n6_
                          have GE366 := n7_
                          have NB305_366 := n8_
                          have NB366_305 := n9_
                          have NB337_366 := n10_
                          have NB366_337 := n11_
                          have HB := n12_
                          clear n0_ n1_ n2_ n3_ n4_ n5_ n6_ n7_ n8_ n9_ n10_ n11_ n12_
                          have hHeld := trivial
                          refine norm_ (a' := ?_) ?_ ?_
                          rotate_left
                          ·
                           simp only [putAll, Act.put, sA, sZ, sS, *]
                           rfl
                          refine one_ (i := 2) (N := some 52) #[true, true, true, true, false, true, true, true, true, true, false, false, false, false, false, false, true, false, false, false] rfl rfl (one_of HT_.out (by kernel_rfl)) (by decide) (fun K hK => ?_)
                          refine Kd.R_append_rows_step (Kd.int .u8) (w0 := w) w.heap.size (by rfl) (.tmp 50) (.tmp 51) 27 5 (.int .u8 0) 1 rfl Tryd.underlying27 info5 rfl (by decide) (by omega) v339 y338 t317 _ _ _ (fun k_ => some k_ ≠ (.slice Ao33 t317.length co33 : Value).ownBlock ∧ some k_ ≠ (v345 : Value).ownBlock) (fun _ => False) rfl rfl ?aO ?aR (fun _ _ h => h) (fun _ h => h.elim) ?aF ?aB ?aS ?aL ?_
                          (case aR => repeat (first | exact (rR HO_8.out).2.2 | (with_reducible refine cA ?_ _) | (with_reducible refine cN ?_ _) | (with_reducible refine cD ?_)))
                          (case aB => exact (by repeat (first | (with_reducible first | exact HB.out | apply lA | apply lN | apply lD | refine lT ?_ GE305.out | refine lT ?_ GE337.out | refine lT ?_ GE366.out) | exact HB.out)))
                          (case aF => exact (fun k_ hk => ⟨kF (rT (by (with_reducible repeat first | apply rA | apply rN | apply rD); exact HO_8.out)) k_ hk, kF (rT (by (with_reducible repeat first | apply rA | apply rN | apply rD); exact HO346.out)) k_ hk⟩))
                          (case aO => exact (by (with_reducible repeat first | apply rA | apply rN | apply rD); exact rM HO340.out (fun _ hk => ⟨hk.2, hk.1⟩)))
                          (case aS => exact (lZ (by repeat (first | (with_reducible first | exact HB.out | apply lA | apply lN | apply lD | refine lT ?_ GE305.out | refine lT ?_ GE337.out | refine lT ?_ GE366.out) | exact HB.out))))
                          (case aL => have := LMc22.out; omega)
                          intro v342 w48 ho hb hg hat
                          rw [← Ny341.out] at ho
                          have n0_ := aM (rF (ok := (fun k_ => some k_ ≠ (v345 : Value).ownBlock)) (by (with_reducible repeat first | apply rA | apply rN | apply rD); exact rM HO_8.out (fun _ hk => ⟨hk.2, hk.1⟩)) hg hat)
                          have n1_ := aM (blk_grown (g := gb305) (o := .cells #[.int .i64 a0_0, .int .u64 a0_1, .int .u64 a0_2, .string a0_3, .string a0_4, .string a0_5, .string a0_6, .int .i64 a0_7, .int .i64 a0_8, .int .i64 a0_9] 24 (0, 0)) (by (with_reducible repeat first | refine bN ?_ _ | refine bD ?_ | refine bA ?_ _); exact BK305.out) hg (Kd.R_ne HO340.out BK305.out (by decide)))
                          have n2_ := aM (blk_grown (g := gb337) (o := .cells #[.int .i64 t325, .int .u64 t326, .int .u64 t327, .string t328, .string t329, .string t330, .string t331, .int .i64 t332, .int .i64 t333, .int .i64 t334] 24 (0, 0)) (by (with_reducible repeat first | refine bN ?_ _ | refine bD ?_ | refine bA ?_ _); exact BK337.out) hg (Kd.R_ne HO340.out BK337.out (by decide)))
                          have n3_ := aM (rF (ok := (fun k_ => some k_ ≠ (.slice Ao33 t317.length co33 : Value).ownBlock)) (by (with_reducible repeat first | apply rA | apply rN | apply rD); exact rM HO346.out (fun _ hk => ⟨hk.2, hk.1⟩)) hg hat)
                          have n4_ := aM (blk_grown (g := gb366) (o := .cells #[.int .i64 0, .int .u64 0, .int .u64 0, .string (⟨#[]⟩ : ByteArray), .string (⟨#[]⟩ : ByteArray), .string (⟨#[]⟩ : ByteArray), .string (⟨#[]⟩ : ByteArray), .int .i64 0, .int .i64 0, .int .i64 0] 24 (0, 0)) (by (with_reducible repeat first | refine bN ?_ _ | refine bD ?_ | refine bA ?_ _); exact BK366.out) hg (Kd.R_ne HO340.out BK366.out (by decide)))
                          have n5_ := aM (hb)
                          have n6_ := aM (ho)
                          clear HO_8
                          clear BK305
                          clear BK337
                          clear HO346
                          clear BK366
                          clear HB
                          clear HO340
                          have HO_8 := n0_
                          have BK305 := n1_
                          have BK337 := n2_
                          have HO346 := n3_
                          have BK366 := n4_
                          have HB := n5_
                          have HO343 := n6_
                          clear n0_ n1_ n2_ n3_ n4_ n5_ n6_
                          clear ho hb hg hat
                          refine hK.out _ _ trivial (fun hHeld => ?_)
                          clear hK K
                          refine norm_ (a' := ?_) ?_ ?_
                          rotate_left
                          ·
                           show Act.put _ (some 52) _ = _
                           simp only [Act.put, sA, sZ, sS, i64_w, i32_w]
                           rfl
                          exact norm_ (by simp only [putAll, Act.put, sA, sZ, sS] <;> rfl) (hJ0_2_3_16 (v339, v342, v345, gb366) _ ⟨(by (with_reducible repeat first | apply rA | apply rN | apply rD); exact rM HO343.out (fun _ hk => ⟨hk.2, hk.1⟩)), (by (with_reducible repeat first | apply rA | apply rN | apply rD); exact rM HO346.out (fun _ hk => ⟨hk.2, hk.1⟩)), (by (with_reducible repeat first | apply rA | apply rN | apply rD); exact rM HO_8.out (fun _ hk => ⟨hk.2, hk.1⟩)), (by (with_reducible repeat first | refine bN ?_ _ | refine bD ?_ | refine bA ?_ _); exact BK305.out), (by (with_reducible repeat first | refine bN ?_ _ | refine bD ?_ | refine bA ?_ _); exact BK337.out), (by (with_reducible repeat first | refine bN ?_ _ | refine bD ?_ | refine bA ?_ _); exact BK366.out), GW366.out, GE366.out, NB305_366.out, NB366_305.out, NB337_366.out, NB366_337.out, (by repeat (first | (with_reducible first | exact HB.out | apply lA | apply lN | apply lD | refine lT ?_ GE305.out | refine lT ?_ GE337.out | refine lT ?_ GE366.out) | exact HB.out))⟩)
                        ·
                         skip
                         rintro ⟨v339, v342, gb366⟩ w46 ⟨h0_, h1_, h2_, h3_, h4_, h5_, h6_, h7_, h8_, h9_, h10_, h11_⟩
                         have n0_ : Aside0 (Kd.R (Kd.int .u8) 5 w46 w.heap.size (fun k_ => some k_ ≠ (.slice Ao33 t317.length co33 : Value).ownBlock) v342 y341) := ⟨h0_⟩
                         have n1_ : Aside0 (Kd.R (Kd.int .u8) 5 w46 w.heap.size (fun k_ => some k_ ≠ (v342 : Value).ownBlock) (.slice Ao33 t317.length co33) t317) := ⟨h1_⟩
                         have n2_ : Aside0 (w46.heap[gb305]? = some (.cells #[.int .i64 a0_0, .int .u64 a0_1, .int .u64 a0_2, .string a0_3, .string a0_4, .string a0_5, .string a0_6, .int .i64 a0_7, .int .i64 a0_8, .int .i64 a0_9] 24 (0, 0))) := ⟨h2_⟩
                         have n3_ : Aside0 (w46.heap[gb337]? = some (.cells #[.int .i64 t325, .int .u64 t326, .int .u64 t327, .string t328, .string t329, .string t330, .string t331, .int .i64 t332, .int .i64 t333, .int .i64 t334] 24 (0, 0))) := ⟨h3_⟩
                         have n4_ : Aside0 (w46.heap[gb366]? = some (.cells #[.int .i64 0, .int .u64 0, .int .u64 0, .string (⟨#[]⟩ : ByteArray), .string (⟨#[]⟩ : ByteArray), .string (⟨#[]⟩ : ByteArray), .string (⟨#[]⟩ : ByteArray), .int .i64 0, .int .i64 0, .int .i64 0] 24 (0, 0))) := ⟨h4_⟩
                         have n5_ : Aside0 (w.heap.size ≤ gb366) := ⟨h5_⟩
                         have n6_ : Aside0 (w.heap.size ≤ gb366) := ⟨h6_⟩
                         have n7_ : Aside0 (gb305 ≠ gb366) := ⟨h7_⟩
                         have n8_ : Aside0 (gb366 ≠ gb305) := ⟨h8_⟩
                         have n9_ : Aside0 (gb337 ≠ gb366) := ⟨h9_⟩
                         have n10_ : Aside0 (gb366 ≠ gb337) := ⟨h10_⟩
                         have n11_ : Aside0 (Below w.heap.size w w46) := ⟨h11_⟩
                         clear HO_8
                         clear BK305
                         clear BK337
                         clear HB
                         clear h0_ h1_ h2_ h3_ h4_ h5_ h6_ h7_ h8_ h9_ h10_ h11_
                         have HO343 := n0_
                         have HO_8 := n1_
                         have BK305 := n2_
                         have BK337 := n3_
                         have BK366 := n4_
                         have GW366 := n5_
                         have GE366 := n6_
                         have NB305_366 := n7_
                         have NB366_305 := n8_
                         have NB337_366 := n9_
                         have NB366_337 := n10_
                         have HB := n11_
                         clear n0_ n1_ n2_ n3_ n4_ n5_ n6_ n7_ n8_ n9_ n10_ n11_
                         have hHeld := trivial
                         refine norm_ (a' := ?_) ?_ ?_
                         rotate_left
                         ·
                          simp only [putAll, Act.put, sA, sZ, sS, *]
                          rfl
                         refine one_ (i := 3) (N := some 53) #[true, true, true, true, false, true, true, true, true, true, false, false, false, false, false, false, true, false, false, false] rfl rfl (one_of HT_.out (by kernel_rfl)) (by decide) (fun K hK => ?_)
                         refine Kd.R_lit_step (Kd.int .u8) _ 5 ?hg (N := 53) ?hd (xs := ([1] : List Int)) (inner := [.int .u8 1]) (ok := fun _ => True) (okp := fun _ => True) ?hr ?hp (fun _ hk => hk) trivial (Below.refl _ _) (Nat.le_refl _) (by simp) ?_; (case hd => rfl); (case hg => rfl); (case hr => first | (go_simp; done) | (go_simp; rfl)); (case hp => exact (Reps.one (show Kd.M (Kd.int .u8) _ _ _ 1 [.int .u8 1] from rfl) (Reps.none _ _)))
                         intro v345 w47 ho48 hb hg_ hnew_
                         clear hg_ hnew_
                         (first | rw [← Ny344.out] at ho48 | (simp only [Int.reduceToNat] at ho48; rw [← Ny344.out] at ho48))
                         have n0_ := aM (rE (by (with_reducible repeat first | apply rA | apply rN | apply rD); exact HO_8.out) (rS ho48) hb)
                         have n1_ := aM (rE (by (with_reducible repeat first | apply rA | apply rN | apply rD); exact HO343.out) (rS ho48) hb)
                         have n2_ := aM (rL (rW (rW ho48 (rT (by (with_reducible repeat first | apply rA | apply rN | apply rD); exact HO_8.out))) (rT (by (with_reducible repeat first | apply rA | apply rN | apply rD); exact HO343.out))) (lZ (by repeat (first | (with_reducible first | exact HB.out | apply lA | apply lN | apply lD | refine lT ?_ GE305.out | refine lT ?_ GE337.out | refine lT ?_ GE366.out) | exact HB.out))))
                         have n3_ := aM (bB (g := gb305) (o := .cells #[.int .i64 a0_0, .int .u64 a0_1, .int .u64 a0_2, .string a0_3, .string a0_4, .string a0_5, .string a0_6, .int .i64 a0_7, .int .i64 a0_8, .int .i64 a0_9] 24 (0, 0)) (by (with_reducible repeat first | refine bN ?_ _ | refine bD ?_ | refine bA ?_ _); exact BK305.out) hb)
                         have n4_ := aM (bB (g := gb337) (o := .cells #[.int .i64 t325, .int .u64 t326, .int .u64 t327, .string t328, .string t329, .string t330, .string t331, .int .i64 t332, .int .i64 t333, .int .i64 t334] 24 (0, 0)) (by (with_reducible repeat first | refine bN ?_ _ | refine bD ?_ | refine bA ?_ _); exact BK337.out) hb)
                         have n5_ := aM (bB (g := gb366) (o := .cells #[.int .i64 0, .int .u64 0, .int .u64 0, .string (⟨#[]⟩ : ByteArray), .string (⟨#[]⟩ : ByteArray), .string (⟨#[]⟩ : ByteArray), .string (⟨#[]⟩ : ByteArray), .int .i64 0, .int .i64 0, .int .i64 0] 24 (0, 0)) (by (with_reducible repeat first | refine bN ?_ _ | refine bD ?_ | refine bA ?_ _); exact BK366.out) hb)
                         have n6_ := aM (lS (by repeat (first | (with_reducible first | exact HB.out | apply lA | apply lN | apply lD | refine lT ?_ GE305.out | refine lT ?_ GE337.out | refine lT ?_ GE366.out) | exact HB.out)) hb)
                         clear HO_8
                         clear HO343
                         clear BK305
                         clear BK337
                         clear BK366
                         clear HB
                         have HO_8 := n0_
                         have HO343 := n1_
                         have HO346 := n2_
                         have BK305 := n3_
                         have BK337 := n4_
                         have BK366 := n5_
                         have HB := n6_
                         clear n0_ n1_ n2_ n3_ n4_ n5_ n6_
                         clear hb ho48
                         refine hK.out _ _ trivial (fun hHeld => ?_)
                         clear hK K
                         refine norm_ (a' := ?_) ?_ ?_
                         rotate_left
                         ·
                          show Act.put _ (some 53) _ = _
                          simp only [Act.put, sA, sZ, sS, i64_w, i32_w]
                          rfl
                         exact norm_ (by simp only [putAll, Act.put, sA, sZ, sS] <;> rfl) (hJ0_2_3_16 (v339, v342, v345, gb366) _ ⟨(by (with_reducible repeat first | apply rA | apply rN | apply rD); exact rM HO343.out (fun _ hk => ⟨hk.2, hk.1⟩)), (by (with_reducible repeat first | apply rA | apply rN | apply rD); exact rM HO346.out (fun _ hk => ⟨hk.2, hk.1.2⟩)), (by (with_reducible repeat first | apply rA | apply rN | apply rD); exact HO_8.out), (by (with_reducible repeat first | refine bN ?_ _ | refine bD ?_ | refine bA ?_ _); exact BK305.out), (by (with_reducible repeat first | refine bN ?_ _ | refine bD ?_ | refine bA ?_ _); exact BK337.out), (by (with_reducible repeat first | refine bN ?_ _ | refine bD ?_ | refine bA ?_ _); exact BK366.out), GW366.out, GE366.out, NB305_366.out, NB366_305.out, NB337_366.out, NB366_337.out, (by repeat (first | (with_reducible first | exact HB.out | apply lA | apply lN | apply lD | refine lT ?_ GE305.out | refine lT ?_ GE337.out | refine lT ?_ GE366.out) | exact HB.out))⟩)
                       ·
                        skip
                        rintro ⟨v339, v342, v345⟩ w47 ⟨h0_, h1_, h2_, h3_, h4_, h5_⟩
                        have n0_ : Aside0 (Kd.R (Kd.int .u8) 5 w47 w.heap.size (fun k_ => some k_ ≠ (v345 : Value).ownBlock ∧ some k_ ≠ (.slice Ao33 t317.length co33 : Value).ownBlock) v342 y341) := ⟨h0_⟩
                        have n1_ : Aside0 (Kd.R (Kd.int .u8) 5 w47 w.heap.size (fun k_ => some k_ ≠ (v342 : Value).ownBlock ∧ some k_ ≠ (.slice Ao33 t317.length co33 : Value).ownBlock) v345 y344) := ⟨h1_⟩
                        have n2_ : Aside0 (Kd.R (Kd.int .u8) 5 w47 w.heap.size (fun k_ => some k_ ≠ (v342 : Value).ownBlock ∧ some k_ ≠ (v345 : Value).ownBlock) (.slice Ao33 t317.length co33) t317) := ⟨h2_⟩
                        have n3_ : Aside0 (w47.heap[gb305]? = some (.cells #[.int .i64 a0_0, .int .u64 a0_1, .int .u64 a0_2, .string a0_3, .string a0_4, .string a0_5, .string a0_6, .int .i64 a0_7, .int .i64 a0_8, .int .i64 a0_9] 24 (0, 0))) := ⟨h3_⟩
                        have n4_ : Aside0 (w47.heap[gb337]? = some (.cells #[.int .i64 t325, .int .u64 t326, .int .u64 t327, .string t328, .string t329, .string t330, .string t331, .int .i64 t332, .int .i64 t333, .int .i64 t334] 24 (0, 0))) := ⟨h4_⟩
                        have n5_ : Aside0 (Below w.heap.size w w47) := ⟨h5_⟩
                        clear HO_8
                        clear BK305
                        clear BK337
                        clear HB
                        clear h0_ h1_ h2_ h3_ h4_ h5_
                        have HO343 := n0_
                        have HO346 := n1_
                        have HO_8 := n2_
                        have BK305 := n3_
                        have BK337 := n4_
                        have HB := n5_
                        clear n0_ n1_ n2_ n3_ n4_ n5_
                        have hHeld := trivial
                        obtain ⟨Ao49, co49, eo49⟩ := Kd.R_slice HO346.out
                        (first | subst eo49 | (injection eo49 with f1_ f2_ f3_; have f4_ := f1_.symm; have f5_ := f3_.symm; clear f1_ f2_ f3_; subst f4_; subst f5_))
                        refine norm_ (a' := ?_) ?_ ?_
                        rotate_left
                        ·
                         simp only [putAll, Act.put, sA, sZ, sS, *]
                         rfl
                        refine two_ (i := 4) (j := 16) (Ni := some 54) (Nj := some 14) #[true, true, true, true, true, true, true, true, true, true, false, false, false, false, false, false, false, false, false, false] #[true, true, true, true, false, true, true, true, true, true, false, false, false, false, false, false, true, false, false, false] rfl rfl rfl rfl (two_of HT_.out (by kernel_rfl)) (by decide) (by decide) (fun K hK => ?_) (fun K hK => ?_)
                        ·
                         skip
                         refine Kd.R_append_rows_step (Kd.int .u8) (w0 := w) w.heap.size (by rfl) (.tmp 52) (.tmp 53) 27 5 (.int .u8 0) 1 rfl Tryd.underlying27 info5 rfl (by decide) (by omega) v342 y341 y344 _ _ _ (fun k_ => some k_ ≠ (.slice Ao33 t317.length co33 : Value).ownBlock ∧ some k_ ≠ (.slice Ao49 y344.length co49 : Value).ownBlock) (fun _ => False) rfl rfl ?aO ?aR (fun _ _ h => h) (fun _ h => h.elim) ?aF ?aB ?aS ?aL ?_
                         (case aR => repeat (first | exact (rR HO346.out).2.2 | (with_reducible refine cA ?_ _) | (with_reducible refine cN ?_ _) | (with_reducible refine cD ?_)))
                         (case aB => exact (by repeat (first | (with_reducible first | exact HB.out | apply lA | apply lN | apply lD | refine lT ?_ GE305.out | refine lT ?_ GE337.out) | exact HB.out)))
                         (case aF => exact (fun k_ hk => ⟨kF (rT (by (with_reducible repeat first | apply rA | apply rN | apply rD); exact HO_8.out)) k_ hk, kF (rT (by (with_reducible repeat first | apply rA | apply rN | apply rD); exact HO346.out)) k_ hk⟩))
                         (case aO => exact (by (with_reducible repeat first | apply rA | apply rN | apply rD); exact rM HO343.out (fun _ hk => ⟨hk.2, hk.1⟩)))
                         (case aS => exact (lZ (by repeat (first | (with_reducible first | exact HB.out | apply lA | apply lN | apply lD | refine lT ?_ GE305.out | refine lT ?_ GE337.out) | exact HB.out))))
                         (case aL => have := LMc23.out; omega)
                         intro v348 w48 ho hb hg hat
                         rw [← Ny347.out] at ho
                         have n0_ := aM (rF (ok := (fun k_ => some k_ ≠ (.slice Ao49 y344.length co49 : Value).ownBlock)) (by (with_reducible repeat first | apply rA | apply rN | apply rD); exact rM HO_8.out (fun _ hk => ⟨hk.2, hk.1⟩)) hg hat)
                         have n1_ := aM (blk_grown (g := gb305) (o := .cells #[.int .i64 a0_0, .int .u64 a0_1, .int .u64 a0_2, .string a0_3, .string a0_4, .string a0_5, .string a0_6, .int .i64 a0_7, .int .i64 a0_8, .int .i64 a0_9] 24 (0, 0)) (by (with_reducible repeat first | refine bN ?_ _ | refine bD ?_ | refine bA ?_ _); exact BK305.out) hg (Kd.R_ne HO343.out BK305.out (by decide)))
                         have n2_ := aM (blk_grown (g := gb337) (o := .cells #[.int .i64 t325, .int .u64 t326, .int .u64 t327, .string t328, .string t329, .string t330, .string t331, .int .i64 t332, .int .i64 t333, .int .i64 t334] 24 (0, 0)) (by (with_reducible repeat first | refine bN ?_ _ | refine bD ?_ | refine bA ?_ _); exact BK337.out) hg (Kd.R_ne HO343.out BK337.out (by decide)))
                         have n3_ := aM (rF (ok := (fun k_ => some k_ ≠ (.slice Ao33 t317.length co33 : Value).ownBlock)) (by (with_reducible repeat first | apply rA | apply rN | apply rD); exact rM HO346.out (fun _ hk => ⟨hk.2, hk.1⟩)) hg hat)
                         have n4_ := aM (hb)
                         have n5_ := aM (ho)
                         clear HO_8
                         clear BK305
                         clear BK337
                         clear HO346
                         clear HB
                         clear HO343
                         have HO_8 := n0_
                         have BK305 := n1_
                         have BK337 := n2_
                         have HO346 := n3_
                         have HB := n4_
                         have HO349 := n5_
                         clear n0_ n1_ n2_ n3_ n4_ n5_
                         clear ho hb hg hat
                         refine hK.out _ _ trivial (fun hHeld => ?_)
                         clear hK K
                         refine norm_ (a' := ?_) ?_ ?_
                         rotate_left
                         ·
                          show Act.put _ (some 54) _ = _
                          simp only [Act.put, sA, sZ, sS, i64_w, i32_w]
                          rfl
                         exact norm_ (by simp only [putAll, Act.put, sA, sZ, sS] <;> rfl) (hJ0_2_3_4 (v339, v342, .slice Ao49 y344.length co49, v348) _ ⟨(by (with_reducible repeat first | apply rA | apply rN | apply rD); exact rM HO346.out (fun _ hk => ⟨hk.2, hk.1⟩)), (by (with_reducible repeat first | apply rA | apply rN | apply rD); exact rM HO349.out (fun _ hk => ⟨hk.2, hk.1⟩)), (by (with_reducible repeat first | apply rA | apply rN | apply rD); exact HO_8.out), (by (with_reducible repeat first | refine bN ?_ _ | refine bD ?_ | refine bA ?_ _); exact BK305.out), (by (with_reducible repeat first | refine bN ?_ _ | refine bD ?_ | refine bA ?_ _); exact BK337.out), (by repeat (first | (with_reducible first | exact HB.out | apply lA | apply lN | apply lD | refine lT ?_ GE305.out | refine lT ?_ GE337.out) | exact HB.out))⟩)
                        ·
                         skip
                         refine box_step ?hg (N := 14) ?hd (cs := #[.int .i64 0, .int .u64 0, .int .u64 0, .string (⟨#[]⟩ : ByteArray), .string (⟨#[]⟩ : ByteArray), .string (⟨#[]⟩ : ByteArray), .string (⟨#[]⟩ : ByteArray), .int .i64 0, .int .i64 0, .int .i64 0]) (t := 24) ?hr ?_; (case hd => rfl); (case hg => rfl); (case hr => first | (go_simp; done) | (go_simp; rfl))
                         intro gb366 hg w48 hbox hb
                         have n0_ := aM (rB (by (with_reducible repeat first | apply rA | apply rN | apply rD); exact HO_8.out) hb)
                         have n1_ := aM (rB (by (with_reducible repeat first | apply rA | apply rN | apply rD); exact HO343.out) hb)
                         have n2_ := aM (rB (by (with_reducible repeat first | apply rA | apply rN | apply rD); exact HO346.out) hb)
                         have n3_ := aM (bB (g := gb305) (o := .cells #[.int .i64 a0_0, .int .u64 a0_1, .int .u64 a0_2, .string a0_3, .string a0_4, .string a0_5, .string a0_6, .int .i64 a0_7, .int .i64 a0_8, .int .i64 a0_9] 24 (0, 0)) (by (with_reducible repeat first | refine bN ?_ _ | refine bD ?_ | refine bA ?_ _); exact BK305.out) hb)
                         have n4_ := aM (bB (g := gb337) (o := .cells #[.int .i64 t325, .int .u64 t326, .int .u64 t327, .string t328, .string t329, .string t330, .string t331, .int .i64 t332, .int .i64 t333, .int .i64 t334] 24 (0, 0)) (by (with_reducible repeat first | refine bN ?_ _ | refine bD ?_ | refine bA ?_ _); exact BK337.out) hb)
                         have n5_ := aM (lS (by repeat (first | (with_reducible first | exact HB.out | apply lA | apply lN | apply lD | refine lT ?_ GE305.out | refine lT ?_ GE337.out) | exact HB.out)) hb)
                         have n6_ := aM (hbox)
                         have n7_ := aM ((by rw [hg]; exact (lZ (by repeat (first | (with_reducible first | exact HB.out | apply lA | apply lN | apply lD | refine lT ?_ GE305.out | refine lT ?_ GE337.out) | exact HB.out))) : w.heap.size ≤ gb366))
                         have n8_ := aM ((by rw [hg]; exact (lZ (by repeat (first | (with_reducible first | exact HB.out | apply lA | apply lN | apply lD | refine lT ?_ GE305.out | refine lT ?_ GE337.out) | exact HB.out))) : w.heap.size ≤ gb366))
                         have n9_ := aM ((by rw [hg]; exact Nat.ne_of_lt (blk_lt (g := gb305) (o := .cells #[.int .i64 a0_0, .int .u64 a0_1, .int .u64 a0_2, .string a0_3, .string a0_4, .string a0_5, .string a0_6, .int .i64 a0_7, .int .i64 a0_8, .int .i64 a0_9] 24 (0, 0)) (by (with_reducible repeat first | refine bN ?_ _ | refine bD ?_ | refine bA ?_ _); exact BK305.out)) : gb305 ≠ gb366))
                         have n10_ := aM ((by rw [hg]; exact Nat.ne_of_gt (blk_lt (g := gb305) (o := .cells #[.int .i64 a0_0, .int .u64 a0_1, .int .u64 a0_2, .string a0_3, .string a0_4, .string a0_5, .string a0_6, .int .i64 a0_7, .int .i64 a0_8, .int .i64 a0_9] 24 (0, 0)) (by (with_reducible repeat first | refine bN ?_ _ | refine bD ?_ | refine bA ?_ _); exact BK305.out)) : gb366 ≠ gb305))
                         have n11_ := aM ((by rw [hg]; exact Nat.ne_of_lt (blk_lt (g := gb337) (o := .cells #[.int .i64 t325, .int .u64 t326, .int .u64 t327, .string t328, .string t329, .string t330, .string t331, .int .i64 t332, .int .i64 t333, .int .i64 t334] 24 (0, 0)) (by (with_reducible repeat first | refine bN ?_ _ | refine bD ?_ | refine bA ?_ _); exact BK337.out)) : gb337 ≠ gb366))
                         have n12_ := aM ((by rw [hg]; exact Nat.ne_of_gt (blk_lt (g := gb337) (o := .cells #[.int .i64 t325, .int .u64 t326, .int .u64 t327, .string t328, .string t329, .string t330, .string t331, .int .i64 t332, .int .i64 t333, .int .i64 t334] 24 (0, 0)) (by (with_reducible repeat first | refine bN ?_ _ | refine bD ?_ | refine bA ?_ _); exact BK337.out)) : gb366 ≠ gb337))
                         clear HO_8
                         clear HO343
                         clear HO346
                         clear BK305
                         clear BK337
                         clear HB
                         have HO_8 := n0_
                         have HO343 := n1_
                         have HO346 := n2_
                         have BK305 := n3_
                         have BK337 := n4_
                         have HB := n5_
                         have BK366 := n6_
                         have GW366 := n7_
                         have GE366 := n8_
                         have NB305_366 := n9_
                         have NB366_305 := n10_
                         have NB337_366 := n11_
                         have NB366_337 := n12_
                         clear n0_ n1_ n2_ n3_ n4_ n5_ n6_ n7_ n8_ n9_ n10_ n11_ n12_
                         clear hb hbox hg
                         refine hK.out _ _ trivial (fun hHeld => ?_)
                         clear hK K
                         refine norm_ (a' := ?_) ?_ ?_
                         rotate_left
                         ·
                          show Act.put _ (some 14) _ = _
                          simp only [Act.put, sA, sZ, sS, i64_w, i32_w]
                          rfl
                         exact norm_ (by simp only [putAll, Act.put, sA, sZ, sS] <;> rfl) (hJ0_2_3_16 (v339, v342, (.slice Ao49 y344.length co49 : Value), gb366) _ ⟨(by (with_reducible repeat first | apply rA | apply rN | apply rD); exact HO343.out), (by (with_reducible repeat first | apply rA | apply rN | apply rD); exact HO346.out), (by (with_reducible repeat first | apply rA | apply rN | apply rD); exact HO_8.out), (by (with_reducible repeat first | refine bN ?_ _ | refine bD ?_ | refine bA ?_ _); exact BK305.out), (by (with_reducible repeat first | refine bN ?_ _ | refine bD ?_ | refine bA ?_ _); exact BK337.out), (by (with_reducible repeat first | refine bN ?_ _ | refine bD ?_ | refine bA ?_ _); exact BK366.out), GW366.out, GE366.out, NB305_366.out, NB366_305.out, NB337_366.out, NB366_337.out, (by repeat (first | (with_reducible first | exact HB.out | apply lA | apply lN | apply lD | refine lT ?_ GE305.out | refine lT ?_ GE337.out | refine lT ?_ GE366.out) | exact HB.out))⟩)
                      ·
                       skip
                       rintro ⟨v339, v342, v345, gb366⟩ w48 ⟨h0_, h1_, h2_, h3_, h4_, h5_, h6_, h7_, h8_, h9_, h10_, h11_, h12_⟩
                       have n0_ : Aside0 (Kd.R (Kd.int .u8) 5 w48 w.heap.size (fun k_ => some k_ ≠ (v345 : Value).ownBlock ∧ some k_ ≠ (.slice Ao33 t317.length co33 : Value).ownBlock) v342 y341) := ⟨h0_⟩
                       have n1_ : Aside0 (Kd.R (Kd.int .u8) 5 w48 w.heap.size (fun k_ => some k_ ≠ (v342 : Value).ownBlock ∧ some k_ ≠ (.slice Ao33 t317.length co33 : Value).ownBlock) v345 y344) := ⟨h1_⟩
                       have n2_ : Aside0 (Kd.R (Kd.int .u8) 5 w48 w.heap.size (fun k_ => some k_ ≠ (v342 : Value).ownBlock ∧ some k_ ≠ (v345 : Value).ownBlock) (.slice Ao33 t317.length co33) t317) := ⟨h2_⟩
                       have n3_ : Aside0 (w48.heap[gb305]? = some (.cells #[.int .i64 a0_0, .int .u64 a0_1, .int .u64 a0_2, .string a0_3, .string a0_4, .string a0_5, .string a0_6, .int .i64 a0_7, .int .i64 a0_8, .int .i64 a0_9] 24 (0, 0))) := ⟨h3_⟩
                       have n4_ : Aside0 (w48.heap[gb337]? = some (.cells #[.int .i64 t325, .int .u64 t326, .int .u64 t327, .string t328, .string t329, .string t330, .string t331, .int .i64 t332, .int .i64 t333, .int .i64 t334] 24 (0, 0))) := ⟨h4_⟩
                       have n5_ : Aside0 (w48.heap[gb366]? = some (.cells #[.int .i64 0, .int .u64 0, .int .u64 0, .string (⟨#[]⟩ : ByteArray), .string (⟨#[]⟩ : ByteArray), .string (⟨#[]⟩ : ByteArray), .string (⟨#[]⟩ : ByteArray), .int .i64 0, .int .i64 0, .int .i64 0] 24 (0, 0))) := ⟨h5_⟩
                       have n6_ : Aside0 (w.heap.size ≤ gb366) := ⟨h6_⟩
                       have n7_ : Aside0 (w.heap.size ≤ gb366) := ⟨h7_⟩
                       have n8_ : Aside0 (gb305 ≠ gb366) := ⟨h8_⟩
                       have n9_ : Aside0 (gb366 ≠ gb305) := ⟨h9_⟩
                       have n10_ : Aside0 (gb337 ≠ gb366) := ⟨h10_⟩
                       have n11_ : Aside0 (gb366 ≠ gb337) := ⟨h11_⟩
                       have n12_ : Aside0 (Below w.heap.size w w48) := ⟨h12_⟩
                       clear HO_8
                       clear BK305
                       clear BK337
                       clear HB
                       clear h0_ h1_ h2_ h3_ h4_ h5_ h6_ h7_ h8_ h9_ h10_ h11_ h12_
                       have HO343 := n0_
                       have HO346 := n1_
                       have HO_8 := n2_
                       have BK305 := n3_
                       have BK337 := n4_
                       have BK366 := n5_
                       have GW366 := n6_
                       have GE366 := n7_
                       have NB305_366 := n8_
                       have NB366_305 := n9_
                       have NB337_366 := n10_
                       have NB366_337 := n11_
                       have HB := n12_
                       clear n0_ n1_ n2_ n3_ n4_ n5_ n6_ n7_ n8_ n9_ n10_ n11_ n12_
                       have hHeld := trivial
                       obtain ⟨Ao50, co50, eo50⟩ := Kd.R_slice HO346.out
                       (first | subst eo50 | (injection eo50 with f1_ f2_ f3_; have f4_ := f1_.symm; have f5_ := f3_.symm; clear f1_ f2_ f3_; subst f4_; subst f5_))
                       refine norm_ (a' := ?_) ?_ ?_
                       rotate_left
                       ·
                        simp only [putAll, Act.put, sA, sZ, sS, *]
                        rfl
                       refine one_ (i := 4) (N := some 54) #[true, true, true, true, true, true, true, true, true, true, false, false, false, false, false, false, true, false, false, false] rfl rfl (one_of HT_.out (by kernel_rfl)) (by decide) (fun K hK => ?_)
                       refine Kd.R_append_rows_step (Kd.int .u8) (w0 := w) w.heap.size (by rfl) (.tmp 52) (.tmp 53) 27 5 (.int .u8 0) 1 rfl Tryd.underlying27 info5 rfl (by decide) (by omega) v342 y341 y344 _ _ _ (fun k_ => some k_ ≠ (.slice Ao33 t317.length co33 : Value).ownBlock ∧ some k_ ≠ (.slice Ao50 y344.length co50 : Value).ownBlock) (fun _ => False) rfl rfl ?aO ?aR (fun _ _ h => h) (fun _ h => h.elim) ?aF ?aB ?aS ?aL ?_
                       (case aR => repeat (first | exact (rR HO346.out).2.2 | (with_reducible refine cA ?_ _) | (with_reducible refine cN ?_ _) | (with_reducible refine cD ?_)))
                       (case aB => exact (by repeat (first | (with_reducible first | exact HB.out | apply lA | apply lN | apply lD | refine lT ?_ GE305.out | refine lT ?_ GE337.out | refine lT ?_ GE366.out) | exact HB.out)))
                       (case aF => exact (fun k_ hk => ⟨kF (rT (by (with_reducible repeat first | apply rA | apply rN | apply rD); exact HO_8.out)) k_ hk, kF (rT (by (with_reducible repeat first | apply rA | apply rN | apply rD); exact HO346.out)) k_ hk⟩))
                       (case aO => exact (by (with_reducible repeat first | apply rA | apply rN | apply rD); exact rM HO343.out (fun _ hk => ⟨hk.2, hk.1⟩)))
                       (case aS => exact (lZ (by repeat (first | (with_reducible first | exact HB.out | apply lA | apply lN | apply lD | refine lT ?_ GE305.out | refine lT ?_ GE337.out | refine lT ?_ GE366.out) | exact HB.out))))
                       (case aL => have := LMc23.out; omega)
                       intro v348 w49 ho hb hg hat
                       rw [← Ny347.out] at ho
                       have n0_ := aM (rF (ok := (fun k_ => some k_ ≠ (.slice Ao50 y344.length co50 : Value).ownBlock)) (by (with_reducible repeat first | apply rA | apply rN | apply rD); exact rM HO_8.out (fun _ hk => ⟨hk.2, hk.1⟩)) hg hat)
                       have n1_ := aM (blk_grown (g := gb305) (o := .cells #[.int .i64 a0_0, .int .u64 a0_1, .int .u64 a0_2, .string a0_3, .string a0_4, .string a0_5, .string a0_6, .int .i64 a0_7, .int .i64 a0_8, .int .i64 a0_9] 24 (0, 0)) (by (with_reducible repeat first | refine bN ?_ _ | refine bD ?_ | refine bA ?_ _); exact BK305.out) hg (Kd.R_ne HO343.out BK305.out (by decide)))
                       have n2_ := aM (blk_grown (g := gb337) (o := .cells #[.int .i64 t325, .int .u64 t326, .int .u64 t327, .string t328, .string t329, .string t330, .string t331, .int .i64 t332, .int .i64 t333, .int .i64 t334] 24 (0, 0)) (by (with_reducible repeat first | refine bN ?_ _ | refine bD ?_ | refine bA ?_ _); exact BK337.out) hg (Kd.R_ne HO343.out BK337.out (by decide)))
                       have n3_ := aM (rF (ok := (fun k_ => some k_ ≠ (.slice Ao33 t317.length co33 : Value).ownBlock)) (by (with_reducible repeat first | apply rA | apply rN | apply rD); exact rM HO346.out (fun _ hk => ⟨hk.2, hk.1⟩)) hg hat)
                       have n4_ := aM (blk_grown (g := gb366) (o := .cells #[.int .i64 0, .int .u64 0, .int .u64 0, .string (⟨#[]⟩ : ByteArray), .string (⟨#[]⟩ : ByteArray), .string (⟨#[]⟩ : ByteArray), .string (⟨#[]⟩ : ByteArray), .int .i64 0, .int .i64 0, .int .i64 0] 24 (0, 0)) (by (with_reducible repeat first | refine bN ?_ _ | refine bD ?_ | refine bA ?_ _); exact BK366.out) hg (Kd.R_ne HO343.out BK366.out (by decide)))
                       have n5_ := aM (hb)
                       have n6_ := aM (ho)
                       clear HO_8
                       clear BK305
                       clear BK337
                       clear HO346
                       clear BK366
                       clear HB
                       clear HO343
                       have HO_8 := n0_
                       have BK305 := n1_
                       have BK337 := n2_
                       have HO346 := n3_
                       have BK366 := n4_
                       have HB := n5_
                       have HO349 := n6_
                       clear n0_ n1_ n2_ n3_ n4_ n5_ n6_
                       clear ho hb hg hat
                       refine hK.out _ _ trivial (fun hHeld => ?_)
                       clear hK K
                       refine norm_ (a' := ?_) ?_ ?_
                       rotate_left
                       ·
                        show Act.put _ (some 54) _ = _
                        simp only [Act.put, sA, sZ, sS, i64_w, i32_w]
                        rfl
                       exact norm_ (by simp only [putAll, Act.put, sA, sZ, sS] <;> rfl) (hJ0_2_3_4_16 (v339, v342, .slice Ao50 y344.length co50, v348, gb366) _ ⟨(by (with_reducible repeat first | apply rA | apply rN | apply rD); exact rM HO346.out (fun _ hk => ⟨hk.2, hk.1⟩)), (by (with_reducible repeat first | apply rA | apply rN | apply rD); exact rM HO349.out (fun _ hk => ⟨hk.2, hk.1⟩)), (by (with_reducible repeat first | apply rA | apply rN | apply rD); exact HO_8.out), (by (with_reducible repeat first | refine bN ?_ _ | refine bD ?_ | refine bA ?_ _); exact BK305.out), (by (with_reducible repeat first | refine bN ?_ _ | refine bD ?_ | refine bA ?_ _); exact BK337.out), (by (with_reducible repeat first | refine bN ?_ _ | refine bD ?_ | refine bA ?_ _); exact BK366.out), GW366.out, GE366.out, NB305_366.out, NB366_305.out, NB337_366.out, NB366_337.out, (by repeat (first | (with_reducible first | exact HB.out | apply lA | apply lN | apply lD | refine lT ?_ GE305.out | refine lT ?_ GE337.out | refine lT ?_ GE366.out) | exact HB.out))⟩)
                     ·
                      skip
                      rintro ⟨v339, v342, v345, v348⟩ w49 ⟨h0_, h1_, h2_, h3_, h4_, h5_⟩
                      have n0_ : Aside0 (Kd.R (Kd.int .u8) 5 w49 w.heap.size (fun k_ => some k_ ≠ (v348 : Value).ownBlock ∧ some k_ ≠ (.slice Ao33 t317.length co33 : Value).ownBlock) v345 y344) := ⟨h0_⟩
                      have n1_ : Aside0 (Kd.R (Kd.int .u8) 5 w49 w.heap.size (fun k_ => some k_ ≠ (v345 : Value).ownBlock ∧ some k_ ≠ (.slice Ao33 t317.length co33 : Value).ownBlock) v348 y347) := ⟨h1_⟩
                      have n2_ : Aside0 (Kd.R (Kd.int .u8) 5 w49 w.heap.size (fun k_ => some k_ ≠ (v345 : Value).ownBlock ∧ some k_ ≠ (v348 : Value).ownBlock) (.slice Ao33 t317.length co33) t317) := ⟨h2_⟩
                      have n3_ : Aside0 (w49.heap[gb305]? = some (.cells #[.int .i64 a0_0, .int .u64 a0_1, .int .u64 a0_2, .string a0_3, .string a0_4, .string a0_5, .string a0_6, .int .i64 a0_7, .int .i64 a0_8, .int .i64 a0_9] 24 (0, 0))) := ⟨h3_⟩
                      have n4_ : Aside0 (w49.heap[gb337]? = some (.cells #[.int .i64 t325, .int .u64 t326, .int .u64 t327, .string t328, .string t329, .string t330, .string t331, .int .i64 t332, .int .i64 t333, .int .i64 t334] 24 (0, 0))) := ⟨h4_⟩
                      have n5_ : Aside0 (Below w.heap.size w w49) := ⟨h5_⟩
                      clear HO_8
                      clear BK305
                      clear BK337
                      clear HB
                      clear h0_ h1_ h2_ h3_ h4_ h5_
                      have HO346 := n0_
                      have HO349 := n1_
                      have HO_8 := n2_
                      have BK305 := n3_
                      have BK337 := n4_
                      have HB := n5_
                      clear n0_ n1_ n2_ n3_ n4_ n5_
                      have hHeld := trivial
                      refine norm_ (a' := ?_) ?_ ?_
                      rotate_left
                      ·
                       simp only [putAll, Act.put, sA, sZ, sS, *]
                       rfl
                      refine two_ (i := 10) (j := 16) (Ni := some 60) (Nj := some 14) #[true, true, true, true, true, true, true, true, true, true, true, false, false, false, false, false, false, false, false, false] #[true, true, true, true, true, true, true, true, true, true, false, false, false, false, false, false, true, false, false, false] rfl rfl rfl rfl (two_of HT_.out (by kernel_rfl)) (by decide) (by decide) (fun K hK => ?_) (fun K hK => ?_)
                      ·
                       skip
                       refine Kd.R_append_rows_step (Kd.int .u8) (w0 := w) w.heap.size (by rfl) (.tmp 54) (.tmp 59) 27 5 (.int .u8 0) 1 rfl Tryd.underlying27 info5 rfl (by decide) (by omega) v348 y347 (l2.take ((ji24) : Int).toNat) _ _ _ (fun k_ => some k_ ≠ (.slice Ao33 t317.length co33 : Value).ownBlock ∧ some k_ ≠ (v345 : Value).ownBlock) (fun _ => False) rfl rfl ?aO ?aR (fun _ _ h => h) (fun _ h => h.elim) ?aF ?aB ?aS ?aL ?_
                       (case aR => first | (refine Kd_C_len (show (l2.take ((ji24) : Int).toNat).length = (ji24).toNat from (by rw [List.length_take]; have h_ : ((ji24) : Int) ≤ (l2.length : Int) := of_decide_eq_true (by first | (with_reducible assumption) | assumption); omega)) ?_; repeat (first | exact (Kd.C_below HR350.out HB.out) | (with_reducible refine cA ?_ _) | (with_reducible refine cN ?_ _) | (with_reducible refine cD ?_))) | (repeat (first | exact (Kd.C_below HR350.out HB.out) | (with_reducible refine cA ?_ _) | (with_reducible refine cN ?_ _) | (with_reducible refine cD ?_))))
                       (case aB => exact (by repeat (first | (with_reducible first | exact HB.out | apply lA | apply lN | apply lD | refine lT ?_ GE305.out | refine lT ?_ GE337.out) | exact HB.out)))
                       (case aF => exact (fun k_ hk => ⟨kF (rT (by (with_reducible repeat first | apply rA | apply rN | apply rD); exact HO_8.out)) k_ hk, kF (rT (by (with_reducible repeat first | apply rA | apply rN | apply rD); exact HO346.out)) k_ hk⟩))
                       (case aO => exact (by (with_reducible repeat first | apply rA | apply rN | apply rD); exact rM HO349.out (fun _ hk => ⟨hk.2, hk.1⟩)))
                       (case aS => exact (lZ (by repeat (first | (with_reducible first | exact HB.out | apply lA | apply lN | apply lD | refine lT ?_ GE305.out | refine lT ?_ GE337.out) | exact HB.out))))
                       (case aL => have := LMc27.out; have hlx_ := (show (l2.take ((ji24) : Int).toNat).length = (ji24).toNat from (by rw [List.length_take]; have h_ : ((ji24) : Int) ≤ (l2.length : Int) := of_decide_eq_true (by first | (with_reducible assumption) | assumption); omega)); omega)
                       intro v352 w50 ho hb hg hat
                       rw [← Ny351.out] at ho
                       have n0_ := aM (rF (ok := (fun k_ => some k_ ≠ (v345 : Value).ownBlock)) (by (with_reducible repeat first | apply rA | apply rN | apply rD); exact HO_8.out) hg hat)
                       have n1_ := aM (blk_grown (g := gb305) (o := .cells #[.int .i64 a0_0, .int .u64 a0_1, .int .u64 a0_2, .string a0_3, .string a0_4, .string a0_5, .string a0_6, .int .i64 a0_7, .int .i64 a0_8, .int .i64 a0_9] 24 (0, 0)) (by (with_reducible repeat first | refine bN ?_ _ | refine bD ?_ | refine bA ?_ _); exact BK305.out) hg (Kd.R_ne HO349.out BK305.out (by decide)))
                       have n2_ := aM (blk_grown (g := gb337) (o := .cells #[.int .i64 t325, .int .u64 t326, .int .u64 t327, .string t328, .string t329, .string t330, .string t331, .int .i64 t332, .int .i64 t333, .int .i64 t334] 24 (0, 0)) (by (with_reducible repeat first | refine bN ?_ _ | refine bD ?_ | refine bA ?_ _); exact BK337.out) hg (Kd.R_ne HO349.out BK337.out (by decide)))
                       have n3_ := aM (rF (ok := (fun k_ => some k_ ≠ (.slice Ao33 t317.length co33 : Value).ownBlock)) (by (with_reducible repeat first | apply rA | apply rN | apply rD); exact rM HO346.out (fun _ hk => ⟨hk.2, hk.1⟩)) hg hat)
                       have n4_ := aM (hb)
                       have n5_ := aM (ho)
                       clear HO_8
                       clear BK305
                       clear BK337
                       clear HO346
                       clear HB
                       clear HO349
                       have HO_8 := n0_
                       have BK305 := n1_
                       have BK337 := n2_
                       have HO346 := n3_
                       have HB := n4_
                       have HO353 := n5_
                       clear n0_ n1_ n2_ n3_ n4_ n5_
                       clear ho hb hg hat
                       refine hK.out _ _ trivial (fun hHeld => ?_)
                       clear hK K
                       refine norm_ (a' := ?_) ?_ ?_
                       rotate_left
                       ·
                        show Act.put _ (some 60) _ = _
                        simp only [Act.put, sA, sZ, sS, i64_w, i32_w]
                        rfl
                       exact norm_ (by simp only [putAll, Act.put, sA, sZ, sS] <;> rfl) (hJ0_2_3_4_10 (v339, v342, v345, v348, v352) _ ⟨(by (with_reducible repeat first | apply rA | apply rN | apply rD); exact rM HO346.out (fun _ hk => ⟨hk.2, hk.1⟩)), (by (with_reducible repeat first | apply rA | apply rN | apply rD); exact rM HO353.out (fun _ hk => ⟨hk.2, hk.1⟩)), (by (with_reducible repeat first | apply rA | apply rN | apply rD); exact HO_8.out), (by (with_reducible repeat first | refine bN ?_ _ | refine bD ?_ | refine bA ?_ _); exact BK305.out), (by (with_reducible repeat first | refine bN ?_ _ | refine bD ?_ | refine bA ?_ _); exact BK337.out), (by repeat (first | (with_reducible first | exact HB.out | apply lA | apply lN | apply lD | refine lT ?_ GE305.out | refine lT ?_ GE337.out) | exact HB.out))⟩)
                      ·
                       skip
                       refine box_step ?hg (N := 14) ?hd (cs := #[.int .i64 0, .int .u64 0, .int .u64 0, .string (⟨#[]⟩ : ByteArray), .string (⟨#[]⟩ : ByteArray), .string (⟨#[]⟩ : ByteArray), .string (⟨#[]⟩ : ByteArray), .int .i64 0, .int .i64 0, .int .i64 0]) (t := 24) ?hr ?_; (case hd => rfl); (case hg => rfl); (case hr => first | (go_simp; done) | (go_simp; rfl))
                       intro gb366 hg w50 hbox hb
                       have n0_ := aM (rB (by (with_reducible repeat first | apply rA | apply rN | apply rD); exact HO_8.out) hb)
                       have n1_ := aM (rB (by (with_reducible repeat first | apply rA | apply rN | apply rD); exact HO346.out) hb)
                       have n2_ := aM (rB (by (with_reducible repeat first | apply rA | apply rN | apply rD); exact HO349.out) hb)
                       have n3_ := aM (bB (g := gb305) (o := .cells #[.int .i64 a0_0, .int .u64 a0_1, .int .u64 a0_2, .string a0_3, .string a0_4, .string a0_5, .string a0_6, .int .i64 a0_7, .int .i64 a0_8, .int .i64 a0_9] 24 (0, 0)) (by (with_reducible repeat first | refine bN ?_ _ | refine bD ?_ | refine bA ?_ _); exact BK305.out) hb)
                       have n4_ := aM (bB (g := gb337) (o := .cells #[.int .i64 t325, .int .u64 t326, .int .u64 t327, .string t328, .string t329, .string t330, .string t331, .int .i64 t332, .int .i64 t333, .int .i64 t334] 24 (0, 0)) (by (with_reducible repeat first | refine bN ?_ _ | refine bD ?_ | refine bA ?_ _); exact BK337.out) hb)
                       have n5_ := aM (lS (by repeat (first | (with_reducible first | exact HB.out | apply lA | apply lN | apply lD | refine lT ?_ GE305.out | refine lT ?_ GE337.out) | exact HB.out)) hb)
                       have n6_ := aM (hbox)
                       have n7_ := aM ((by rw [hg]; exact (lZ (by repeat (first | (with_reducible first | exact HB.out | apply lA | apply lN | apply lD | refine lT ?_ GE305.out | refine lT ?_ GE337.out) | exact HB.out))) : w.heap.size ≤ gb366))
                       have n8_ := aM ((by rw [hg]; exact (lZ (by repeat (first | (with_reducible first | exact HB.out | apply lA | apply lN | apply lD | refine lT ?_ GE305.out | refine lT ?_ GE337.out) | exact HB.out))) : w.heap.size ≤ gb366))
                       have n9_ := aM ((by rw [hg]; exact Nat.ne_of_lt (blk_lt (g := gb305) (o := .cells #[.int .i64 a0_0, .int .u64 a0_1, .int .u64 a0_2, .string a0_3, .string a0_4, .string a0_5, .string a0_6, .int .i64 a0_7, .int .i64 a0_8, .int .i64 a0_9] 24 (0, 0)) (by (with_reducible repeat first | refine bN ?_ _ | refine bD ?_ | refine bA ?_ _); exact BK305.out)) : gb305 ≠ gb366))
                       have n10_ := aM ((by rw [hg]; exact Nat.ne_of_gt (blk_lt (g := gb305) (o := .cells #[.int .i64 a0_0, .int .u64 a0_1, .int .u64 a0_2, .string a0_3, .string a0_4, .string a0_5, .string a0_6, .int .i64 a0_7, .int .i64 a0_8, .int .i64 a0_9] 24 (0, 0)) (by (with_reducible repeat first | refine bN ?_ _ | refine bD ?_ | refine bA ?_ _); exact BK305.out)) : gb366 ≠ gb305))
                       have n11_ := aM ((by rw [hg]; exact Nat.ne_of_lt (blk_lt (g := gb337) (o := .cells #[.int .i64 t325, .int .u64 t326, .int .u64 t327, .string t328, .string t329, .string t330, .string t331, .int .i64 t332, .int .i64 t333, .int .i64 t334] 24 (0, 0)) (by (with_reducible repeat first | refine bN ?_ _ | refine bD ?_ | refine bA ?_ _); exact BK337.out)) : gb337 ≠ gb366))
                       have n12_ := aM ((by rw [hg]; exact Nat.ne_of_gt (blk_lt (g := gb337) (o := .cells #[.int .i64 t325, .int .u64 t326, .int .u64 t327, .string t328, .string t329, .string t330, .string t331, .int .i64 t332, .int .i64 t333, .int .i64 t334] 24 (0, 0)) (by (with_reducible repeat first | refine bN ?_ _ | refine bD ?_ | refine bA ?_ _); exact BK337.out)) : gb366 ≠ gb337))
                       clear HO_8
                       clear HO346
                       clear HO349
                       clear BK305
                       clear BK337
                       clear HB
                       have HO_8 := n0_
                       have HO346 := n1_
                       have HO349 := n2_
                       have BK305 := n3_
                       have BK337 := n4_
                       have HB := n5_
                       have BK366 := n6_
                       have GW366 := n7_
                       have GE366 := n8_
                       have NB305_366 := n9_
                       have NB366_305 := n10_
                       have NB337_366 := n11_
                       have NB366_337 := n12_
                       clear n0_ n1_ n2_ n3_ n4_ n5_ n6_ n7_ n8_ n9_ n10_ n11_ n12_
                       clear hb hbox hg
                       refine hK.out _ _ trivial (fun hHeld => ?_)
                       clear hK K
                       refine norm_ (a' := ?_) ?_ ?_
                       rotate_left
                       ·
                        show Act.put _ (some 14) _ = _
                        simp only [Act.put, sA, sZ, sS, i64_w, i32_w]
                        rfl
                       exact norm_ (by simp only [putAll, Act.put, sA, sZ, sS] <;> rfl) (hJ0_2_3_4_16 (v339, v342, v345, v348, gb366) _ ⟨(by (with_reducible repeat first | apply rA | apply rN | apply rD); exact HO346.out), (by (with_reducible repeat first | apply rA | apply rN | apply rD); exact HO349.out), (by (with_reducible repeat first | apply rA | apply rN | apply rD); exact HO_8.out), (by (with_reducible repeat first | refine bN ?_ _ | refine bD ?_ | refine bA ?_ _); exact BK305.out), (by (with_reducible repeat first | refine bN ?_ _ | refine bD ?_ | refine bA ?_ _); exact BK337.out), (by (with_reducible repeat first | refine bN ?_ _ | refine bD ?_ | refine bA ?_ _); exact BK366.out), GW366.out, GE366.out, NB305_366.out, NB366_305.out, NB337_366.out, NB366_337.out, (by repeat (first | (with_reducible first | exact HB.out | apply lA | apply lN | apply lD | refine lT ?_ GE305.out | refine lT ?_ GE337.out | refine lT ?_ GE366.out) | exact HB.out))⟩)
                    ·
                     skip
                     rintro ⟨v339, v342, v345, v348, gb366⟩ w50 ⟨h0_, h1_, h2_, h3_, h4_, h5_, h6_, h7_, h8_, h9_, h10_, h11_, h12_⟩
                     have n0_ : Aside0 (Kd.R (Kd.int .u8) 5 w50 w.heap.size (fun k_ => some k_ ≠ (v348 : Value).ownBlock ∧ some k_ ≠ (.slice Ao33 t317.length co33 : Value).ownBlock) v345 y344) := ⟨h0_⟩
                     have n1_ : Aside0 (Kd.R (Kd.int .u8) 5 w50 w.heap.size (fun k_ => some k_ ≠ (v345 : Value).ownBlock ∧ some k_ ≠ (.slice Ao33 t317.length co33 : Value).ownBlock) v348 y347) := ⟨h1_⟩
                     have n2_ : Aside0 (Kd.R (Kd.int .u8) 5 w50 w.heap.size (fun k_ => some k_ ≠ (v345 : Value).ownBlock ∧ some k_ ≠ (v348 : Value).ownBlock) (.slice Ao33 t317.length co33) t317) := ⟨h2_⟩
                     have n3_ : Aside0 (w50.heap[gb305]? = some (.cells #[.int .i64 a0_0, .int .u64 a0_1, .int .u64 a0_2, .string a0_3, .string a0_4, .string a0_5, .string a0_6, .int .i64 a0_7, .int .i64 a0_8, .int .i64 a0_9] 24 (0, 0))) := ⟨h3_⟩
                     have n4_ : Aside0 (w50.heap[gb337]? = some (.cells #[.int .i64 t325, .int .u64 t326, .int .u64 t327, .string t328, .string t329, .string t330, .string t331, .int .i64 t332, .int .i64 t333, .int .i64 t334] 24 (0, 0))) := ⟨h4_⟩
                     have n5_ : Aside0 (w50.heap[gb366]? = some (.cells #[.int .i64 0, .int .u64 0, .int .u64 0, .string (⟨#[]⟩ : ByteArray), .string (⟨#[]⟩ : ByteArray), .string (⟨#[]⟩ : ByteArray), .string (⟨#[]⟩ : ByteArray), .int .i64 0, .int .i64 0, .int .i64 0] 24 (0, 0))) := ⟨h5_⟩
                     have n6_ : Aside0 (w.heap.size ≤ gb366) := ⟨h6_⟩
                     have n7_ : Aside0 (w.heap.size ≤ gb366) := ⟨h7_⟩
                     have n8_ : Aside0 (gb305 ≠ gb366) := ⟨h8_⟩
                     have n9_ : Aside0 (gb366 ≠ gb305) := ⟨h9_⟩
                     have n10_ : Aside0 (gb337 ≠ gb366) := ⟨h10_⟩
                     have n11_ : Aside0 (gb366 ≠ gb337) := ⟨h11_⟩
                     have n12_ : Aside0 (Below w.heap.size w w50) := ⟨h12_⟩
                     clear HO_8
                     clear BK305
                     clear BK337
                     clear HB
                     clear h0_ h1_ h2_ h3_ h4_ h5_ h6_ h7_ h8_ h9_ h10_ h11_ h12_
                     have HO346 := n0_
                     have HO349 := n1_
                     have HO_8 := n2_
                     have BK305 := n3_
                     have BK337 := n4_
                     have BK366 := n5_
                     have GW366 := n6_
                     have GE366 := n7_
                     have NB305_366 := n8_
                     have NB366_305 := n9_
                     have NB337_366 := n10_
                     have NB366_337 := n11_
                     have HB := n12_
                     clear n0_ n1_ n2_ n3_ n4_ n5_ n6_ n7_ n8_ n9_ n10_ n11_ n12_
                     have hHeld := trivial
                     refine norm_ (a' := ?_) ?_ ?_
                     rotate_left
                     ·
                      simp only [putAll, Act.put, sA, sZ, sS, *]
                      rfl
                     refine one_ (i := 10) (N := some 60) #[true, true, true, true, true, true, true, true, true, true, true, false, false, false, false, false, true, false, false, false] rfl rfl (one_of HT_.out (by kernel_rfl)) (by decide) (fun K hK => ?_)
                     refine Kd.R_append_rows_step (Kd.int .u8) (w0 := w) w.heap.size (by rfl) (.tmp 54) (.tmp 59) 27 5 (.int .u8 0) 1 rfl Tryd.underlying27 info5 rfl (by decide) (by omega) v348 y347 (l2.take ((ji24) : Int).toNat) _ _ _ (fun k_ => some k_ ≠ (.slice Ao33 t317.length co33 : Value).ownBlock ∧ some k_ ≠ (v345 : Value).ownBlock) (fun _ => False) rfl rfl ?aO ?aR (fun _ _ h => h) (fun _ h => h.elim) ?aF ?aB ?aS ?aL ?_
                     (case aR => first | (refine Kd_C_len (show (l2.take ((ji24) : Int).toNat).length = (ji24).toNat from (by rw [List.length_take]; have h_ : ((ji24) : Int) ≤ (l2.length : Int) := of_decide_eq_true (by first | (with_reducible assumption) | assumption); omega)) ?_; repeat (first | exact (Kd.C_below HR350.out HB.out) | (with_reducible refine cA ?_ _) | (with_reducible refine cN ?_ _) | (with_reducible refine cD ?_))) | (repeat (first | exact (Kd.C_below HR350.out HB.out) | (with_reducible refine cA ?_ _) | (with_reducible refine cN ?_ _) | (with_reducible refine cD ?_))))
                     (case aB => exact (by repeat (first | (with_reducible first | exact HB.out | apply lA | apply lN | apply lD | refine lT ?_ GE305.out | refine lT ?_ GE337.out | refine lT ?_ GE366.out) | exact HB.out)))
                     (case aF => exact (fun k_ hk => ⟨kF (rT (by (with_reducible repeat first | apply rA | apply rN | apply rD); exact HO_8.out)) k_ hk, kF (rT (by (with_reducible repeat first | apply rA | apply rN | apply rD); exact HO346.out)) k_ hk⟩))
                     (case aO => exact (by (with_reducible repeat first | apply rA | apply rN | apply rD); exact rM HO349.out (fun _ hk => ⟨hk.2, hk.1⟩)))
                     (case aS => exact (lZ (by repeat (first | (with_reducible first | exact HB.out | apply lA | apply lN | apply lD | refine lT ?_ GE305.out | refine lT ?_ GE337.out | refine lT ?_ GE366.out) | exact HB.out))))
                     (case aL => have := LMc27.out; have hlx_ := (show (l2.take ((ji24) : Int).toNat).length = (ji24).toNat from (by rw [List.length_take]; have h_ : ((ji24) : Int) ≤ (l2.length : Int) := of_decide_eq_true (by first | (with_reducible assumption) | assumption); omega)); omega)
                     intro v352 w51 ho hb hg hat
                     rw [← Ny351.out] at ho
                     have n0_ := aM (rF (ok := (fun k_ => some k_ ≠ (v345 : Value).ownBlock)) (by (with_reducible repeat first | apply rA | apply rN | apply rD); exact HO_8.out) hg hat)
                     have n1_ := aM (blk_grown (g := gb305) (o := .cells #[.int .i64 a0_0, .int .u64 a0_1, .int .u64 a0_2, .string a0_3, .string a0_4, .string a0_5, .string a0_6, .int .i64 a0_7, .int .i64 a0_8, .int .i64 a0_9] 24 (0, 0)) (by (with_reducible repeat first | refine bN ?_ _ | refine bD ?_ | refine bA ?_ _); exact BK305.out) hg (Kd.R_ne HO349.out BK305.out (by decide)))
                     have n2_ := aM (blk_grown (g := gb337) (o := .cells #[.int .i64 t325, .int .u64 t326, .int .u64 t327, .string t328, .string t329, .string t330, .string t331, .int .i64 t332, .int .i64 t333, .int .i64 t334] 24 (0, 0)) (by (with_reducible repeat first | refine bN ?_ _ | refine bD ?_ | refine bA ?_ _); exact BK337.out) hg (Kd.R_ne HO349.out BK337.out (by decide)))
                     have n3_ := aM (rF (ok := (fun k_ => some k_ ≠ (.slice Ao33 t317.length co33 : Value).ownBlock)) (by (with_reducible repeat first | apply rA | apply rN | apply rD); exact rM HO346.out (fun _ hk => ⟨hk.2, hk.1⟩)) hg hat)
                     have n4_ := aM (blk_grown (g := gb366) (o := .cells #[.int .i64 0, .int .u64 0, .int .u64 0, .string (⟨#[]⟩ : ByteArray), .string (⟨#[]⟩ : ByteArray), .string (⟨#[]⟩ : ByteArray), .string (⟨#[]⟩ : ByteArray), .int .i64 0, .int .i64 0, .int .i64 0] 24 (0, 0)) (by (with_reducible repeat first | refine bN ?_ _ | refine bD ?_ | refine bA ?_ _); exact BK366.out) hg (Kd.R_ne HO349.out BK366.out (by decide)))
                     have n5_ := aM (hb)
                     have n6_ := aM (ho)
                     clear HO_8
                     clear BK305
                     clear BK337
                     clear HO346
                     clear BK366
                     clear HB
                     clear HO349
                     have HO_8 := n0_
                     have BK305 := n1_
                     have BK337 := n2_
                     have HO346 := n3_
                     have BK366 := n4_
                     have HB := n5_
                     have HO353 := n6_
                     clear n0_ n1_ n2_ n3_ n4_ n5_ n6_
                     clear ho hb hg hat
                     refine hK.out _ _ trivial (fun hHeld => ?_)
                     clear hK K
                     refine norm_ (a' := ?_) ?_ ?_
                     rotate_left
                     ·
                      show Act.put _ (some 60) _ = _
                      simp only [Act.put, sA, sZ, sS, i64_w, i32_w]
                      rfl
                     exact norm_ (by simp only [putAll, Act.put, sA, sZ, sS] <;> rfl) (hJ0_2_3_4_10_16 (v339, v342, v345, v348, v352, gb366) _ ⟨(by (with_reducible repeat first | apply rA | apply rN | apply rD); exact rM HO346.out (fun _ hk => ⟨hk.2, hk.1⟩)), (by (with_reducible repeat first | apply rA | apply rN | apply rD); exact rM HO353.out (fun _ hk => ⟨hk.2, hk.1⟩)), (by (with_reducible repeat first | apply rA | apply rN | apply rD); exact HO_8.out), (by (with_reducible repeat first | refine bN ?_ _ | refine bD ?_ | refine bA ?_ _); exact BK305.out), (by (with_reducible repeat first | refine bN ?_ _ | refine bD ?_ | refine bA ?_ _); exact BK337.out), (by (with_reducible repeat first | refine bN ?_ _ | refine bD ?_ | refine bA ?_ _); exact BK366.out), GW366.out, GE366.out, NB305_366.out, NB366_305.out, NB337_366.out, NB366_337.out, (by repeat (first | (with_reducible first | exact HB.out | apply lA | apply lN | apply lD | refine lT ?_ GE305.out | refine lT ?_ GE337.out | refine lT ?_ GE366.out) | exact HB.out))⟩)
                   ·
                    skip
                    rintro ⟨v339, v342, v345, v348, v352⟩ w50 ⟨h0_, h1_, h2_, h3_, h4_, h5_⟩
                    have n0_ : Aside0 (Kd.R (Kd.int .u8) 5 w50 w.heap.size (fun k_ => some k_ ≠ (v352 : Value).ownBlock ∧ some k_ ≠ (.slice Ao33 t317.length co33 : Value).ownBlock) v345 y344) := ⟨h0_⟩
                    have n1_ : Aside0 (Kd.R (Kd.int .u8) 5 w50 w.heap.size (fun k_ => some k_ ≠ (v345 : Value).ownBlock ∧ some k_ ≠ (.slice Ao33 t317.length co33 : Value).ownBlock) v352 y351) := ⟨h1_⟩
                    have n2_ : Aside0 (Kd.R (Kd.int .u8) 5 w50 w.heap.size (fun k_ => some k_ ≠ (v345 : Value).ownBlock ∧ some k_ ≠ (v352 : Value).ownBlock) (.slice Ao33 t317.length co33) t317) := ⟨h2_⟩
                    have n3_ : Aside0 (w50.heap[gb305]? = some (.cells #[.int .i64 a0_0, .int .u64 a0_1, .int .u64 a0_2, .string a0_3, .string a0_4, .string a0_5, .string a0_6, .int .i64 a0_7, .int .i64 a0_8, .int .i64 a0_9] 24 (0, 0))) := ⟨h3_⟩
                    have n4_ : Aside0 (w50.heap[gb337]? = some (.cells #[.int .i64 t325, .int .u64 t326, .int .u64 t327, .string t328, .string t329, .string t330, .string t331, .int .i64 t332, .int .i64 t333, .int .i64 t334] 24 (0, 0))) := ⟨h4_⟩
                    have n5_ : Aside0 (Below w.heap.size w w50) := ⟨h5_⟩
                    clear HO_8
                    clear BK305
                    clear BK337
                    clear HB
                    clear h0_ h1_ h2_ h3_ h4_ h5_
                    have HO346 := n0_
                    have HO353 := n1_
                    have HO_8 := n2_
                    have BK305 := n3_
                    have BK337 := n4_
                    have HB := n5_
                    clear n0_ n1_ n2_ n3_ n4_ n5_
                    have hHeld := trivial
                    obtain ⟨Ao51, co51, eo51⟩ := Kd.R_slice HO353.out
                    (first | subst eo51 | (injection eo51 with f1_ f2_ f3_; have f4_ := f1_.symm; have f5_ := f3_.symm; clear f1_ f2_ f3_; subst f4_; subst f5_))
                    refine norm_ (a' := ?_) ?_ ?_
                    rotate_left
                    ·
                     simp only [putAll, Act.put, sA, sZ, sS, *]
                     rfl
                    refine two_ (i := 11) (j := 16) (Ni := some 61) (Nj := some 14) #[true, true, true, true, true, true, true, true, true, true, true, true, false, false, false, false, false, false, false, false] #[true, true, true, true, true, true, true, true, true, true, true, false, false, false, false, false, true, false, false, false] rfl rfl rfl rfl (two_of HT_.out (by kernel_rfl)) (by decide) (by decide) (fun K hK => ?_) (fun K hK => ?_)
                    ·
                     skip
                     refine goes_ Tryd.func17 (by kernel_rfl) rfl #[.slice Ao51 y351.length co51] (by rfl) rfl rfl (by (try simp only [List.map_toArray, List.map_cons, List.map_nil]); first | done | rfl | (simp only [List.length_drop, List.length_take]; rfl)) ?_
                     with_reducible refine (event_Decode.calls _ _ y351 t354 t355 t356 t357 t358 t359 t360 t361 t362 t363 t364 t365 _ ?side3 ?side1 ?side2 A28.out).mono ?_
                     (case side1 => repeat (first | exact (rR HO353.out).2.2 | (with_reducible refine cA ?_ _) | (with_reducible refine cN ?_ _) | (with_reducible refine cD ?_)))
                     (case side2 => exact (rR HO353.out).2.1)
                     (case side3 => first | exact HG.out | exact Glob.below HG.out HB.out | exact Glob.drewN (Glob.below HG.out HB.out) _ | exact Glob.drewN HG.out _ | (refine Glob.below HG.out ?_; (repeat (first | (with_reducible first | exact HB.out | apply lA | apply lN | apply lD | refine lT ?_ GE305.out | refine lT ?_ GE337.out) | exact HB.out)); done) | (repeat (first | exact HG.out | (with_reducible refine Glob.drewN ?_ _) | (with_reducible refine Glob.drew ?_) | (with_reducible refine Glob.alloc ?_ _)); done))
                     rintro e w52 ⟨rfl, hb⟩
                     refine ⟨_, rfl, ?_⟩
                     have n0_ := aM (rB (by (with_reducible repeat first | apply rA | apply rN | apply rD); exact HO_8.out) hb)
                     have n1_ := aM (rB (by (with_reducible repeat first | apply rA | apply rN | apply rD); exact HO346.out) hb)
                     have n2_ := aM (rB (by (with_reducible repeat first | apply rA | apply rN | apply rD); exact HO353.out) hb)
                     have n3_ := aM (bB (g := gb305) (o := .cells #[.int .i64 a0_0, .int .u64 a0_1, .int .u64 a0_2, .string a0_3, .string a0_4, .string a0_5, .string a0_6, .int .i64 a0_7, .int .i64 a0_8, .int .i64 a0_9] 24 (0, 0)) (by (with_reducible repeat first | refine bN ?_ _ | refine bD ?_ | refine bA ?_ _); exact BK305.out) hb)
                     have n4_ := aM (bB (g := gb337) (o := .cells #[.int .i64 t325, .int .u64 t326, .int .u64 t327, .string t328, .string t329, .string t330, .string t331, .int .i64 t332, .int .i64 t333, .int .i64 t334] 24 (0, 0)) (by (with_reducible repeat first | refine bN ?_ _ | refine bD ?_ | refine bA ?_ _); exact BK337.out) hb)
                     have n5_ := aM (lS (by repeat (first | (with_reducible first | exact HB.out | apply lA | apply lN | apply lD | refine lT ?_ GE305.out | refine lT ?_ GE337.out) | exact HB.out)) hb)
                     clear HO_8
                     clear HO346
                     clear HO353
                     clear BK305
                     clear BK337
                     clear HB
                     have HO_8 := n0_
                     have HO346 := n1_
                     have HO353 := n2_
                     have BK305 := n3_
                     have BK337 := n4_
                     have HB := n5_
                     clear n0_ n1_ n2_ n3_ n4_ n5_
                     (try clear hb)
                     (try clear hb2)
                     (try clear hk)
                     (try clear hi)
                     refine hK.out _ _ trivial (fun hHeld => ?_)
                     clear hK K
                     refine norm_ (a' := ?_) ?_ ?_
                     rotate_left
                     ·
                      show Act.put _ (some 61) _ = _
                      simp only [Act.put, sA, sZ, sS, i64_w, i32_w]
                      rfl
                     refine pure_ (i := 12) (N := some 49) (v := ?_) (a' := ?_) #[true, true, true, true, true, true, true, true, true, true, true, true, true, false, false, false, false, false, false, false] rfl rfl (any_of HT_.out (by kernel_rfl)) (fun _ _ _ h => h) (Or.inl ⟨by rfl, ?_⟩) ?_ ?_
                     rotate_left
                     ·
                      intro w'
                      go_simp
                      with_reducible rfl
                     rotate_left
                     ·
                      simp only [Act.put, sA, sZ, sS, i64_w, i32_w]
                      rfl
                     refine pure_ (i := 13) (N := some 62) (v := ?_) (a' := ?_) #[true, true, true, true, true, true, true, true, true, true, true, true, true, true, false, false, false, false, false, false] rfl rfl (any_of HT_.out (by kernel_rfl)) (fun _ _ _ h => h) (Or.inl ⟨by rfl, ?_⟩) ?_ ?_
                     rotate_left
                     ·
                      intro w'
                      go_simp
                      with_reducible rfl
                     rotate_left
                     ·
                      simp only [Act.put, sA, sZ, sS, i64_w, i32_w]
                      rfl
                     refine pure_ (i := 14) (N := some 63) (v := ?_) (a' := ?_) #[true, true, true, true, true, true, true, true, true, true, true, true, true, true, true, false, false, false, false, false] rfl rfl (any_of HT_.out (by kernel_rfl)) (fun _ _ _ h => h) (Or.inl ⟨by rfl, ?_⟩) ?_ ?_
                     rotate_left
                     ·
                      intro w'
                      go_simp
                      with_reducible rfl
                     rotate_left
                     ·
                      simp only [Act.put, sA, sZ, sS, i64_w, i32_w]
                      rfl
                     refine pure_ (i := 15) (N := some 64) (v := ?_) (a' := ?_) #[true, true, true, true, true, true, true, true, true, true, true, true, true, true, true, true, false, false, false, false] rfl rfl (any_of HT_.out (by kernel_rfl)) (fun _ _ _ h => h) (Or.inl ⟨by rfl, ?_⟩) ?_ ?_
                     rotate_left
                     ·
                      intro w'
                      go_simp
                      with_reducible rfl
                     rotate_left
                     ·
                      simp only [Act.put, sA, sZ, sS, i64_w, i32_w]
                      rfl
                     exact norm_ (by simp only [putAll, Act.put, sA, sZ, sS] <;> rfl) (hJ0_2_3_4_10_11 (v339, v342, v345, v348, .slice Ao51 y351.length co51) _ ⟨(by (with_reducible repeat first | apply rA | apply rN | apply rD); exact HO346.out), (by (with_reducible repeat first | apply rA | apply rN | apply rD); exact HO353.out), (by (with_reducible repeat first | apply rA | apply rN | apply rD); exact HO_8.out), (by (with_reducible repeat first | refine bN ?_ _ | refine bD ?_ | refine bA ?_ _); exact BK305.out), (by (with_reducible repeat first | refine bN ?_ _ | refine bD ?_ | refine bA ?_ _); exact BK337.out), (by repeat (first | (with_reducible first | exact HB.out | apply lA | apply lN | apply lD | refine lT ?_ GE305.out | refine lT ?_ GE337.out) | exact HB.out))⟩)
                    ·
                     skip
                     refine box_step ?hg (N := 14) ?hd (cs := #[.int .i64 0, .int .u64 0, .int .u64 0, .string (⟨#[]⟩ : ByteArray), .string (⟨#[]⟩ : ByteArray), .string (⟨#[]⟩ : ByteArray), .string (⟨#[]⟩ : ByteArray), .int .i64 0, .int .i64 0, .int .i64 0]) (t := 24) ?hr ?_; (case hd => rfl); (case hg => rfl); (case hr => first | (go_simp; done) | (go_simp; rfl))
                     intro gb366 hg w51 hbox hb
                     have n0_ := aM (rB (by (with_reducible repeat first | apply rA | apply rN | apply rD); exact HO_8.out) hb)
                     have n1_ := aM (rB (by (with_reducible repeat first | apply rA | apply rN | apply rD); exact HO346.out) hb)
                     have n2_ := aM (rB (by (with_reducible repeat first | apply rA | apply rN | apply rD); exact HO353.out) hb)
                     have n3_ := aM (bB (g := gb305) (o := .cells #[.int .i64 a0_0, .int .u64 a0_1, .int .u64 a0_2, .string a0_3, .string a0_4, .string a0_5, .string a0_6, .int .i64 a0_7, .int .i64 a0_8, .int .i64 a0_9] 24 (0, 0)) (by (with_reducible repeat first | refine bN ?_ _ | refine bD ?_ | refine bA ?_ _); exact BK305.out) hb)
                     have n4_ := aM (bB (g := gb337) (o := .cells #[.int .i64 t325, .int .u64 t326, .int .u64 t327, .string t328, .string t329, .string t330, .string t331, .int .i64 t332, .int .i64 t333, .int .i64 t334] 24 (0, 0)) (by (with_reducible repeat first | refine bN ?_ _ | refine bD ?_ | refine bA ?_ _); exact BK337.out) hb)
                     have n5_ := aM (lS (by repeat (first | (with_reducible first | exact HB.out | apply lA | apply lN | apply lD | refine lT ?_ GE305.out | refine lT ?_ GE337.out) | exact HB.out)) hb)
                     have n6_ := aM (hbox)
                     have n7_ := aM ((by rw [hg]; exact (lZ (by repeat (first | (with_reducible first | exact HB.out | apply lA | apply lN | apply lD | refine lT ?_ GE305.out | refine lT ?_ GE337.out) | exact HB.out))) : w.heap.size ≤ gb366))
                     have n8_ := aM ((by rw [hg]; exact (lZ (by repeat (first | (with_reducible first | exact HB.out | apply lA | apply lN | apply lD | refine lT ?_ GE305.out | refine lT ?_ GE337.out) | exact HB.out))) : w.heap.size ≤ gb366))
                     have n9_ := aM ((by rw [hg]; exact Nat.ne_of_lt (blk_lt (g := gb305) (o := .cells #[.int .i64 a0_0, .int .u64 a0_1, .int .u64 a0_2, .string a0_3, .string a0_4, .string a0_5, .string a0_6, .int .i64 a0_7, .int .i64 a0_8, .int .i64 a0_9] 24 (0, 0)) (by (with_reducible repeat first | refine bN ?_ _ | refine bD ?_ | refine bA ?_ _); exact BK305.out)) : gb305 ≠ gb366))
                     have n10_ := aM ((by rw [hg]; exact Nat.ne_of_gt (blk_lt (g := gb305) (o := .cells #[.int .i64 a0_0, .int .u64 a0_1, .int .u64 a0_2, .string a0_3, .string a0_4, .string a0_5, .string a0_6, .int .i64 a0_7, .int .i64 a0_8, .int .i64 a0_9] 24 (0, 0)) (by (with_reducible repeat first | refine bN ?_ _ | refine bD ?_ | refine bA ?_ _); exact BK305.out)) : gb366 ≠ gb305))
                     have n11_ := aM ((by rw [hg]; exact Nat.ne_of_lt (blk_lt (g := gb337) (o := .cells #[.int .i64 t325, .int .u64 t326, .int .u64 t327, .string t328, .string t329, .string t330, .string t331, .int .i64 t332, .int .i64 t333, .int .i64 t334] 24 (0, 0)) (by (with_reducible repeat first | refine bN ?_ _ | refine bD ?_ | refine bA ?_ _); exact BK337.out)) : gb337 ≠ gb366))
                     have n12_ := aM ((by rw [hg]; exact Nat.ne_of_gt (blk_lt (g := gb337) (o := .cells #[.int .i64 t325, .int .u64 t326, .int .u64 t327, .string t328, .string t329, .string t330, .string t331, .int .i64 t332, .int .i64 t333, .int .i64 t334] 24 (0, 0)) (by (with_reducible repeat first | refine bN ?_ _ | refine bD ?_ | refine bA ?_ _); exact BK337.out)) : gb366 ≠ gb337))
                     clear HO_8
                     clear HO346
                     clear HO353
                     clear BK305
                     clear BK337
                     clear HB
                     have HO_8 := n0_
                     have HO346 := n1_
                     have HO353 := n2_
                     have BK305 := n3_
                     have BK337 := n4_
                     have HB := n5_
                     have BK366 := n6_
                     have GW366 := n7_
                     have GE366 := n8_
                     have NB305_366 := n9_
                     have NB366_305 := n10_
                     have NB337_366 := n11_
                     have NB366_337 := n12_
                     clear n0_ n1_ n2_ n3_ n4_ n5_ n6_ n7_ n8_ n9_ n10_ n11_ n12_
                     clear hb hbox hg
                     refine hK.out _ _ trivial (fun hHeld => ?_)
                     clear hK K
                     refine norm_ (a' := ?_) ?_ ?_
                     rotate_left
                     ·
                      show Act.put _ (some 14) _ = _
                      simp only [Act.put, sA, sZ, sS, i64_w, i32_w]
                      rfl
                     exact norm_ (by simp only [putAll, Act.put, sA, sZ, sS] <;> rfl) (hJ0_2_3_4_10_16 (v339, v342, v345, v348, (.slice Ao51 y351.length co51 : Value), gb366) _ ⟨(by (with_reducible repeat first | apply rA | apply rN | apply rD); exact HO346.out), (by (with_reducible repeat first | apply rA | apply rN | apply rD); exact HO353.out), (by (with_reducible repeat first | apply rA | apply rN | apply rD); exact HO_8.out), (by (with_reducible repeat first | refine bN ?_ _ | refine bD ?_ | refine bA ?_ _); exact BK305.out), (by (with_reducible repeat first | refine bN ?_ _ | refine bD ?_ | refine bA ?_ _); exact BK337.out), (by (with_reducible repeat first | refine bN ?_ _ | refine bD ?_ | refine bA ?_ _); exact BK366.out), GW366.out, GE366.out, NB305_366.out, NB366_305.out, NB337_366.out, NB366_337.out, (by repeat (first | (with_reducible first | exact HB.out | apply lA | apply lN | apply lD | refine lT ?_ GE305.out | refine lT ?_ GE337.out | refine lT ?_ GE366.out) | exact HB.out))⟩)
                  ·
                   skip
                   rintro ⟨v339, v342, v345, v348, v352, gb366⟩ w51 ⟨h0_, h1_, h2_, h3_, h4_, h5_, h6_, h7_, h8_, h9_, h10_, h11_, h12_⟩
                   have n0_ : Aside0 (Kd.R (Kd.int .u8) 5 w51 w.heap.size (fun k_ => some k_ ≠ (v352 : Value).ownBlock ∧ some k_ ≠ (.slice Ao33 t317.length co33 : Value).ownBlock) v345 y344) := ⟨h0_⟩
                   have n1_ : Aside0 (Kd.R (Kd.int .u8) 5 w51 w.heap.size (fun k_ => some k_ ≠ (v345 : Value).ownBlock ∧ some k_ ≠ (.slice Ao33 t317.length co33 : Value).ownBlock) v352 y351) := ⟨h1_⟩
                   have n2_ : Aside0 (Kd.R (Kd.int .u8) 5 w51 w.heap.size (fun k_ => some k_ ≠ (v345 : Value).ownBlock ∧ some k_ ≠ (v352 : Value).ownBlock) (.slice Ao33 t317.length co33) t317) := ⟨h2_⟩
                   have n3_ : Aside0 (w51.heap[gb305]? = some (.cells #[.int .i64 a0_0, .int .u64 a0_1, .int .u64 a0_2, .string a0_3, .string a0_4, .string a0_5, .string a0_6, .int .i64 a0_7, .int .i64 a0_8, .int .i64 a0_9] 24 (0, 0))) := ⟨h3_⟩
                   have n4_ : Aside0 (w51.heap[gb337]? = some (.cells #[.int .i64 t325, .int .u64 t326, .int .u64 t327, .string t328, .string t329, .string t330, .string t331, .int .i64 t332, .int .i64 t333, .int .i64 t334] 24 (0, 0))) := ⟨h4_⟩
                   have n5_ : Aside0 (w51.heap[gb366]? = some (.cells #[.int .i64 0, .int .u64 0, .int .u64 0, .string (⟨#[]⟩ : ByteArray), .string (⟨#[]⟩ : ByteArray), .string (⟨#[]⟩ : ByteArray), .string (⟨#[]⟩ : ByteArray), .int .i64 0, .int .i64 0, .int .i64 0] 24 (0, 0))) := ⟨h5_⟩
                   have n6_ : Aside0 (w.heap.size ≤ gb366) := ⟨h6_⟩
                   have n7_ : Aside0 (w.heap.size ≤ gb366) := ⟨h7_⟩
                   have n8_ : Aside0 (gb305 ≠ gb366) := ⟨h8_⟩
                   have n9_ : Aside0 (gb366 ≠ gb305) := ⟨h9_⟩
                   have n10_ : Aside0 (gb337 ≠ gb366) := ⟨h10_⟩
                   have n11_ : Aside0 (gb366 ≠ gb337) := ⟨h11_⟩
                   have n12_ : Aside0 (Below w.heap.size w w51) := ⟨h12_⟩
                   clear HO_8
                   clear BK305
                   clear BK337
                   clear HB
                   clear h0_ h1_ h2_ h3_ h4_ h5_ h6_ h7_ h8_ h9_ h10_ h11_ h12_
                   have HO346 := n0_
                   have HO353 := n1_
                   have HO_8 := n2_
                   have BK305 := n3_
                   have BK337 := n4_
                   have BK366 := n5_
                   have GW366 := n6_
                   have GE366 := n7_
                   have NB305_366 := n8_
                   have NB366_305 := n9_
                   have NB337_366 := n10_
                   have NB366_337 := n11_
                   have HB := n12_
                   clear n0_ n1_ n2_ n3_ n4_ n5_ n6_ n7_ n8_ n9_ n10_ n11_ n12_
                   have hHeld := trivial
                   obtain ⟨Ao52, co52, eo52⟩ := Kd.R_slice HO353.out
                   (first | subst eo52 | (injection eo52 with f1_ f2_ f3_; have f4_ := f1_.symm; have f5_ := f3_.symm; clear f1_ f2_ f3_; subst f4_; subst f5_))
                   refine norm_ (a' := ?_) ?_ ?_
                   rotate_left
                   ·
                    simp only [putAll, Act.put, sA, sZ, sS, *]
                    rfl
                   refine one_ (i := 11) (N := some 61) #[true, true, true, true, true, true, true, true, true, true, true, true, false, false, false, false, true, false, false, false] rfl rfl (one_of HT_.out (by kernel_rfl)) (by decide) (fun K hK => ?_)
                   refine goes_ Tryd.func17 (by kernel_rfl) rfl #[.slice Ao52 y351.length co52] (by rfl) rfl rfl (by (try simp only [List.map_toArray, List.map_cons, List.map_nil]); first | done | rfl | (simp only [List.length_drop, List.length_take]; rfl)) ?_
                   with_reducible refine (event_Decode.calls _ _ y351 t354 t355 t356 t357 t358 t359 t360 t361 t362 t363 t364 t365 _ ?side3 ?side1 ?side2 A28.out).mono ?_
                   (case side1 => repeat (first | exact (rR HO353.out).2.2 | (with_reducible refine cA ?_ _) | (with_reducible refine cN ?_ _) | (with_reducible refine cD ?_)))
                   (case side2 => exact (rR HO353.out).2.1)
                   (case side3 => first | exact HG.out | exact Glob.below HG.out HB.out | exact Glob.drewN (Glob.below HG.out HB.out) _ | exact Glob.drewN HG.out _ | (refine Glob.below HG.out ?_; (repeat (first | (with_reducible first | exact HB.out | apply lA | apply lN | apply lD | refine lT ?_ GE305.out | refine lT ?_ GE337.out | refine lT ?_ GE366.out) | exact HB.out)); done) | (repeat (first | exact HG.out | (with_reducible refine Glob.drewN ?_ _) | (with_reducible refine Glob.drew ?_) | (with_reducible refine Glob.alloc ?_ _)); done))
                   rintro e w53 ⟨rfl, hb⟩
                   refine ⟨_, rfl, ?_⟩
                   have n0_ := aM (rB (by (with_reducible repeat first | apply rA | apply rN | apply rD); exact HO_8.out) hb)
                   have n1_ := aM (rB (by (with_reducible repeat first | apply rA | apply rN | apply rD); exact HO346.out) hb)
                   have n2_ := aM (rB (by (with_reducible repeat first | apply rA | apply rN | apply rD); exact HO353.out) hb)
                   have n3_ := aM (bB (g := gb305) (o := .cells #[.int .i64 a0_0, .int .u64 a0_1, .int .u64 a0_2, .string a0_3, .string a0_4, .string a0_5, .string a0_6, .int .i64 a0_7, .int .i64 a0_8, .int .i64 a0_9] 24 (0, 0)) (by (with_reducible repeat first | refine bN ?_ _ | refine bD ?_ | refine bA ?_ _); exact BK305.out) hb)
                   have n4_ := aM (bB (g := gb337) (o := .cells #[.int .i64 t325, .int .u64 t326, .int .u64 t327, .string t328, .string t329, .string t330, .string t331, .int .i64 t332, .int .i64 t333, .int .i64 t334] 24 (0, 0)) (by (with_reducible repeat first | refine bN ?_ _ | refine bD ?_ | refine bA ?_ _); exact BK337.out) hb)
                   have n5_ := aM (bB (g := gb366) (o := .cells #[.int .i64 0, .int .u64 0, .int .u64 0, .string (⟨#[]⟩ : ByteArray), .string (⟨#[]⟩ : ByteArray), .string (⟨#[]⟩ : ByteArray), .string (⟨#[]⟩ : ByteArray), .int .i64 0, .int .i64 0, .int .i64 0] 24 (0, 0)) (by (with_reducible repeat first | refine bN ?_ _ | refine bD ?_ | refine bA ?_ _); exact BK366.out) hb)
                   have n6_ := aM (lS (by repeat (first | (with_reducible first | exact HB.out | apply lA | apply lN | apply lD | refine lT ?_ GE305.out | refine lT ?_ GE337.out | refine lT ?_ GE366.out) | exact HB.out)) hb)
                   clear HO_8
                   clear HO346
                   clear HO353
                   clear BK305
                   clear BK337
                   clear BK366
                   clear HB
                   have HO_8 := n0_
                   have HO346 := n1_
                   have HO353 := n2_
                   have BK305 := n3_
                   have BK337 := n4_
                   have BK366 := n5_
                   have HB := n6_
                   clear n0_ n1_ n2_ n3_ n4_ n5_ n6_
                   (try clear hb)
                   (try clear hb2)
                   (try clear hk)
                   (try clear hi)
                   refine hK.out _ _ trivial (fun hHeld => ?_)
                   clear hK K
                   refine norm_ (a' := ?_) ?_ ?_
                   rotate_left
                   ·
                    show Act.put _ (some 61) _ = _
                    simp only [Act.put, sA, sZ, sS, i64_w, i32_w]
                    rfl
                   refine pure_ (i := 12) (N := some 49) (v := ?_) (a' := ?_) #[true, true, true, true, true, true, true, true, true, true, true, true, true, false, false, false, true, false, false, false] rfl rfl (any_of HT_.out (by kernel_rfl)) (fun _ _ _ h => h) (Or.inl ⟨by rfl, ?_⟩) ?_ ?_
                   rotate_left
                   ·
                    intro w'
                    go_simp
                    with_reducible rfl
                   rotate_left
                   ·
                    simp only [Act.put, sA, sZ, sS, i64_w, i32_w]
                    rfl
                   refine pure_ (i := 13) (N := some 62) (v := ?_) (a' := ?_) #[true, true, true, true, true, true, true, true, true, true, true, true, true, true, false, false, true, false, false, false] rfl rfl (any_of HT_.out (by kernel_rfl)) (fun _ _ _ h => h) (Or.inl ⟨by rfl, ?_⟩) ?_ ?_
                   rotate_left
                   ·
                    intro w'
                    go_simp
                    with_reducible rfl
                   rotate_left
                   ·
                    simp only [Act.put, sA, sZ, sS, i64_w, i32_w]
                    rfl
                   refine pure_ (i := 14) (N := some 63) (v := ?_) (a' := ?_) #[true, true, true, true, true, true, true, true, true, true, true, true, true, true, true, false, true, false, false, false] rfl rfl (any_of HT_.out (by kernel_rfl)) (fun _ _ _ h => h) (Or.inl ⟨by rfl, ?_⟩) ?_ ?_
                   rotate_left
                   ·
                    intro w'
                    go_simp
                    with_reducible rfl
                   rotate_left
                   ·
                    simp only [Act.put, sA, sZ, sS, i64_w, i32_w]
                    rfl
                   refine pure_ (i := 15) (N := some 64) (v := ?_) (a' := ?_) #[true, true, true, true, true, true, true, true, true, true, true, true, true, true, true, true, true, false, false, false] rfl rfl (any_of HT_.out (by kernel_rfl)) (fun _ _ _ h => h) (Or.inl ⟨by rfl, ?_⟩) ?_ ?_
                   rotate_left
                   ·
                    intro w'
                    go_simp
                    with_reducible rfl
                   rotate_left
                   ·
                    simp only [Act.put, sA, sZ, sS, i64_w, i32_w]
                    rfl
                   exact norm_ (by simp only [putAll, Act.put, sA, sZ, sS] <;> rfl) (hJ0_2_3_4_10_11_16 (v339, v342, v345, v348, .slice Ao52 y351.length co52, gb366) _ ⟨(by (with_reducible repeat first | apply rA | apply rN | apply rD); exact HO346.out), (by (with_reducible repeat first | apply rA | apply rN | apply rD); exact HO353.out), (by (with_reducible repeat first | apply rA | apply rN | apply rD); exact HO_8.out), (by (with_reducible repeat first | refine bN ?_ _ | refine bD ?_ | refine bA ?_ _); exact BK305.out), (by (with_reducible repeat first | refine bN ?_ _ | refine bD ?_ | refine bA ?_ _); exact BK337.out), (by (with_reducible repeat first | refine bN ?_ _ | refine bD ?_ | refine bA ?_ _); exact BK366.out), GW366.out, GE366.out, NB305_366.out, NB366_305.out, NB337_366.out, NB366_337.out, (by repeat (first | (with_reducible first | exact HB.out | apply lA | apply lN | apply lD | refine lT ?_ GE305.out | refine lT ?_ GE337.out | refine lT ?_ GE366.out) | exact HB.out))⟩)
                 ·
                  skip
                  rintro ⟨v339, v342, v345, v348, v352⟩ w52 ⟨h0_, h1_, h2_, h3_, h4_, h5_⟩
                  have n0_ : Aside0 (Kd.R (Kd.int .u8) 5 w52 w.heap.size (fun k_ => some k_ ≠ (v352 : Value).ownBlock ∧ some k_ ≠ (.slice Ao33 t317.length co33 : Value).ownBlock) v345 y344) := ⟨h0_⟩
                  have n1_ : Aside0 (Kd.R (Kd.int .u8) 5 w52 w.heap.size (fun k_ => some k_ ≠ (v345 : Value).ownBlock ∧ some k_ ≠ (.slice Ao33 t317.length co33 : Value).ownBlock) v352 y351) := ⟨h1_⟩
                  have n2_ : Aside0 (Kd.R (Kd.int .u8) 5 w52 w.heap.size (fun k_ => some k_ ≠ (v345 : Value).ownBlock ∧ some k_ ≠ (v352 : Value).ownBlock) (.slice Ao33 t317.length co33) t317) := ⟨h2_⟩
                  have n3_ : Aside0 (w52.heap[gb305]? = some (.cells #[.int .i64 a0_0, .int .u64 a0_1, .int .u64 a0_2, .string a0_3, .string a0_4, .string a0_5, .string a0_6, .int .i64 a0_7, .int .i64 a0_8, .int .i64 a0_9] 24 (0, 0))) := ⟨h3_⟩
                  have n4_ : Aside0 (w52.heap[gb337]? = some (.cells #[.int .i64 t325, .int .u64 t326, .int .u64 t327, .string t328, .string t329, .string t330, .string t331, .int .i64 t332, .int .i64 t333, .int .i64 t334] 24 (0, 0))) := ⟨h4_⟩
                  have n5_ : Aside0 (Below w.heap.size w w52) := ⟨h5_⟩
                  clear HO_8
                  clear BK305
                  clear BK337
                  clear HB
                  clear h0_ h1_ h2_ h3_ h4_ h5_
                  have HO346 := n0_
                  have HO353 := n1_
                  have HO_8 := n2_
                  have BK305 := n3_
                  have BK337 := n4_
                  have HB := n5_
                  clear n0_ n1_ n2_ n3_ n4_ n5_
                  have hHeld := trivial
                  refine norm_ (a' := ?_) ?_ ?_
                  rotate_left
                  ·
                   simp only [putAll, Act.put, sA, sZ, sS, *]
                   rfl
                  refine one_ (i := 16) (N := some 14) #[true, true, true, true, true, true, true, true, true, true, true, true, true, true, true, true, true, false, false, false] rfl rfl (one_of HT_.out (by kernel_rfl)) (by decide) (fun K hK => ?_)
                  refine box_step ?hg (N := 14) ?hd (cs := #[.int .i64 0, .int .u64 0, .int .u64 0, .string (⟨#[]⟩ : ByteArray), .string (⟨#[]⟩ : ByteArray), .string (⟨#[]⟩ : ByteArray), .string (⟨#[]⟩ : ByteArray), .int .i64 0, .int .i64 0, .int .i64 0]) (t := 24) ?hr ?_; (case hd => rfl); (case hg => rfl); (case hr => first | (go_simp; done) | (go_simp; rfl))
                  intro gb366 hg w53 hbox hb
                  have n0_ := aM (rB (by (with_reducible repeat first | apply rA | apply rN | apply rD); exact HO_8.out) hb)
                  have n1_ := aM (rB (by (with_reducible repeat first | apply rA | apply rN | apply rD); exact HO346.out) hb)
                  have n2_ := aM (rB (by (with_reducible repeat first | apply rA | apply rN | apply rD); exact HO353.out) hb)
                  have n3_ := aM (bB (g := gb305) (o := .cells #[.int .i64 a0_0, .int .u64 a0_1, .int .u64 a0_2, .string a0_3, .string a0_4, .string a0_5, .string a0_6, .int .i64 a0_7, .int .i64 a0_8, .int .i64 a0_9] 24 (0, 0)) (by (with_reducible repeat first | refine bN ?_ _ | refine bD ?_ | refine bA ?_ _); exact BK305.out) hb)
                  have n4_ := aM (bB (g := gb337) (o := .cells #[.int .i64 t325, .int .u64 t326, .int .u64 t327, .string t328, .string t329, .string t330, .string t331, .int .i64 t332, .int .i64 t333, .int .i64 t334] 24 (0, 0)) (by (with_reducible repeat first | refine bN ?_ _ | refine bD ?_ | refine bA ?_ _); exact BK337.out) hb)
                  have n5_ := aM (lS (by repeat (first | (with_reducible first | exact HB.out | apply lA | apply lN | apply lD | refine lT ?_ GE305.out | refine lT ?_ GE337.out) | exact HB.out)) hb)
                  have n6_ := aM (hbox)
                  have n7_ := aM ((by rw [hg]; exact (lZ (by repeat (first | (with_reducible first | exact HB.out | apply lA | apply lN | apply lD | refine lT ?_ GE305.out | refine lT ?_ GE337.out) | exact HB.out))) : w.heap.size ≤ gb366))
                  have n8_ := aM ((by rw [hg]; exact (lZ (by repeat (first | (with_reducible first | exact HB.out | apply lA | apply lN | apply lD | refine lT ?_ GE305.out | refine lT ?_ GE337.out) | exact HB.out))) : w.heap.size ≤ gb366))
                  have n9_ := aM ((by rw [hg]; exact Nat.ne_of_lt (blk_lt (g := gb305) (o := .cells #[.int .i64 a0_0, .int .u64 a0_1, .int .u64 a0_2, .string a0_3, .string a0_4, .string a0_5, .string a0_6, .int .i64 a0_7, .int .i64 a0_8, .int .i64 a0_9] 24 (0, 0)) (by (with_reducible repeat first | refine bN ?_ _ | refine bD ?_ | refine bA ?_ _); exact BK305.out)) : gb305 ≠ gb366))
                  have n10_ := aM ((by rw [hg]; exact Nat.ne_of_gt (blk_lt (g := gb305) (o := .cells #[.int .i64 a0_0, .int .u64 a0_1, .int .u64 a0_2, .string a0_3, .string a0_4, .string a0_5, .string a0_6, .int .i64 a0_7, .int .i64 a0_8, .int .i64 a0_9] 24 (0, 0)) (by (with_reducible repeat first | refine bN ?_ _ | refine bD ?_ | refine bA ?_ _); exact BK305.out)) : gb366 ≠ gb305))
                  have n11_ := aM ((by rw [hg]; exact Nat.ne_of_lt (blk_lt (g := gb337) (o := .cells #[.int .i64 t325, .int .u64 t326, .int .u64 t327, .string t328, .string t329, .string t330, .string t331, .int .i64 t332, .int .i64 t333, .int .i64 t334] 24 (0, 0)) (by (with_reducible repeat first | refine bN ?_ _ | refine bD ?_ | refine bA ?_ _); exact BK337.out)) : gb337 ≠ gb366))
                  have n12_ := aM ((by rw [hg]; exact Nat.ne_of_gt (blk_lt (g := gb337) (o := .cells #[.int .i64 t325, .int .u64 t326, .int .u64 t327, .string t328, .string t329, .string t330, .string t331, .int .i64 t332, .int .i64 t333, .int .i64 t334] 24 (0, 0)) (by (with_reducible repeat first | refine bN ?_ _ | refine bD ?_ | refine bA ?_ _); exact BK337.out)) : gb366 ≠ gb337))
                  clear HO_8
                  clear HO346
                  clear HO353
                  clear BK305
                  clear BK337
                  clear HB
                  have HO_8 := n0_
                  have HO346 := n1_
                  have HO353 := n2_
                  have BK305 := n3_
                  have BK337 := n4_
                  have HB := n5_
                  have BK366 := n6_
                  have GW366 := n7_
                  have GE366 := n8_
                  have NB305_366 := n9_
                  have NB366_305 := n10_
                  have NB337_366 := n11_
                  have NB366_337 := n12_
                  clear n0_ n1_ n2_ n3_ n4_ n5_ n6_ n7_ n8_ n9_ n10_ n11_ n12_
                  clear hb hbox hg
                  refine hK.out _ _ trivial (fun hHeld => ?_)
                  clear hK K
                  refine norm_ (a' := ?_) ?_ ?_
                  rotate_left
                  ·
                   show Act.put _ (some 14) _ = _
                   simp only [Act.put, sA, sZ, sS, i64_w, i32_w]
                   rfl
                  exact norm_ (by simp only [putAll, Act.put, sA, sZ, sS] <;> rfl) (hJ0_2_3_4_10_11_16 (v339, v342, v345, v348, v352, gb366) _ ⟨(by (with_reducible repeat first | apply rA | apply rN | apply rD); exact HO346.out), (by (with_reducible repeat first | apply rA | apply rN | apply rD); exact HO353.out), (by (with_reducible repeat first | apply rA | apply rN | apply rD); exact HO_8.out), (by (with_reducible repeat first | refine bN ?_ _ | refine bD ?_ | refine bA ?_ _); exact BK305.out), (by (with_reducible repeat first | refine bN ?_ _ | refine bD ?_ | refine bA ?_ _); exact BK337.out), (by (with_reducible repeat first | refine bN ?_ _ | refine bD ?_ | refine bA ?_ _); exact BK366.out), GW366.out, GE366.out, NB305_366.out, NB366_305.out, NB337_366.out, NB366_337.out, (by repeat (first | (with_reducible first | exact HB.out | apply lA | apply lN | apply lD | refine lT ?_ GE305.out | refine lT ?_ GE337.out | refine lT ?_ GE366.out) | exact HB.out))⟩)
                rintro ⟨v339, v342, v345, v348, v352, gb366⟩ w53 ⟨h0_, h1_, h2_, h3_, h4_, h5_, h6_, h7_, h8_, h9_, h10_, h11_, h12_⟩
                have n0_ : Aside0 (Kd.R (Kd.int .u8) 5 w53 w.heap.size (fun k_ => some k_ ≠ (v352 : Value).ownBlock ∧ some k_ ≠ (.slice Ao33 t317.length co33 : Value).ownBlock) v345 y344) := ⟨h0_⟩
                have n1_ : Aside0 (Kd.R (Kd.int .u8) 5 w53 w.heap.size (fun k_ => some k_ ≠ (v345 : Value).ownBlock ∧ some k_ ≠ (.slice Ao33 t317.length co33 : Value).ownBlock) v352 y351) := ⟨h1_⟩
                have n2_ : Aside0 (Kd.R (Kd.int .u8) 5 w53 w.heap.size (fun k_ => some k_ ≠ (v345 : Value).ownBlock ∧ some k_ ≠ (v352 : Value).ownBlock) (.slice Ao33 t317.length co33) t317) := ⟨h2_⟩
                have n3_ : Aside0 (w53.heap[gb305]? = some (.cells #[.int .i64 a0_0, .int .u64 a0_1, .int .u64 a0_2, .string a0_3, .string a0_4, .string a0_5, .string a0_6, .int .i64 a0_7, .int .i64 a0_8, .int .i64 a0_9] 24 (0, 0))) := ⟨h3_⟩
                have n4_ : Aside0 (w53.heap[gb337]? = some (.cells #[.int .i64 t325, .int .u64 t326, .int .u64 t327, .string t328, .string t329, .string t330, .string t331, .int .i64 t332, .int .i64 t333, .int .i64 t334] 24 (0, 0))) := ⟨h4_⟩
                have n5_ : Aside0 (w53.heap[gb366]? = some (.cells #[.int .i64 0, .int .u64 0, .int .u64 0, .string (⟨#[]⟩ : ByteArray), .string (⟨#[]⟩ : ByteArray), .string (⟨#[]⟩ : ByteArray), .string (⟨#[]⟩ : ByteArray), .int .i64 0, .int .i64 0, .int .i64 0] 24 (0, 0))) := ⟨h5_⟩
                have n6_ : Aside0 (w.heap.size ≤ gb366) := ⟨h6_⟩
                have n7_ : Aside0 (w.heap.size ≤ gb366) := ⟨h7_⟩
                have n8_ : Aside0 (gb305 ≠ gb366) := ⟨h8_⟩
                have n9_ : Aside0 (gb366 ≠ gb305) := ⟨h9_⟩
                have n10_ : Aside0 (gb337 ≠ gb366) := ⟨h10_⟩
                have n11_ : Aside0 (gb366 ≠ gb337) := ⟨h11_⟩
                have n12_ : Aside0 (Below w.heap.size w w53) := ⟨h12_⟩
                clear HO_8
                clear BK305
                clear BK337
                clear HB
                clear h0_ h1_ h2_ h3_ h4_ h5_ h6_ h7_ h8_ h9_ h10_ h11_ h12_
                have HO346 := n0_
                have HO353 := n1_
                have HO_8 := n2_
                have BK305 := n3_
                have BK337 := n4_
                have BK366 := n5_
                have GW366 := n6_
                have GE366 := n7_
                have NB305_366 := n8_
                have NB366_305 := n9_
                have NB337_366 := n10_
                have NB366_337 := n11_
                have HB := n12_
                clear n0_ n1_ n2_ n3_ n4_ n5_ n6_ n7_ n8_ n9_ n10_ n11_ n12_
                have hHeld := trivial
                refine norm_ (a' := ?_) ?_ ?_
                rotate_left
                ·
                 simp only [putAll, Act.put, sA, sZ, sS, *]
                 rfl
                refine one_ (i := 17) (N := none) #[true, true, true, true, true, true, true, true, true, true, true, true, true, true, true, true, true, true, false, false] rfl rfl (one_of HT_.out (by kernel_rfl)) (by decide) (fun K hK => ?_)
                have hs54 : w53.cell? ⟨gb366, 0, none⟩ = some (.int .i64 0) := (blk_cell BK366.out 0).trans rfl
                have hfs54 := blk_frozen BK366.out 0
                have hns54_0 := NB305_366.out
                have hns54_1 := NB337_366.out
                have hms54_0 := NB366_305.out
                have hms54_1 := NB366_337.out
                have hs55 : w53.cell? ⟨gb366, 1, none⟩ = some (.int .u64 0) := (blk_cell BK366.out 1).trans rfl
                have hfs55 := blk_frozen BK366.out 1
                have hns55_0 := NB305_366.out
                have hns55_1 := NB337_366.out
                have hms55_0 := NB366_305.out
                have hms55_1 := NB366_337.out
                have hs56 : w53.cell? ⟨gb366, 2, none⟩ = some (.int .u64 0) := (blk_cell BK366.out 2).trans rfl
                have hfs56 := blk_frozen BK366.out 2
                have hns56_0 := NB305_366.out
                have hns56_1 := NB337_366.out
                have hms56_0 := NB366_305.out
                have hms56_1 := NB366_337.out
                have hs57 : w53.cell? ⟨gb366, 3, none⟩ = some (.string (⟨#[]⟩ : ByteArray)) := (blk_cell BK366.out 3).trans rfl
                have hfs57 := blk_frozen BK366.out 3
                have hns57_0 := NB305_366.out
                have hns57_1 := NB337_366.out
                have hms57_0 := NB366_305.out
                have hms57_1 := NB366_337.out
                have hs58 : w53.cell? ⟨gb366, 4, none⟩ = some (.string (⟨#[]⟩ : ByteArray)) := (blk_cell BK366.out 4).trans rfl
                have hfs58 := blk_frozen BK366.out 4
                have hns58_0 := NB305_366.out
                have hns58_1 := NB337_366.out
                have hms58_0 := NB366_305.out
                have hms58_1 := NB366_337.out
                have hs59 : w53.cell? ⟨gb366, 5, none⟩ = some (.string (⟨#[]⟩ : ByteArray)) := (blk_cell BK366.out 5).trans rfl
                have hfs59 := blk_frozen BK366.out 5
                have hns59_0 := NB305_366.out
                have hns59_1 := NB337_366.out
                have hms59_0 := NB366_305.out
                have hms59_1 := NB366_337.out
                have hs60 : w53.cell? ⟨gb366, 6, none⟩ = some (.string (⟨#[]⟩ : ByteArray)) := (blk_cell BK366.out 6).trans rfl
                have hfs60 := blk_frozen BK366.out 6
                have hns60_0 := NB305_366.out
                have hns60_1 := NB337_366.out
                have hms60_0 := NB366_305.out
                have hms60_1 := NB366_337.out
                have hs61 : w53.cell? ⟨gb366, 7, none⟩ = some (.int .i64 0) := (blk_cell BK366.out 7).trans rfl
                have hfs61 := blk_frozen BK366.out 7
                have hns61_0 := NB305_366.out
                have hns61_1 := NB337_366.out
                have hms61_0 := NB366_305.out
                have hms61_1 := NB366_337.out
                have hs62 : w53.cell? ⟨gb366, 8, none⟩ = some (.int .i64 0) := (blk_cell BK366.out 8).trans rfl
                have hfs62 := blk_frozen BK366.out 8
                have hns62_0 := NB305_366.out
                have hns62_1 := NB337_366.out
                have hms62_0 := NB366_305.out
                have hms62_1 := NB366_337.out
                have hs63 : w53.cell? ⟨gb366, 9, none⟩ = some (.int .i64 0) := (blk_cell BK366.out 9).trans rfl
                have hfs63 := blk_frozen BK366.out 9
                have hns63_0 := NB305_366.out
                have hns63_1 := NB337_366.out
                have hms63_0 := NB366_305.out
                have hms63_1 := NB366_337.out
                refine skip_ (w1 := ?_) (by rfl) rfl ?_ ?_
                rotate_left
                ·
                 go_simp
                 rfl
                refine hK.out _ _ trivial (fun hHeld => ?_)
                clear hK K
                refine pure_ (i := 18) (N := some 15) (v := ?_) (a' := ?_) #[true, true, true, true, true, true, true, true, true, true, true, true, true, true, true, true, true, true, true, false] rfl rfl (any_of HT_.out (by kernel_rfl)) (fun _ _ _ h => h) (Or.inl ⟨by rfl, ?_⟩) ?_ ?_
                rotate_left
                ·
                 intro w'
                 go_simp
                 with_reducible rfl
                rotate_left
                ·
                 simp only [Act.put, sA, sZ, sS, i64_w, i32_w]
                 rfl
                refine pure_ (i := 19) (N := some 16) (v := ?_) (a' := ?_) #[true, true, true, true, true, true, true, true, true, true, true, true, true, true, true, true, true, true, true, true] rfl rfl (any_of HT_.out (by kernel_rfl)) (fun _ _ _ h => h) (Or.inl ⟨by rfl, ?_⟩) ?_ ?_
                rotate_left
                ·
                 intro w'
                 go_simp
                 with_reducible rfl
                rotate_left
                ·
                 simp only [Act.put, sA, sZ, sS, i64_w, i32_w]
                 rfl
                refine done_ (done_of HT_.out (by kernel_rfl)) ?_
                try go_wp2
                go_ret
                exact ⟨by first | rfl | (simp [errW_none, errW_some] <;> rfl) | (simp only [← hji18, ← hji24]; first | rfl | (simp [errW_none, errW_some] <;> rfl)) | (simp [*, errW_none, errW_some] <;> rfl), by repeat (first | (with_reducible first | exact HB.out | apply lA | apply lN | apply lD | refine lT ?_ GE305.out | refine lT ?_ GE337.out | refine lT ?_ GE366.out) | exact HB.out)⟩
               ·
                rw [if_neg c32] at H
                have c32b0 : (t364 == (t317.length : Int)) = false := beq_eq_false_iff_ne.mpr c32
                have c32b1 : (t364 != (t317.length : Int)) = true := bne_iff_ne.mpr c32
                exact absurd HT.out (by rw [← Option.some.inj H]; decide)
              ·
               rw [if_neg c31] at H
               have c31b0 : (t336 == 2) = false := beq_eq_false_iff_ne.mpr c31
               have c31b1 : (t336 != 2) = true := bne_iff_ne.mpr c31
               exact absurd HT.out (by rw [← Option.some.inj H]; decide)
             ·
              rw [if_neg c30] at H
              have c30b0 : (t335 == (ji18)) = false := beq_eq_false_iff_ne.mpr c30
              have c30b1 : (t335 != (ji18)) = true := bne_iff_ne.mpr c30
              exact absurd HT.out (by rw [← Option.some.inj H]; decide)
            ·
             replace c29 := Bool.eq_false_iff.mpr c29
             subst c29
             have H1 : (some false) = some r := by rw [if_neg (show ¬ (false = true) by decide)] at H; exact H
             clear H
             have H := H1
             clear H1
             exact absurd HT.out (by rw [← Option.some.inj H]; decide)
           ·
            rw [if_neg c27] at H
            exact absurd H (by simp)
          ·
           rw [if_neg c26] at H
           exact absurd H (by simp)
         ·
          rw [if_neg c25] at H
          exact absurd H (by simp)
        ·
         rw [if_neg c23] at H
         exact absurd H (by simp)
       ·
        rw [if_neg c22] at H
        exact absurd H (by simp)
      ·
       rw [if_neg c20] at H
       exact absurd H (by simp)
     ·
      rw [if_neg c19] at H
      exact absurd H (by simp)

end Go.Proofs.YtmlhlcdamppbfaaDoor.Xa
