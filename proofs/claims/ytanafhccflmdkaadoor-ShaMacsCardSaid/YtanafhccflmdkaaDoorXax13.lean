-- Written by a program of this session (wip/tools/xprint.py), in the manner of the print of the kit.
import Derived.Test.YtanafhccflmdkaaDoorXax0
import Derived.Test.YtanafhccflmdkaaDoorXax11
import Derived.Test.YtanafhccflmdkaaDoorXax12
namespace Go.Proofs.YtanafhccflmdkaaDoor.Xa
open Go.RowKit Go.Proofs.YtanafhccflmdkaaDoorW.PrintWords Go.Proofs.YtanafhccflmdkaaDoorW.PrintLast Go.Proofs.YtanafhccflmdkaaDoorW.PrintMore
attribute [local go_sem] max2_int min2_int max_two min_two max_three min_three max_four min_four   -- for this text's walks alone
set_option linter.unusedVariables false
set_option linter.unusedSimpArgs false

/-! ### transeptref03_block: function 19 -/
mutual
def transeptref03_block.l0 : Nat → List Int → ByteArray → List Int → List Int → Int → Option (List Int)
  | 0, _, _, _, _, _ => none
  | k + 1, x0, x1, x2, x7, x8 => if x8 < 64 then (if x8 < 16 then (if 0 ≤ (wrap64 (4 * x8)) then (if (wrap64 (4 * x8)) ≤ (wrap64 ((wrap64 (4 * x8)) + 4)) then (if (wrap64 ((wrap64 (4 * x8)) + 4)) ≤ (x1.size : Int) then ((transeptref03_word.f k (x1.extract ((wrap64 (4 * x8)) : Int).toNat ((wrap64 ((wrap64 (4 * x8)) + 4)) : Int).toNat)).bind fun t150 => (if x7.length < 35184372088832 then (transeptref03_block.l0 k x0 x1 x2 (x7 ++ [t150]) (wrap64 (x8 + 1))) else (none))) else (none)) else (none)) else (none)) else (if 0 ≤ (wrap64 (x8 - 15)) then (if (wrap64 (x8 - 15)) < (x7.length : Int) then (if 0 ≤ (wrap64 (x8 - 2)) then (if (wrap64 (x8 - 2)) < (x7.length : Int) then ((transeptref03_right.f (rd x7 (wrap64 (x8 - 15))) 7).bind fun t156 => ((transeptref03_right.f (rd x7 (wrap64 (x8 - 15))) 18).bind fun t157 => ((transeptref03_right.f (rd x7 (wrap64 (x8 - 2))) 17).bind fun t158 => ((transeptref03_right.f (rd x7 (wrap64 (x8 - 2))) 19).bind fun t159 => (if 0 ≤ (wrap64 (x8 - 16)) then (if (wrap64 (x8 - 16)) < (x7.length : Int) then (if 0 ≤ (wrap64 (x8 - 7)) then (if (wrap64 (x8 - 7)) < (x7.length : Int) then (if x7.length < 35184372088832 then (transeptref03_block.l0 k x0 x1 x2 (x7 ++ [((((((rd x7 (wrap64 (x8 - 16))) + (Go.bits .xor .u32 (Go.bits .xor .u32 t156 t157) ((rd x7 (wrap64 (x8 - 15))) / 8))) % 4294967296) + (rd x7 (wrap64 (x8 - 7)))) % 4294967296) + (Go.bits .xor .u32 (Go.bits .xor .u32 t158 t159) ((rd x7 (wrap64 (x8 - 2))) / 1024))) % 4294967296]) (wrap64 (x8 + 1))) else (none)) else (none)) else (none)) else (none)) else (none)))))) else (none)) else (none)) else (none)) else (none))) else ((some (([] : List Int) : List Int)).bind fun y165 => (if y165.length + x0.length < 35184372088832 then (transeptref03_block.l1 k x0 x2 x7 (y165 ++ x0) 0) else (none)))
def transeptref03_block.l1 : Nat → List Int → List Int → List Int → List Int → Int → Option (List Int)
  | 0, _, _, _, _, _ => none
  | k + 1, x0, x2, x7, x14, x15 => if x15 < 64 then (if 4 < (x14.length : Int) then (if 0 < (x14.length : Int) then (if 5 < (x14.length : Int) then (if 6 < (x14.length : Int) then (if 1 < (x14.length : Int) then (if 2 < (x14.length : Int) then (if 7 < (x14.length : Int) then ((transeptref03_right.f (rd x14 4) 6).bind fun t180 => ((transeptref03_right.f (rd x14 4) 11).bind fun t181 => ((transeptref03_right.f (rd x14 4) 25).bind fun t182 => (if 0 ≤ x15 then (if x15 < (x2.length : Int) then (if x15 < (x7.length : Int) then ((transeptref03_right.f (rd x14 0) 2).bind fun t185 => ((transeptref03_right.f (rd x14 0) 13).bind fun t186 => ((transeptref03_right.f (rd x14 0) 22).bind fun t187 => (if 3 < (x14.length : Int) then (transeptref03_block.l1 k x0 x2 x7 (([((((((((((rd x14 7) + (Go.bits .xor .u32 (Go.bits .xor .u32 t180 t181) t182)) % 4294967296) + (Go.bits .xor .u32 (Go.bits .and .u32 (rd x14 4) (rd x14 5)) (Go.bits .and .u32 ((4294967295 - (rd x14 4)) % 4294967296) (rd x14 6)))) % 4294967296) + (rd x2 x15)) % 4294967296) + (rd x7 x15)) % 4294967296) + (((Go.bits .xor .u32 (Go.bits .xor .u32 t185 t186) t187) + (Go.bits .xor .u32 (Go.bits .xor .u32 (Go.bits .and .u32 (rd x14 0) (rd x14 1)) (Go.bits .and .u32 (rd x14 0) (rd x14 2))) (Go.bits .and .u32 (rd x14 1) (rd x14 2)))) % 4294967296)) % 4294967296, rd x14 0, rd x14 1, rd x14 2, ((rd x14 3) + (((((((((rd x14 7) + (Go.bits .xor .u32 (Go.bits .xor .u32 t180 t181) t182)) % 4294967296) + (Go.bits .xor .u32 (Go.bits .and .u32 (rd x14 4) (rd x14 5)) (Go.bits .and .u32 ((4294967295 - (rd x14 4)) % 4294967296) (rd x14 6)))) % 4294967296) + (rd x2 x15)) % 4294967296) + (rd x7 x15)) % 4294967296)) % 4294967296, rd x14 4, rd x14 5, rd x14 6] : List Int)) (wrap64 (x15 + 1))) else (none))))) else (none)) else (none)) else (none))))) else (none)) else (none)) else (none)) else (none)) else (none)) else (none)) else (none)) else (transeptref03_block.l2 k x0 x14 (([] : List Int)) 0)
def transeptref03_block.l2 : Nat → List Int → List Int → List Int → Int → Option (List Int)
  | 0, _, _, _, _ => none
  | k + 1, x0, x14, x22, x23 => if x23 < 8 then (if 0 ≤ x23 then (if x23 < (x0.length : Int) then (if x23 < (x14.length : Int) then (if x22.length < 35184372088832 then (transeptref03_block.l2 k x0 x14 (x22 ++ [((rd x0 x23) + (rd x14 x23)) % 4294967296]) (wrap64 (x23 + 1))) else (none)) else (none)) else (none)) else (none)) else (some x22)
end
def transeptref03_block.f (k : Nat) (l0 : List Int) (a1 : ByteArray) (l2 : List Int) : Option (List Int) := transeptref03_block.l0 k l0 a1 l2 (([] : List Int)) 0
theorem transeptref03_block.mono_l : ∀ k, (∀ y0 y1 y2 y3 y4, LeO (transeptref03_block.l0 k y0 y1 y2 y3 y4) (transeptref03_block.l0 (k + 1) y0 y1 y2 y3 y4)) ∧ (∀ y0 y1 y2 y3 y4, LeO (transeptref03_block.l1 k y0 y1 y2 y3 y4) (transeptref03_block.l1 (k + 1) y0 y1 y2 y3 y4)) ∧ (∀ y0 y1 y2 y3, LeO (transeptref03_block.l2 k y0 y1 y2 y3) (transeptref03_block.l2 (k + 1) y0 y1 y2 y3))
  | 0 => ⟨fun _ _ _ _ _ r h => by simp [transeptref03_block.l0] at h, fun _ _ _ _ _ r h => by simp [transeptref03_block.l1] at h, fun _ _ _ _ r h => by simp [transeptref03_block.l2] at h⟩
  | k + 1 => by
    obtain ⟨ih0, ih1, ih2⟩ := transeptref03_block.mono_l k
    refine ⟨?_, ?_, ?_⟩
    · intro y0 y1 y2 y3 y4
      unfold transeptref03_block.l0
      repeat' first
      | (with_reducible exact ih0 _ _ _ _ _)
      | (with_reducible exact ih1 _ _ _ _ _)
      | (with_reducible exact ih2 _ _ _ _)
      | (with_reducible exact transeptref03_word.mono _ _)
      | (with_reducible exact LeO.refl _)
      | (with_reducible exact LeO.none _)
      | (with_reducible refine LeO.ite ?_ ?_)
      | (with_reducible refine LeO.bind ?_ (fun _ => ?_))
      | exact ih0 _ _ _ _ _
      | exact ih1 _ _ _ _ _
      | exact ih2 _ _ _ _
      | exact transeptref03_word.mono _ _
      | exact LeO.none _
      | refine LeO.ite ?_ ?_
      | refine LeO.bind ?_ (fun _ => ?_)
    · intro y0 y1 y2 y3 y4
      unfold transeptref03_block.l1
      repeat' first
      | (with_reducible exact ih0 _ _ _ _ _)
      | (with_reducible exact ih1 _ _ _ _ _)
      | (with_reducible exact ih2 _ _ _ _)
      | (with_reducible exact transeptref03_word.mono _ _)
      | (with_reducible exact LeO.refl _)
      | (with_reducible exact LeO.none _)
      | (with_reducible refine LeO.ite ?_ ?_)
      | (with_reducible refine LeO.bind ?_ (fun _ => ?_))
      | exact ih0 _ _ _ _ _
      | exact ih1 _ _ _ _ _
      | exact ih2 _ _ _ _
      | exact transeptref03_word.mono _ _
      | exact LeO.none _
      | refine LeO.ite ?_ ?_
      | refine LeO.bind ?_ (fun _ => ?_)
    · intro y0 y1 y2 y3
      unfold transeptref03_block.l2
      repeat' first
      | (with_reducible exact ih0 _ _ _ _ _)
      | (with_reducible exact ih1 _ _ _ _ _)
      | (with_reducible exact ih2 _ _ _ _)
      | (with_reducible exact transeptref03_word.mono _ _)
      | (with_reducible exact LeO.refl _)
      | (with_reducible exact LeO.none _)
      | (with_reducible refine LeO.ite ?_ ?_)
      | (with_reducible refine LeO.bind ?_ (fun _ => ?_))
      | exact ih0 _ _ _ _ _
      | exact ih1 _ _ _ _ _
      | exact ih2 _ _ _ _
      | exact transeptref03_word.mono _ _
      | exact LeO.none _
      | refine LeO.ite ?_ ?_
      | refine LeO.bind ?_ (fun _ => ?_)
theorem transeptref03_block.mono : ∀ a0 a1 a2 k, LeO (transeptref03_block.f k a0 a1 a2) (transeptref03_block.f (k + 1) a0 a1 a2) := by
  intro a0 a1 a2 k
  obtain ⟨ih0, ih1, ih2⟩ := transeptref03_block.mono_l k
  unfold transeptref03_block.f
  repeat' first
      | (with_reducible exact ih0 _ _ _ _ _)
      | (with_reducible exact ih1 _ _ _ _ _)
      | (with_reducible exact ih2 _ _ _ _)
      | (with_reducible exact transeptref03_word.mono _ _)
      | (with_reducible exact LeO.refl _)
      | (with_reducible exact LeO.none _)
      | (with_reducible refine LeO.ite ?_ ?_)
      | (with_reducible refine LeO.bind ?_ (fun _ => ?_))
      | exact ih0 _ _ _ _ _
      | exact ih1 _ _ _ _ _
      | exact ih2 _ _ _ _
      | exact transeptref03_word.mono _ _
      | exact LeO.none _
      | refine LeO.ite ?_ ?_
      | refine LeO.bind ?_ (fun _ => ?_)
def transeptref03_block.T12 : Bool × List (List Nat × List Nat) := (true, [([], []), ([], []), ([], []), ([2], [2]), ([1, 3], [1, 3]), ([4], [4]), ([], []), ([5, 6], [5, 6]), ([], []), ([], []), ([9], [9]), ([8, 10], [8, 10]), ([11], [11]), ([7, 12], [7, 12]), ([], []), ([13, 14], [13, 14]), ([15], [15]), ([0, 16], [0, 16]), ([17, 17, 0, 1, 2, 3, 4, 5, 6, 7, 8, 9, 10, 11, 12, 13, 14, 15, 16, 17], [0, 1, 8, 17])])
def transeptref03_block.B12 : List Nat := [0, 0, 0, 4, 14, 30, 0, 126, 0, 0, 512, 1792, 3840, 8190, 0, 32766, 65534, 131071, 262143]
theorem transeptref03_block.tab12 : rtab .any (opsOf Tryd.f19 12) = transeptref03_block.T12 := by kernel_rfl
theorem transeptref03_block.bits12 : waitsOk transeptref03_block.T12.2 transeptref03_block.B12 = true := by kernel_rfl
def transeptref03_block.T19 : Bool × List (List Nat × List Nat) := (true, [([], []), ([], []), ([1], [1]), ([2], [2]), ([0, 3], [0, 3]), ([], []), ([5], [5]), ([], []), ([7], [7]), ([8], [8]), ([6, 9], [6, 9]), ([4, 10], [4, 10]), ([11, 0, 1, 2, 3, 4, 5, 6, 7, 8, 9, 10, 11], [11])])
def transeptref03_block.B19 : List Nat := [0, 0, 2, 6, 15, 0, 32, 0, 128, 384, 992, 2047, 4095]
theorem transeptref03_block.tab19 : rtab .any (opsOf Tryd.f19 19) = transeptref03_block.T19 := by kernel_rfl
theorem transeptref03_block.bits19 : waitsOk transeptref03_block.T19.2 transeptref03_block.B19 = true := by kernel_rfl
def transeptref03_block.T20 : Bool × List (List Nat × List Nat) := (true, [([], []), ([], []), ([1], [1]), ([2], [2]), ([0, 3], [0, 3]), ([], []), ([], []), ([6], [6]), ([7], [7]), ([5, 8], [5, 8]), ([4, 9], [4, 9]), ([], []), ([11], [11]), ([12], [12]), ([], []), ([14], [14]), ([15], [15]), ([13, 16], [13, 16]), ([10, 17], [10, 17]), ([18, 0, 1, 2, 3, 4, 5, 6, 7, 8, 9, 10, 11, 12, 13, 14, 15, 16, 17, 18], [18])])
def transeptref03_block.B20 : List Nat := [0, 0, 2, 6, 15, 0, 0, 64, 192, 480, 1023, 0, 2048, 6144, 0, 16384, 49152, 129024, 262143, 524287]
theorem transeptref03_block.tab20 : rtab .any (opsOf Tryd.f19 20) = transeptref03_block.T20 := by kernel_rfl
theorem transeptref03_block.bits20 : waitsOk transeptref03_block.T20.2 transeptref03_block.B20 = true := by kernel_rfl
def transeptref03_block.T21 : Bool × List (List Nat × List Nat) := (true, [([], []), ([0], [0]), ([1], [1]), ([], []), ([3], [3]), ([], []), ([5, 4], [5]), ([4, 6], [4, 6]), ([], []), ([8, 6], [8]), ([7, 9], [7, 9]), ([2, 10], [2, 10]), ([], []), ([11, 12], [11, 12]), ([], []), ([], []), ([14, 15], [14, 15]), ([16], [16]), ([13, 17], [13, 17]), ([], []), ([], []), ([19, 20], [19, 20]), ([21], [21]), ([18, 22], [18, 22]), ([23, 9, 0, 1, 2, 3, 4, 5, 6, 7, 8, 9, 10, 11, 12, 13, 14, 15, 16, 17, 18, 19, 20, 21, 22, 23], [23])])
def transeptref03_block.B21 : List Nat := [0, 1, 3, 0, 8, 0, 56, 120, 0, 376, 1016, 2047, 0, 8191, 0, 0, 49152, 114688, 262143, 0, 0, 1572864, 3670016, 8388607, 16777215]
theorem transeptref03_block.tab21 : rtab .any (opsOf Tryd.f19 21) = transeptref03_block.T21 := by kernel_rfl
theorem transeptref03_block.bits21 : waitsOk transeptref03_block.T21.2 transeptref03_block.B21 = true := by kernel_rfl
def transeptref03_block.T23 : Bool × List (List Nat × List Nat) := (true, [([], []), ([], []), ([0, 1], [0, 1]), ([], []), ([], []), ([4], [4]), ([5], [5]), ([], []), ([7], [7]), ([8], [8]), ([], []), ([10], [10]), ([11], [11]), ([], []), ([12, 13], [12, 13]), ([], []), ([], []), ([16], [16]), ([17], [17]), ([], []), ([19], [19]), ([20], [20]), ([2, 3, 6, 9, 14, 15, 18, 21], [2, 3, 6, 9, 14, 15, 18, 21]), ([22, 0, 1, 2, 3, 4, 5, 6, 7, 8, 9, 10, 11, 12, 13, 14, 15, 16, 17, 18, 19, 20, 21, 22], [4, 7, 10, 16, 19, 22])])
def transeptref03_block.B23 : List Nat := [0, 0, 3, 0, 0, 16, 48, 0, 128, 384, 0, 1024, 3072, 0, 15360, 0, 0, 65536, 196608, 0, 524288, 1572864, 4194303, 8388607]
theorem transeptref03_block.tab23 : rtab .any (opsOf Tryd.f19 23) = transeptref03_block.T23 := by kernel_rfl
theorem transeptref03_block.bits23 : waitsOk transeptref03_block.T23.2 transeptref03_block.B23 = true := by kernel_rfl
def transeptref03_block.T28 : Bool × List (List Nat × List Nat) := (true, [([], []), ([], []), ([], []), ([1, 2], [1, 2]), ([3], [3]), ([], []), ([], []), ([5, 6], [5, 6]), ([7], [7]), ([4, 8], [4, 8]), ([9], [9]), ([0, 10], [0, 10]), ([11, 11, 0, 1, 2, 3, 4, 5, 6, 7, 8, 9, 10, 11], [0, 11])])
def transeptref03_block.B28 : List Nat := [0, 0, 0, 6, 14, 0, 0, 96, 224, 510, 1022, 2047, 4095]
theorem transeptref03_block.tab28 : rtab .any (opsOf Tryd.f19 28) = transeptref03_block.T28 := by kernel_rfl
theorem transeptref03_block.bits28 : waitsOk transeptref03_block.T28.2 transeptref03_block.B28 = true := by kernel_rfl
set_option maxHeartbeats 8000000 in
set_option maxRecDepth 100000 in
theorem transeptref03_block.calls (k : Nat) (A0 : Option Addr) (c0 : Nat) (l0 : List Int) (a1 : ByteArray) (A2 : Option Addr) (c2 : Nat) (l2 : List Int) (r : List Int) (w : World) (hr0 : Kd.C (Kd.int .u32) w A0 l0.length l0) (hc0 : l0.length ≤ c0) (hr2 : Kd.C (Kd.int .u32) w A2 l2.length l2) (hc2 : l2.length ≤ c2) (h : transeptref03_block.f k l0 a1 l2 = some r) :
    Calls Tryd.prog 19 #[.slice A0 l0.length c0, .string a1, .slice A2 l2.length c2] w fun e w' => ∃ v0_ : Value, e = .returned (v0_) ∧ Kd.R (Kd.int .u32) 33 w' w.heap.size (fun _ => True) v0_ r ∧ Below w.heap.size w w' := by
  have HR0 := Aside0.mk hr0
  have HC0 := Aside0.mk hc0
  clear hr0 hc0
  have HR2 := Aside0.mk hr2
  have HC2 := Aside0.mk hc2
  clear hr2 hc2
  have HB := Aside0.mk (Below.refl w.heap.size w)
  have H : (transeptref03_block.l0 k l0 a1 l2 (([] : List Int)) 0) = some r := h
  clear h
  obtain ⟨y147, hy147⟩ : ∃ y_ : List Int, y_ = (([] : List Int)) := ⟨_, rfl⟩
  replace H : (transeptref03_block.l0 k l0 a1 l2 y147 0) = some r := by first | (rw [hy147]; with_reducible exact H) | (have H2_ := (Option.bind_some _ _).symm.trans H; rw [hy147]; with_reducible exact H2_) | (have H2_ := (Option.bind_some _ _).symm.trans H; with_reducible exact H2_) | with_reducible exact H | (rw [hy147]; exact H) | exact H
  have Ny147 := Aside0.mk hy147
  clear hy147
  have H' := Aside0.mk H
  clear H
  go_enter Tryd.func19, Tryd.ntmps19
  go_wp2_with (first | ((with_reducible refine gate_dst (N := 24) rfl ?_); refine Kd.R_lit (Kd.int .u32) _ 33 ?hg (N := 24) ?hd (xs := ([] : List Int)) (inner := []) (ok := fun _ => True) (okp := fun _ => True) ?hr ?hp (fun _ hk => hk) trivial (Below.refl _ _) (Nat.le_refl _) (by simp) ?_; (case hd => rfl); (case hg => rfl); (case hr => first | (go_simp; done) | (go_simp; rfl)); (case hp => exact (Reps.none _ _)); intro v148 w4 ho5 hb hg_ hnew_; clear hg_ hnew_; (first | rw [← Ny147.out] at ho5 | (simp only [Int.reduceToNat] at ho5; rw [← Ny147.out] at ho5)); have n0_ := Aside0.mk (Kd.R_lower ho5 (below_size (by repeat (first | (with_reducible first | exact HB.out | apply below_alloc | apply pw_below_drewN | apply below_drew1) | exact HB.out)))); have n1_ := Aside0.mk (below_step (by repeat (first | (with_reducible first | exact HB.out | apply below_alloc | apply pw_below_drewN | apply below_drew1) | exact HB.out)) hb); clear HB; have HO149 := n0_; have HB := n1_; clear n0_ n1_; clear hb ho5))
  go_loopg [7, 8] k (fun kq v7 v8 w' => ∃ (x7_1 : List Int) (x8_1 : Int), v8 = .int .i64 x8_1 ∧ Aside0 (transeptref03_block.l0 kq l0 a1 l2 x7_1 x8_1 = some r) ∧ Aside0 (kq ≤ k) ∧ Aside0 (Kd.R (Kd.int .u32) 33 w' w.heap.size (fun _ => True) v7 x7_1) ∧ Aside0 (Below w.heap.size w w'))
  case atStart => exact ⟨(y147), (0), (by first | rfl | (simp; done) | (simp [*]; done)), H', ⟨Nat.le_refl _⟩, ⟨by (with_reducible repeat (first | apply Kd.R_alloc | apply Kd.R_drewN | apply Kd.R_drew)); exact HO149.out⟩, ⟨by repeat (first | (with_reducible first | exact HB.out | apply below_alloc | apply pw_below_drewN | apply below_drew1) | exact HB.out)⟩⟩
  case round =>
    clear H'
    try clear c1
    try clear c2
    try clear p2
    obtain ⟨x7_1, x8_1, rfl, HA, HK1, HO_7, HB⟩ := hrel
    cases gk with
    | zero => exact absurd HA.out (by simp [transeptref03_block.l0])
    | succ k1 =>
      have H := HA.out
      clear HA
      simp only [transeptref03_block.l0] at H
      by_cases c6 : x8_1 < 64
      · rw [if_pos c6] at H
        have c6b0 : decide (x8_1 < 64) = true := decide_eq_true c6
        clear c6
        by_cases c7 : x8_1 < 16
        · rw [if_pos c7] at H
          have c7b0 : decide (x8_1 < 16) = true := decide_eq_true c7
          clear c7
          obtain ⟨ji8, hji8⟩ : ∃ j_ : Int, (wrap64 (4 * x8_1)) = j_ := ⟨_, rfl⟩
          replace H : (if 0 ≤ (ji8) then (if (ji8) ≤ (wrap64 ((ji8) + 4)) then (if (wrap64 ((ji8) + 4)) ≤ (a1.size : Int) then ((transeptref03_word.f k1 (a1.extract ((ji8) : Int).toNat ((wrap64 ((ji8) + 4)) : Int).toNat)).bind fun t150 => (if x7_1.length < 35184372088832 then (transeptref03_block.l0 k1 l0 a1 l2 (x7_1 ++ [t150]) (wrap64 (x8_1 + 1))) else (none))) else (none)) else (none)) else (none)) = some r := by first | (rw [hji8] at H; exact H) | (simp only [hji8] at H ⊢; exact H)
          have hji8w : (IntKind.i64.wrap (4 * x8_1)) = ji8 := (i64_w _).trans hji8
          by_cases c9 : 0 ≤ (ji8)
          · rw [if_pos c9] at H
            have c9b0 := eq_true c9
            have c9b1 : decide (0 ≤ (ji8)) = true := decide_eq_true c9
            clear c9
            by_cases c10 : (ji8) ≤ (wrap64 ((ji8) + 4))
            · rw [if_pos c10] at H
              have c10b0 := eq_true c10
              have c10b1 : decide ((ji8) ≤ (wrap64 ((ji8) + 4))) = true := decide_eq_true c10
              by_cases c11 : (wrap64 ((ji8) + 4)) ≤ (a1.size : Int)
              · rw [if_pos c11] at H
                have c11b0 := eq_true c11
                have c11b1 : decide ((wrap64 ((ji8) + 4)) ≤ (a1.size : Int)) = true := decide_eq_true c11
                replace H := Option.bind_eq_some_iff.mp H
                obtain ⟨t150, A120, H⟩ := H
                replace H : (if x7_1.length < 35184372088832 then (transeptref03_block.l0 k1 l0 a1 l2 (x7_1 ++ [t150]) (wrap64 (x8_1 + 1))) else (none)) = some r := H
                have A12 := Aside0.mk A120
                clear A120
                by_cases c13 : x7_1.length < 35184372088832
                · rw [if_pos c13] at H
                  have LMc13 := Aside0.mk c13
                  clear c13
                  obtain ⟨y151, hy151⟩ : ∃ y_ : List Int, y_ = (x7_1 ++ [t150]) := ⟨_, rfl⟩
                  replace H : (transeptref03_block.l0 k1 l0 a1 l2 y151 (wrap64 (x8_1 + 1))) = some r := by first | (rw [hy151]; with_reducible exact H) | (have H2_ := (Option.bind_some _ _).symm.trans H; rw [hy151]; with_reducible exact H2_) | (have H2_ := (Option.bind_some _ _).symm.trans H; with_reducible exact H2_) | with_reducible exact H | (rw [hy151]; exact H) | exact H
                  have Ny151 := Aside0.mk hy151
                  clear hy151
                  have H' := Aside0.mk H
                  clear H
                  go_wp2_with (first | ((with_reducible refine gate_callee (f := 25) rfl ?_); refine goesL_ (some 38) rfl rfl Tryd.func25 (by kernel_rfl) rfl #[.string (a1.extract ((ji8) : Int).toNat ((wrap64 ((ji8) + 4)) : Int).toNat)] rfl (by (try simp only [List.map_toArray, List.map_cons, List.map_nil]); first | done | (simp only [hji8]; rfl) | rfl | (simp only [List.length_drop, List.length_take]; rfl)) ?_; (with_reducible refine (transeptref03_word.calls k1 (a1.extract ((ji8) : Int).toNat ((wrap64 ((ji8) + 4)) : Int).toNat) t150 _ A12.out).mono ?_); rintro e w' ⟨rfl, ⟨nd, rfl⟩⟩; refine ⟨_, rfl, ?_⟩) | ((with_reducible refine gate_builtin (b := .append) (xs := #[.tmp 39, .tmp 41]) rfl ?_); at_builtin; refine Kd.R_append (Kd.int .u32) (w0 := w) w.heap.size rfl (.tmp 39) (.tmp 41) 50 33 (.int .u32 0) 4 rfl Tryd.underlying50 info33 rfl (by decide) (by omega) u7 x7_1 t150 [.int .u32 t150] (fun _ => True) (fun _ => False) rfl rfl ?aP (fun _ hk => hk.elim) ?aF ?aO ?aB ?aS ?aL ?_; (case aP => exact rfl); (case aB => exact (by repeat (first | (with_reducible first | exact HB.out | apply below_alloc | apply pw_below_drewN | apply below_drew1) | exact HB.out))); (case aF => exact (fun _ _ => trivial)); (case aO => exact (by (with_reducible repeat (first | apply Kd.R_alloc | apply Kd.R_drewN | apply Kd.R_drew)); exact HO_7.out)); (case aS => exact (below_size (by repeat (first | (with_reducible first | exact HB.out | apply below_alloc | apply pw_below_drewN | apply below_drew1) | exact HB.out)))); (case aL => have := LMc13.out; omega); intro v152 w14 ho hb hg hat; rw [← Ny151.out] at ho; have n0_ := Aside0.mk (hb); have n1_ := Aside0.mk (ho); clear HB; clear HO_7; have HB := n0_; have HO153 := n1_; clear n0_ n1_; clear ho hb hg hat))
                  go_roundg k1
                  case measure => have := HK1.out; omega
                  case rel => exact ⟨(y151), (wrap64 (x8_1 + 1)), (by first | rfl | (simp; done) | (simp [*]; done)), H', ⟨by have := HK1.out; omega⟩, ⟨by (with_reducible repeat (first | apply Kd.R_alloc | apply Kd.R_drewN | apply Kd.R_drew)); exact HO153.out⟩, ⟨by repeat (first | (with_reducible first | exact HB.out | apply below_alloc | apply pw_below_drewN | apply below_drew1) | exact HB.out)⟩⟩
                · rw [if_neg c13] at H
                  exact absurd H (by simp)
              · rw [if_neg c11] at H
                exact absurd H (by simp)
            · rw [if_neg c10] at H
              exact absurd H (by simp)
          · rw [if_neg c9] at H
            exact absurd H (by simp)
        · rw [if_neg c7] at H
          have c7b0 : decide (x8_1 < 16) = false := decide_eq_false c7
          clear c7
          obtain ⟨ji15, hji15⟩ : ∃ j_ : Int, (wrap64 (x8_1 - 15)) = j_ := ⟨_, rfl⟩
          replace H : (if 0 ≤ (ji15) then (if (ji15) < (x7_1.length : Int) then (if 0 ≤ (wrap64 (x8_1 - 2)) then (if (wrap64 (x8_1 - 2)) < (x7_1.length : Int) then ((transeptref03_right.f (rd x7_1 (ji15)) 7).bind fun t156 => ((transeptref03_right.f (rd x7_1 (ji15)) 18).bind fun t157 => ((transeptref03_right.f (rd x7_1 (wrap64 (x8_1 - 2))) 17).bind fun t158 => ((transeptref03_right.f (rd x7_1 (wrap64 (x8_1 - 2))) 19).bind fun t159 => (if 0 ≤ (wrap64 (x8_1 - 16)) then (if (wrap64 (x8_1 - 16)) < (x7_1.length : Int) then (if 0 ≤ (wrap64 (x8_1 - 7)) then (if (wrap64 (x8_1 - 7)) < (x7_1.length : Int) then (if x7_1.length < 35184372088832 then (transeptref03_block.l0 k1 l0 a1 l2 (x7_1 ++ [((((((rd x7_1 (wrap64 (x8_1 - 16))) + (Go.bits .xor .u32 (Go.bits .xor .u32 t156 t157) ((rd x7_1 (ji15)) / 8))) % 4294967296) + (rd x7_1 (wrap64 (x8_1 - 7)))) % 4294967296) + (Go.bits .xor .u32 (Go.bits .xor .u32 t158 t159) ((rd x7_1 (wrap64 (x8_1 - 2))) / 1024))) % 4294967296]) (wrap64 (x8_1 + 1))) else (none)) else (none)) else (none)) else (none)) else (none)))))) else (none)) else (none)) else (none)) else (none)) = some r := by first | (rw [hji15] at H; exact H) | (simp only [hji15] at H ⊢; exact H)
          have hji15w : (IntKind.i64.wrap (x8_1 - 15)) = ji15 := (i64_w _).trans hji15
          by_cases c16 : 0 ≤ (ji15)
          · rw [if_pos c16] at H
            have c16b0 : decide (0 ≤ (ji15)) = true := decide_eq_true c16
            clear c16
            by_cases c17 : (ji15) < (x7_1.length : Int)
            · rw [if_pos c17] at H
              have c17b0 : decide ((ji15) < (x7_1.length : Int)) = true := decide_eq_true c17
              clear c17
              obtain ⟨ji18, hji18⟩ : ∃ j_ : Int, (wrap64 (x8_1 - 2)) = j_ := ⟨_, rfl⟩
              replace H : (if 0 ≤ (ji18) then (if (ji18) < (x7_1.length : Int) then ((transeptref03_right.f (rd x7_1 (ji15)) 7).bind fun t156 => ((transeptref03_right.f (rd x7_1 (ji15)) 18).bind fun t157 => ((transeptref03_right.f (rd x7_1 (ji18)) 17).bind fun t158 => ((transeptref03_right.f (rd x7_1 (ji18)) 19).bind fun t159 => (if 0 ≤ (wrap64 (x8_1 - 16)) then (if (wrap64 (x8_1 - 16)) < (x7_1.length : Int) then (if 0 ≤ (wrap64 (x8_1 - 7)) then (if (wrap64 (x8_1 - 7)) < (x7_1.length : Int) then (if x7_1.length < 35184372088832 then (transeptref03_block.l0 k1 l0 a1 l2 (x7_1 ++ [((((((rd x7_1 (wrap64 (x8_1 - 16))) + (Go.bits .xor .u32 (Go.bits .xor .u32 t156 t157) ((rd x7_1 (ji15)) / 8))) % 4294967296) + (rd x7_1 (wrap64 (x8_1 - 7)))) % 4294967296) + (Go.bits .xor .u32 (Go.bits .xor .u32 t158 t159) ((rd x7_1 (ji18)) / 1024))) % 4294967296]) (wrap64 (x8_1 + 1))) else (none)) else (none)) else (none)) else (none)) else (none)))))) else (none)) else (none)) = some r := by first | (rw [hji18] at H; exact H) | (simp only [hji18] at H ⊢; exact H)
              have hji18w : (IntKind.i64.wrap (x8_1 - 2)) = ji18 := (i64_w _).trans hji18
              by_cases c19 : 0 ≤ (ji18)
              · rw [if_pos c19] at H
                have c19b0 : decide (0 ≤ (ji18)) = true := decide_eq_true c19
                clear c19
                by_cases c20 : (ji18) < (x7_1.length : Int)
                · rw [if_pos c20] at H
                  have c20b0 : decide ((ji18) < (x7_1.length : Int)) = true := decide_eq_true c20
                  clear c20
                  replace H := Option.bind_eq_some_iff.mp H
                  obtain ⟨t156, A210, H⟩ := H
                  replace H : ((transeptref03_right.f (rd x7_1 (ji15)) 18).bind fun t157 => ((transeptref03_right.f (rd x7_1 (ji18)) 17).bind fun t158 => ((transeptref03_right.f (rd x7_1 (ji18)) 19).bind fun t159 => (if 0 ≤ (wrap64 (x8_1 - 16)) then (if (wrap64 (x8_1 - 16)) < (x7_1.length : Int) then (if 0 ≤ (wrap64 (x8_1 - 7)) then (if (wrap64 (x8_1 - 7)) < (x7_1.length : Int) then (if x7_1.length < 35184372088832 then (transeptref03_block.l0 k1 l0 a1 l2 (x7_1 ++ [((((((rd x7_1 (wrap64 (x8_1 - 16))) + (Go.bits .xor .u32 (Go.bits .xor .u32 t156 t157) ((rd x7_1 (ji15)) / 8))) % 4294967296) + (rd x7_1 (wrap64 (x8_1 - 7)))) % 4294967296) + (Go.bits .xor .u32 (Go.bits .xor .u32 t158 t159) ((rd x7_1 (ji18)) / 1024))) % 4294967296]) (wrap64 (x8_1 + 1))) else (none)) else (none)) else (none)) else (none)) else (none))))) = some r := H
                  have A21 := Aside0.mk A210
                  clear A210
                  replace H := Option.bind_eq_some_iff.mp H
                  obtain ⟨t157, A220, H⟩ := H
                  replace H : ((transeptref03_right.f (rd x7_1 (ji18)) 17).bind fun t158 => ((transeptref03_right.f (rd x7_1 (ji18)) 19).bind fun t159 => (if 0 ≤ (wrap64 (x8_1 - 16)) then (if (wrap64 (x8_1 - 16)) < (x7_1.length : Int) then (if 0 ≤ (wrap64 (x8_1 - 7)) then (if (wrap64 (x8_1 - 7)) < (x7_1.length : Int) then (if x7_1.length < 35184372088832 then (transeptref03_block.l0 k1 l0 a1 l2 (x7_1 ++ [((((((rd x7_1 (wrap64 (x8_1 - 16))) + (Go.bits .xor .u32 (Go.bits .xor .u32 t156 t157) ((rd x7_1 (ji15)) / 8))) % 4294967296) + (rd x7_1 (wrap64 (x8_1 - 7)))) % 4294967296) + (Go.bits .xor .u32 (Go.bits .xor .u32 t158 t159) ((rd x7_1 (ji18)) / 1024))) % 4294967296]) (wrap64 (x8_1 + 1))) else (none)) else (none)) else (none)) else (none)) else (none)))) = some r := H
                  have A22 := Aside0.mk A220
                  clear A220
                  replace H := Option.bind_eq_some_iff.mp H
                  obtain ⟨t158, A230, H⟩ := H
                  replace H : ((transeptref03_right.f (rd x7_1 (ji18)) 19).bind fun t159 => (if 0 ≤ (wrap64 (x8_1 - 16)) then (if (wrap64 (x8_1 - 16)) < (x7_1.length : Int) then (if 0 ≤ (wrap64 (x8_1 - 7)) then (if (wrap64 (x8_1 - 7)) < (x7_1.length : Int) then (if x7_1.length < 35184372088832 then (transeptref03_block.l0 k1 l0 a1 l2 (x7_1 ++ [((((((rd x7_1 (wrap64 (x8_1 - 16))) + (Go.bits .xor .u32 (Go.bits .xor .u32 t156 t157) ((rd x7_1 (ji15)) / 8))) % 4294967296) + (rd x7_1 (wrap64 (x8_1 - 7)))) % 4294967296) + (Go.bits .xor .u32 (Go.bits .xor .u32 t158 t159) ((rd x7_1 (ji18)) / 1024))) % 4294967296]) (wrap64 (x8_1 + 1))) else (none)) else (none)) else (none)) else (none)) else (none))) = some r := H
                  have A23 := Aside0.mk A230
                  clear A230
                  replace H := Option.bind_eq_some_iff.mp H
                  obtain ⟨t159, A240, H⟩ := H
                  replace H : (if 0 ≤ (wrap64 (x8_1 - 16)) then (if (wrap64 (x8_1 - 16)) < (x7_1.length : Int) then (if 0 ≤ (wrap64 (x8_1 - 7)) then (if (wrap64 (x8_1 - 7)) < (x7_1.length : Int) then (if x7_1.length < 35184372088832 then (transeptref03_block.l0 k1 l0 a1 l2 (x7_1 ++ [((((((rd x7_1 (wrap64 (x8_1 - 16))) + (Go.bits .xor .u32 (Go.bits .xor .u32 t156 t157) ((rd x7_1 (ji15)) / 8))) % 4294967296) + (rd x7_1 (wrap64 (x8_1 - 7)))) % 4294967296) + (Go.bits .xor .u32 (Go.bits .xor .u32 t158 t159) ((rd x7_1 (ji18)) / 1024))) % 4294967296]) (wrap64 (x8_1 + 1))) else (none)) else (none)) else (none)) else (none)) else (none)) = some r := H
                  have A24 := Aside0.mk A240
                  clear A240
                  obtain ⟨ji25, hji25⟩ : ∃ j_ : Int, (wrap64 (x8_1 - 16)) = j_ := ⟨_, rfl⟩
                  replace H : (if 0 ≤ (ji25) then (if (ji25) < (x7_1.length : Int) then (if 0 ≤ (wrap64 (x8_1 - 7)) then (if (wrap64 (x8_1 - 7)) < (x7_1.length : Int) then (if x7_1.length < 35184372088832 then (transeptref03_block.l0 k1 l0 a1 l2 (x7_1 ++ [((((((rd x7_1 (ji25)) + (Go.bits .xor .u32 (Go.bits .xor .u32 t156 t157) ((rd x7_1 (ji15)) / 8))) % 4294967296) + (rd x7_1 (wrap64 (x8_1 - 7)))) % 4294967296) + (Go.bits .xor .u32 (Go.bits .xor .u32 t158 t159) ((rd x7_1 (ji18)) / 1024))) % 4294967296]) (wrap64 (x8_1 + 1))) else (none)) else (none)) else (none)) else (none)) else (none)) = some r := by first | (rw [hji25] at H; exact H) | (simp only [hji25] at H ⊢; exact H)
                  (try rw [hji25] at A21)
                  (try rw [hji25] at A22)
                  (try rw [hji25] at A23)
                  (try rw [hji25] at A24)
                  have hji25w : (IntKind.i64.wrap (x8_1 - 16)) = ji25 := (i64_w _).trans hji25
                  by_cases c26 : 0 ≤ (ji25)
                  · rw [if_pos c26] at H
                    have c26b0 : decide (0 ≤ (ji25)) = true := decide_eq_true c26
                    clear c26
                    by_cases c27 : (ji25) < (x7_1.length : Int)
                    · rw [if_pos c27] at H
                      have c27b0 : decide ((ji25) < (x7_1.length : Int)) = true := decide_eq_true c27
                      clear c27
                      obtain ⟨ji28, hji28⟩ : ∃ j_ : Int, (wrap64 (x8_1 - 7)) = j_ := ⟨_, rfl⟩
                      replace H : (if 0 ≤ (ji28) then (if (ji28) < (x7_1.length : Int) then (if x7_1.length < 35184372088832 then (transeptref03_block.l0 k1 l0 a1 l2 (x7_1 ++ [((((((rd x7_1 (ji25)) + (Go.bits .xor .u32 (Go.bits .xor .u32 t156 t157) ((rd x7_1 (ji15)) / 8))) % 4294967296) + (rd x7_1 (ji28))) % 4294967296) + (Go.bits .xor .u32 (Go.bits .xor .u32 t158 t159) ((rd x7_1 (ji18)) / 1024))) % 4294967296]) (wrap64 (x8_1 + 1))) else (none)) else (none)) else (none)) = some r := by first | (rw [hji28] at H; exact H) | (simp only [hji28] at H ⊢; exact H)
                      (try rw [hji28] at A21)
                      (try rw [hji28] at A22)
                      (try rw [hji28] at A23)
                      (try rw [hji28] at A24)
                      have hji28w : (IntKind.i64.wrap (x8_1 - 7)) = ji28 := (i64_w _).trans hji28
                      by_cases c29 : 0 ≤ (ji28)
                      · rw [if_pos c29] at H
                        have c29b0 : decide (0 ≤ (ji28)) = true := decide_eq_true c29
                        clear c29
                        by_cases c30 : (ji28) < (x7_1.length : Int)
                        · rw [if_pos c30] at H
                          have c30b0 : decide ((ji28) < (x7_1.length : Int)) = true := decide_eq_true c30
                          clear c30
                          by_cases c31 : x7_1.length < 35184372088832
                          · rw [if_pos c31] at H
                            have LMc31 := Aside0.mk c31
                            clear c31
                            obtain ⟨y162, hy162⟩ : ∃ y_ : List Int, y_ = (x7_1 ++ [((((((rd x7_1 (ji25)) + (Go.bits .xor .u32 (Go.bits .xor .u32 t156 t157) ((rd x7_1 (ji15)) / 8))) % 4294967296) + (rd x7_1 (ji28))) % 4294967296) + (Go.bits .xor .u32 (Go.bits .xor .u32 t158 t159) ((rd x7_1 (ji18)) / 1024))) % 4294967296]) := ⟨_, rfl⟩
                            replace H : (transeptref03_block.l0 k1 l0 a1 l2 y162 (wrap64 (x8_1 + 1))) = some r := by first | (rw [hy162]; with_reducible exact H) | (have H2_ := (Option.bind_some _ _).symm.trans H; rw [hy162]; with_reducible exact H2_) | (have H2_ := (Option.bind_some _ _).symm.trans H; with_reducible exact H2_) | with_reducible exact H | (rw [hy162]; exact H) | exact H
                            have Ny162 := Aside0.mk hy162
                            clear hy162
                            have H' := Aside0.mk H
                            clear H
                            obtain ⟨Ao32, co32, eo32⟩ := Kd.R_slice HO_7.out
                            subst eo32
                            have p154 : 0 ≤ ((ji15) : Int) := of_decide_eq_true (by first | (with_reducible assumption) | assumption)
                            have q154 : (ji15) < (x7_1.length : Int) := of_decide_eq_true (by first | (with_reducible assumption) | assumption)
                            obtain ⟨ad154, e154, hx154_0⟩ := Kd.at_int (Kd.R_reads' HO_7.out).2.2 (ji15) p154 q154
                            cases e154
                            replace p154 := eq_true p154
                            replace q154 := eq_true q154
                            try have q154m := eq_true (by have z_ := of_eq_true q154; simp only [ByteArray.size_extract, Nat.sub_zero] at z_; exact z_)
                            have p155 : 0 ≤ ((ji18) : Int) := of_decide_eq_true (by first | (with_reducible assumption) | assumption)
                            have q155 : (ji18) < (x7_1.length : Int) := of_decide_eq_true (by first | (with_reducible assumption) | assumption)
                            obtain ⟨ad155, e155, hx155_0⟩ := Kd.at_int (Kd.R_reads' HO_7.out).2.2 (ji18) p155 q155
                            obtain rfl : ad154 = ad155 := (by injection e155)
                            replace p155 := eq_true p155
                            replace q155 := eq_true q155
                            try have q155m := eq_true (by have z_ := of_eq_true q155; simp only [ByteArray.size_extract, Nat.sub_zero] at z_; exact z_)
                            try go_wp2_with (first | ((with_reducible refine gate_callee (f := 26) rfl ?_); refine goesL_ (some 54) rfl rfl Tryd.func26 (by kernel_rfl) rfl #[.int .u32 (rd x7_1 (ji15)), .int .u64 7] rfl (by (try simp only [List.map_toArray, List.map_cons, List.map_nil]); first | done | (simp only [hji15]; rfl) | rfl | (simp only [List.length_drop, List.length_take]; rfl)) ?_; (with_reducible refine (transeptref03_right.calls (rd x7_1 (ji15)) 7 t156 _ A21.out).mono ?_); rintro e w' ⟨rfl, ⟨nd, rfl⟩⟩; refine ⟨_, rfl, ?_⟩) | ((with_reducible refine gate_callee (f := 26) rfl ?_); refine goesL_ (some 56) rfl rfl Tryd.func26 (by kernel_rfl) rfl #[.int .u32 (rd x7_1 (ji15)), .int .u64 18] rfl (by (try simp only [List.map_toArray, List.map_cons, List.map_nil]); first | done | (simp only [hji15]; rfl) | rfl | (simp only [List.length_drop, List.length_take]; rfl)) ?_; (with_reducible refine (transeptref03_right.calls (rd x7_1 (ji15)) 18 t157 _ A22.out).mono ?_); rintro e w' ⟨rfl, ⟨nd, rfl⟩⟩; refine ⟨_, rfl, ?_⟩) | ((with_reducible refine gate_callee (f := 26) rfl ?_); refine goesL_ (some 62) rfl rfl Tryd.func26 (by kernel_rfl) rfl #[.int .u32 (rd x7_1 (ji18)), .int .u64 17] rfl (by (try simp only [List.map_toArray, List.map_cons, List.map_nil]); first | done | (simp only [hji18]; rfl) | rfl | (simp only [List.length_drop, List.length_take]; rfl)) ?_; (with_reducible refine (transeptref03_right.calls (rd x7_1 (ji18)) 17 t158 _ A23.out).mono ?_); rintro e w' ⟨rfl, ⟨nd, rfl⟩⟩; refine ⟨_, rfl, ?_⟩) | ((with_reducible refine gate_callee (f := 26) rfl ?_); refine goesL_ (some 64) rfl rfl Tryd.func26 (by kernel_rfl) rfl #[.int .u32 (rd x7_1 (ji18)), .int .u64 19] rfl (by (try simp only [List.map_toArray, List.map_cons, List.map_nil]); first | done | (simp only [hji18]; rfl) | rfl | (simp only [List.length_drop, List.length_take]; rfl)) ?_; (with_reducible refine (transeptref03_right.calls (rd x7_1 (ji18)) 19 t159 _ A24.out).mono ?_); rintro e w' ⟨rfl, ⟨nd, rfl⟩⟩; refine ⟨_, rfl, ?_⟩))
                            (try (rw [drewN_self wr]; generalize hq_ : World.drewN wr _ = wr; have n0_ : Aside0 (Kd.R (Kd.int .u32) 33 wr w.heap.size (fun _ => True) (.slice (some ad154) x7_1.length co32) x7_1) := ⟨by rw [← hq_]; exact (by (with_reducible repeat (first | apply Kd.R_alloc | apply Kd.R_drewN | apply Kd.R_drew)); exact HO_7.out)⟩; have n1_ : Aside0 (Below w.heap.size w wr) := ⟨by rw [← hq_]; exact (by repeat (first | (with_reducible first | exact HB.out | apply below_alloc | apply pw_below_drewN | apply below_drew1) | exact HB.out))⟩; clear HO_7 HB hq_; have HO_7 := n0_; have HB := n1_; clear n0_ n1_))
                            have n0_ := Aside0.mk (Kd.R_drew HO_7.out)
                            have n1_ := Aside0.mk (below_drew1 HB.out)
                            clear HO_7
                            clear HB
                            have HO_7 := n0_
                            have HB := n1_
                            clear n0_ n1_
                            have p160 : 0 ≤ ((ji25) : Int) := of_decide_eq_true (by first | (with_reducible assumption) | assumption)
                            have q160 : (ji25) < (x7_1.length : Int) := of_decide_eq_true (by first | (with_reducible assumption) | assumption)
                            obtain ⟨ad160, e160, hx160_0⟩ := Kd.at_int (Kd.R_reads' HO_7.out).2.2 (ji25) p160 q160
                            obtain rfl : ad154 = ad160 := (by injection e160)
                            replace p160 := eq_true p160
                            replace q160 := eq_true q160
                            try have q160m := eq_true (by have z_ := of_eq_true q160; simp only [ByteArray.size_extract, Nat.sub_zero] at z_; exact z_)
                            have p161 : 0 ≤ ((ji28) : Int) := of_decide_eq_true (by first | (with_reducible assumption) | assumption)
                            have q161 : (ji28) < (x7_1.length : Int) := of_decide_eq_true (by first | (with_reducible assumption) | assumption)
                            obtain ⟨ad161, e161, hx161_0⟩ := Kd.at_int (Kd.R_reads' HO_7.out).2.2 (ji28) p161 q161
                            obtain rfl : ad154 = ad161 := (by injection e161)
                            replace p161 := eq_true p161
                            replace q161 := eq_true q161
                            try have q161m := eq_true (by have z_ := of_eq_true q161; simp only [ByteArray.size_extract, Nat.sub_zero] at z_; exact z_)
                            refine start_ (n := 19) (S := fun w' => w'.cell? (ad154.add ((ji25)).toNat) = some (.int .u32 (rd x7_1 (ji25))) ∧ w'.cell? (ad154.add ((ji28)).toNat) = some (.int .u32 (rd x7_1 (ji28)))) (ds := [16, 17]) #[false, false, false, false, false, false, false, false, false, false, false, false, false, false, false, false, false, false, false] (by kernel_rfl) rfl rfl ⟨hx160_0, hx161_0⟩ (fun hHeld => ?_); refine with_tabW transeptref03_block.tab12 transeptref03_block.bits12 (fun HT_ HW_ => ?_)
                            generalize wr.drew = w33 at HO_7 HB hx160_0 hx161_0 hHeld ⊢
                            refine pure_ (i := 0) (N := some 69) (v := ?_) (a' := ?_) #[true, false, false, false, false, false, false, false, false, false, false, false, false, false, false, false, false, false, false] rfl rfl (any_of HT_.out (by kernel_rfl)) (fun _ _ _ h => h) (Or.inl ⟨by rfl, ?_⟩) ?_ ?_
                            rotate_left
                            · intro w'
                              go_simp
                              with_reducible rfl
                            rotate_left
                            · simp only [Act.put, List.setIfInBounds_toArray, List.set_cons_zero, List.set_cons_succ, i64_w, i32_w]
                              rfl
                            refine pure_ (i := 1) (N := some 70) (v := ?_) (a' := ?_) #[true, true, false, false, false, false, false, false, false, false, false, false, false, false, false, false, false, false, false] rfl rfl (any_of HT_.out (by kernel_rfl)) (fun _ _ _ h => h) (Or.inl ⟨by rfl, ?_⟩) ?_ ?_
                            rotate_left
                            · intro w'
                              go_simp
                              with_reducible rfl
                            rotate_left
                            · simp only [Act.put, List.setIfInBounds_toArray, List.set_cons_zero, List.set_cons_succ, i64_w, i32_w]
                              rfl
                            refine pure_ (i := 2) (N := some 71) (v := ?_) (a' := ?_) #[true, true, true, false, false, false, false, false, false, false, false, false, false, false, false, false, false, false, false] rfl rfl (any_of HT_.out (by kernel_rfl)) (fun _ _ _ h => h) (Or.inl ⟨by rfl, ?_⟩) ?_ ?_
                            rotate_left
                            · intro w'
                              go_simp
                              with_reducible rfl
                            rotate_left
                            · simp only [Act.put, List.setIfInBounds_toArray, List.set_cons_zero, List.set_cons_succ, i64_w, i32_w]
                              rfl
                            refine pure_ (i := 3) (N := some 72) (v := ?_) (a' := ?_) #[true, true, true, true, false, false, false, false, false, false, false, false, false, false, false, false, false, false, false] rfl rfl (any_of HT_.out (by kernel_rfl)) (fun _ _ _ h => h) (Or.inl ⟨by rfl, ?_⟩) ?_ ?_
                            rotate_left
                            · intro w'
                              go_simp
                              with_reducible rfl
                            rotate_left
                            · simp only [Act.put, List.setIfInBounds_toArray, List.set_cons_zero, List.set_cons_succ, i64_w, i32_w]
                              rfl
                            refine pure_ (i := 4) (N := some 73) (v := ?_) (a' := ?_) #[true, true, true, true, true, false, false, false, false, false, false, false, false, false, false, false, false, false, false] rfl rfl (any_of HT_.out (by kernel_rfl)) (fun _ _ _ h => h) (Or.inl ⟨by rfl, ?_⟩) ?_ ?_
                            rotate_left
                            · intro w'
                              go_simp
                              with_reducible rfl
                            rotate_left
                            · simp only [Act.put, List.setIfInBounds_toArray, List.set_cons_zero, List.set_cons_succ, i64_w, i32_w]
                              rfl
                            refine pure_ (i := 6) (N := some 75) (v := ?_) (a' := ?_) #[true, true, true, true, true, false, true, false, false, false, false, false, false, false, false, false, false, false, false] rfl rfl (any_of HT_.out (by kernel_rfl)) (fun _ _ _ h => h) (Or.inl ⟨by rfl, ?_⟩) ?_ ?_
                            rotate_left
                            · intro w'
                              go_simp
                              with_reducible rfl
                            rotate_left
                            · simp only [Act.put, List.setIfInBounds_toArray, List.set_cons_zero, List.set_cons_succ, i64_w, i32_w]
                              rfl
                            refine pure_ (i := 8) (N := some 77) (v := ?_) (a' := ?_) #[true, true, true, true, true, false, true, false, true, false, false, false, false, false, false, false, false, false, false] rfl rfl (any_of HT_.out (by kernel_rfl)) (fun _ _ _ h => h) (Or.inl ⟨by rfl, ?_⟩) ?_ ?_
                            rotate_left
                            · intro w'
                              go_simp
                              with_reducible rfl
                            rotate_left
                            · simp only [Act.put, List.setIfInBounds_toArray, List.set_cons_zero, List.set_cons_succ, i64_w, i32_w]
                              rfl
                            refine pure_ (i := 9) (N := some 78) (v := ?_) (a' := ?_) #[true, true, true, true, true, false, true, false, true, true, false, false, false, false, false, false, false, false, false] rfl rfl (any_of HT_.out (by kernel_rfl)) (fun _ _ _ h => h) (Or.inl ⟨by rfl, ?_⟩) ?_ ?_
                            rotate_left
                            · intro w'
                              go_simp
                              with_reducible rfl
                            rotate_left
                            · simp only [Act.put, List.setIfInBounds_toArray, List.set_cons_zero, List.set_cons_succ, i64_w, i32_w]
                              rfl
                            refine pure_ (i := 10) (N := some 79) (v := ?_) (a' := ?_) #[true, true, true, true, true, false, true, false, true, true, true, false, false, false, false, false, false, false, false] rfl rfl (any_of HT_.out (by kernel_rfl)) (fun _ _ _ h => h) (Or.inl ⟨by rfl, ?_⟩) ?_ ?_
                            rotate_left
                            · intro w'
                              go_simp
                              with_reducible rfl
                            rotate_left
                            · simp only [Act.put, List.setIfInBounds_toArray, List.set_cons_zero, List.set_cons_succ, i64_w, i32_w]
                              rfl
                            refine pure_ (i := 11) (N := some 80) (v := ?_) (a' := ?_) #[true, true, true, true, true, false, true, false, true, true, true, true, false, false, false, false, false, false, false] rfl rfl (any_of HT_.out (by kernel_rfl)) (fun _ _ _ h => h) (Or.inl ⟨by rfl, ?_⟩) ?_ ?_
                            rotate_left
                            · intro w'
                              go_simp
                              with_reducible rfl
                            rotate_left
                            · simp only [Act.put, List.setIfInBounds_toArray, List.set_cons_zero, List.set_cons_succ, i64_w, i32_w]
                              rfl
                            refine pure_ (i := 14) (N := some 83) (v := ?_) (a' := ?_) #[true, true, true, true, true, false, true, false, true, true, true, true, false, false, true, false, false, false, false] rfl rfl (any_of HT_.out (by kernel_rfl)) (fun _ _ _ h => h) (Or.inl ⟨by rfl, ?_⟩) ?_ ?_
                            rotate_left
                            · intro w'
                              go_simp
                              with_reducible rfl
                            rotate_left
                            · simp only [Act.put, List.setIfInBounds_toArray, List.set_cons_zero, List.set_cons_succ, i64_w, i32_w]
                              rfl
                            refine take_ (i := 5) (N := some 74) (v := ?_) (a' := ?_) #[true, true, true, true, true, true, true, false, true, true, true, true, false, false, true, false, false, false, false] rfl rfl (take_ofW HT_.out HW_.out (by kernel_rfl)) (fun _ _ _ h => h) (Or.inl ⟨by rfl, ?_⟩) hHeld ?_ ?_
                            rotate_left
                            · rintro w' ⟨s0, s1⟩
                              go_simp
                              with_reducible rfl
                            rotate_left
                            · simp only [Act.put, List.setIfInBounds_toArray, List.set_cons_zero, List.set_cons_succ, i64_w, i32_w]
                              rfl
                            refine pure_ (i := 7) (N := some 76) (v := ?_) (a' := ?_) #[true, true, true, true, true, true, true, true, true, true, true, true, false, false, true, false, false, false, false] rfl rfl (any_of HT_.out (by kernel_rfl)) (fun _ _ _ h => h) (Or.inl ⟨by rfl, ?_⟩) ?_ ?_
                            rotate_left
                            · intro w'
                              go_simp
                              with_reducible rfl
                            rotate_left
                            · simp only [Act.put, List.setIfInBounds_toArray, List.set_cons_zero, List.set_cons_succ, i64_w, i32_w]
                              rfl
                            refine take_ (i := 12) (N := some 81) (v := ?_) (a' := ?_) #[true, true, true, true, true, true, true, true, true, true, true, true, true, false, true, false, false, false, false] rfl rfl (take_ofW HT_.out HW_.out (by kernel_rfl)) (fun _ _ _ h => h) (Or.inl ⟨by rfl, ?_⟩) hHeld ?_ ?_
                            rotate_left
                            · rintro w' ⟨s0, s1⟩
                              go_simp
                              with_reducible rfl
                            rotate_left
                            · simp only [Act.put, List.setIfInBounds_toArray, List.set_cons_zero, List.set_cons_succ, i64_w, i32_w]
                              rfl
                            refine pure_ (i := 13) (N := some 82) (v := ?_) (a' := ?_) #[true, true, true, true, true, true, true, true, true, true, true, true, true, true, true, false, false, false, false] rfl rfl (any_of HT_.out (by kernel_rfl)) (fun _ _ _ h => h) (Or.inl ⟨by rfl, ?_⟩) ?_ ?_
                            rotate_left
                            · intro w'
                              go_simp
                              with_reducible rfl
                            rotate_left
                            · simp only [Act.put, List.setIfInBounds_toArray, List.set_cons_zero, List.set_cons_succ, i64_w, i32_w]
                              rfl
                            refine pure_ (i := 15) (N := some 84) (v := ?_) (a' := ?_) #[true, true, true, true, true, true, true, true, true, true, true, true, true, true, true, true, false, false, false] rfl rfl (any_of HT_.out (by kernel_rfl)) (fun _ _ _ h => h) (Or.inl ⟨by rfl, ?_⟩) ?_ ?_
                            rotate_left
                            · intro w'
                              go_simp
                              with_reducible rfl
                            rotate_left
                            · simp only [Act.put, List.setIfInBounds_toArray, List.set_cons_zero, List.set_cons_succ, i64_w, i32_w]
                              rfl
                            refine last_ (i := 16) (N := some 85) #[true, true, true, true, true, true, true, true, true, true, true, true, true, true, true, true, true, false, false] rfl rfl (one_of HT_.out (by kernel_rfl)) (by decide) (fun K hK => ?_)
                            refine value_ (w1 := ?_) (v := ?_) (by rfl) rfl ?_ ?_
                            rotate_left 2
                            · go_simp
                              constructor
                              · rfl
                              · rfl
                            refine hK.out _ _ ?_
                            clear hK K
                            refine norm_ (a' := ?_) ?_ ?_
                            rotate_left
                            · show Act.put _ (some 85) _ = _
                              simp only [Act.put, List.setIfInBounds_toArray, List.set_cons_zero, List.set_cons_succ, i64_w, i32_w]
                              rfl
                            refine last_ (i := 17) (N := some 86) #[true, true, true, true, true, true, true, true, true, true, true, true, true, true, true, true, true, true, false] rfl rfl (one_of HT_.out (by kernel_rfl)) (by decide) (fun K hK => ?_)
                            refine Kd.R_append_step (Kd.int .u32) (w0 := w) w.heap.size (by rfl) (.tmp 69) (.tmp 85) 50 33 (.int .u32 0) 4 rfl Tryd.underlying50 info33 rfl (by decide) (by omega) (.slice (some ad154) x7_1.length co32) x7_1 (((((((rd x7_1 (ji25)) + (Go.bits .xor .u32 (Go.bits .xor .u32 t156 t157) ((rd x7_1 (ji15)) / 8))) % 4294967296) + (rd x7_1 (ji28))) % 4294967296) + (Go.bits .xor .u32 (Go.bits .xor .u32 t158 t159) ((rd x7_1 (ji18)) / 1024))) % 4294967296) [.int .u32 (((((((rd x7_1 (ji25)) + (Go.bits .xor .u32 (Go.bits .xor .u32 t156 t157) ((rd x7_1 (ji15)) / 8))) % 4294967296) + (rd x7_1 (ji28))) % 4294967296) + (Go.bits .xor .u32 (Go.bits .xor .u32 t158 t159) ((rd x7_1 (ji18)) / 1024))) % 4294967296)] (fun _ => True) (fun _ => False) rfl rfl ?aP (fun _ hk => hk.elim) ?aF ?aO ?aB ?aS ?aL ?_
                            (case aP => exact rfl)
                            (case aB => exact (by repeat (first | (with_reducible first | exact HB.out | apply below_alloc | apply pw_below_drewN | apply below_drew1) | exact HB.out)))
                            (case aF => exact (fun _ _ => trivial))
                            (case aO => exact (by (with_reducible repeat (first | apply Kd.R_alloc | apply Kd.R_drewN | apply Kd.R_drew)); exact HO_7.out))
                            (case aS => exact (below_size (by repeat (first | (with_reducible first | exact HB.out | apply below_alloc | apply pw_below_drewN | apply below_drew1) | exact HB.out))))
                            (case aL => have := LMc31.out; omega)
                            intro v163 w34 ho hb hg hat
                            rw [← Ny162.out] at ho
                            have n0_ := Aside0.mk (hb)
                            have n1_ := Aside0.mk (ho)
                            clear HB
                            clear HO_7
                            have HB := n0_
                            have HO164 := n1_
                            clear n0_ n1_
                            clear ho hb hg hat
                            refine hK.out _ _ ?_
                            clear hK K
                            refine norm_ (a' := ?_) ?_ ?_
                            rotate_left
                            · show Act.put _ (some 86) _ = _
                              simp only [Act.put, List.setIfInBounds_toArray, List.set_cons_zero, List.set_cons_succ, i64_w, i32_w]
                              rfl
                            refine pure_ (i := 18) (N := some 7) (v := ?_) (a' := ?_) #[true, true, true, true, true, true, true, true, true, true, true, true, true, true, true, true, true, true, true] rfl rfl (any_of HT_.out (by kernel_rfl)) (fun _ _ _ h => h) (Or.inl ⟨by rfl, ?_⟩) ?_ ?_
                            rotate_left
                            · intro w'
                              go_simp
                              with_reducible rfl
                            rotate_left
                            · simp only [Act.put, List.setIfInBounds_toArray, List.set_cons_zero, List.set_cons_succ, i64_w, i32_w]
                              rfl
                            refine done_ (done_of HT_.out (by kernel_rfl)) ?_
                            try go_wp2
                            go_roundg k1
                            case measure => have := HK1.out; omega
                            case rel => exact ⟨(y162), (wrap64 (x8_1 + 1)), (by first | rfl | (simp; done) | (simp [*]; done)), H', ⟨by have := HK1.out; omega⟩, ⟨by (with_reducible repeat (first | apply Kd.R_alloc | apply Kd.R_drewN | apply Kd.R_drew)); exact HO164.out⟩, ⟨by repeat (first | (with_reducible first | exact HB.out | apply below_alloc | apply pw_below_drewN | apply below_drew1) | exact HB.out)⟩⟩
                          · rw [if_neg c31] at H
                            exact absurd H (by simp)
                        · rw [if_neg c30] at H
                          exact absurd H (by simp)
                      · rw [if_neg c29] at H
                        exact absurd H (by simp)
                    · rw [if_neg c27] at H
                      exact absurd H (by simp)
                  · rw [if_neg c26] at H
                    exact absurd H (by simp)
                · rw [if_neg c20] at H
                  exact absurd H (by simp)
              · rw [if_neg c19] at H
                exact absurd H (by simp)
            · rw [if_neg c17] at H
              exact absurd H (by simp)
          · rw [if_neg c16] at H
            exact absurd H (by simp)
      · rw [if_neg c6] at H
        have c6b0 : decide (x8_1 < 64) = false := decide_eq_false c6
        clear c6
        obtain ⟨y165, hy165⟩ : ∃ y_ : List Int, y_ = (([] : List Int)) := ⟨_, rfl⟩
        replace H : (if y165.length + l0.length < 35184372088832 then (transeptref03_block.l1 k1 l0 l2 x7_1 (y165 ++ l0) 0) else (none)) = some r := by first | (rw [hy165]; with_reducible exact H) | (have H2_ := (Option.bind_some _ _).symm.trans H; rw [hy165]; with_reducible exact H2_) | (have H2_ := (Option.bind_some _ _).symm.trans H; with_reducible exact H2_) | with_reducible exact H | (rw [hy165]; exact H) | exact H
        have Ny165 := Aside0.mk hy165
        clear hy165
        by_cases c35 : y165.length + l0.length < 35184372088832
        · rw [if_pos c35] at H
          have LMc35 := Aside0.mk c35
          clear c35
          obtain ⟨y168, hy168⟩ : ∃ y_ : List Int, y_ = (y165 ++ l0) := ⟨_, rfl⟩
          replace H : (transeptref03_block.l1 k1 l0 l2 x7_1 y168 0) = some r := by first | (rw [hy168]; with_reducible exact H) | (have H2_ := (Option.bind_some _ _).symm.trans H; rw [hy168]; with_reducible exact H2_) | (have H2_ := (Option.bind_some _ _).symm.trans H; with_reducible exact H2_) | with_reducible exact H | (rw [hy168]; exact H) | exact H
          have Ny168 := Aside0.mk hy168
          clear hy168
          have H' := Aside0.mk H
          clear H
          go_wp2_with (first | ((with_reducible refine gate_dst (N := 87) rfl ?_); refine Kd.R_lit (Kd.int .u32) _ 33 ?hg (N := 87) ?hd (xs := ([] : List Int)) (inner := []) (ok := fun _ => True) (okp := fun _ => True) ?hr ?hp (fun _ hk => hk) trivial (Below.refl _ _) (Nat.le_refl _) (by simp) ?_; (case hd => rfl); (case hg => rfl); (case hr => first | (go_simp; done) | (go_simp; rfl)); (case hp => exact (Reps.none _ _)); intro v166 w36 ho37 hb hg_ hnew_; clear hg_ hnew_; (first | rw [← Ny165.out] at ho37 | (simp only [Int.reduceToNat] at ho37; rw [← Ny165.out] at ho37)); have n0_ := Aside0.mk (Kd.R_elder' (by (with_reducible repeat (first | apply Kd.R_alloc | apply Kd.R_drewN | apply Kd.R_drew)); exact HO_7.out) (Kd.R_base ho37) hb); have n1_ := Aside0.mk (Kd.R_lower (Kd.R_new' ho37 (Kd.R_lt (by (with_reducible repeat (first | apply Kd.R_alloc | apply Kd.R_drewN | apply Kd.R_drew)); exact HO_7.out))) (below_size (by repeat (first | (with_reducible first | exact HB.out | apply below_alloc | apply pw_below_drewN | apply below_drew1) | exact HB.out)))); have n2_ := Aside0.mk (below_step (by repeat (first | (with_reducible first | exact HB.out | apply below_alloc | apply pw_below_drewN | apply below_drew1) | exact HB.out)) hb); clear HO_7; clear HB; have HO_7 := n0_; have HO167 := n1_; have HB := n2_; clear n0_ n1_ n2_; clear hb ho37) | ((with_reducible refine gate_builtin (b := .append) (xs := #[.tmp 87, .tmp 88]) rfl ?_); at_builtin; refine Kd.R_append_rows (Kd.int .u32) (w0 := w) w.heap.size rfl (.tmp 87) (.tmp 88) 50 33 (.int .u32 0) 4 rfl Tryd.underlying50 info33 rfl (by decide) (by omega) v166 y165 l0 _ _ _ (fun k_ => some k_ ≠ (u7 : Value).ownBlock) (fun _ => False) rfl rfl ?aO ?aR (fun _ _ h => h) (fun _ h => h.elim) ?aF ?aB ?aS ?aL ?_; (case aR => repeat (first | exact (Kd.C_below HR0.out HB.out) | (with_reducible refine Kd.C_alloc ?_ _) | (with_reducible refine Kd.C_drewN ?_ _) | (with_reducible refine Kd.C_drew ?_))); (case aB => exact (by repeat (first | (with_reducible first | exact HB.out | apply below_alloc | apply pw_below_drewN | apply below_drew1) | exact HB.out))); (case aF => exact (fun k_ hk => Kd.fresh' (Kd.R_lt (by (with_reducible repeat (first | apply Kd.R_alloc | apply Kd.R_drewN | apply Kd.R_drew)); exact HO_7.out)) k_ hk)); (case aO => exact (by (with_reducible repeat (first | apply Kd.R_alloc | apply Kd.R_drewN | apply Kd.R_drew)); exact Kd.R_mono HO167.out (fun _ hk => hk.2))); (case aS => exact (below_size (by repeat (first | (with_reducible first | exact HB.out | apply below_alloc | apply pw_below_drewN | apply below_drew1) | exact HB.out)))); (case aL => have := LMc35.out; omega); intro v169 w38 ho hb hg hat; rw [← Ny168.out] at ho; have n0_ := Aside0.mk (Kd.R_after (ok := (fun _ => True)) (by (with_reducible repeat (first | apply Kd.R_alloc | apply Kd.R_drewN | apply Kd.R_drew)); exact HO_7.out) hg hat); have n1_ := Aside0.mk (hb); have n2_ := Aside0.mk (ho); clear HO_7; clear HB; clear HO167; have HO_7 := n0_; have HB := n1_; have HO170 := n2_; clear n0_ n1_ n2_; clear ho hb hg hat))
          go_loopg [14, 15] k1 (fun kq v14 v15 w' => ∃ (x14_2 : List Int) (x15_2 : Int), v15 = .int .i64 x15_2 ∧ Aside0 (transeptref03_block.l1 kq l0 l2 x7_1 x14_2 x15_2 = some r) ∧ Aside0 (kq ≤ k1) ∧ Aside0 (Kd.R (Kd.int .u32) 33 w' w.heap.size (fun k_ => some k_ ≠ (v14 : Value).ownBlock) u7 x7_1) ∧ Aside0 (Kd.R (Kd.int .u32) 33 w' w.heap.size (fun k_ => some k_ ≠ (u7 : Value).ownBlock) v14 x14_2) ∧ Aside0 (Below w.heap.size w w'))
          case atStart => exact ⟨(y168), (0), (by first | rfl | (simp; done) | (simp [*]; done)), H', ⟨Nat.le_refl _⟩, ⟨by (with_reducible repeat (first | apply Kd.R_alloc | apply Kd.R_drewN | apply Kd.R_drew)); exact Kd.R_mono HO_7.out (fun _ hk => hk.2)⟩, ⟨by (with_reducible repeat (first | apply Kd.R_alloc | apply Kd.R_drewN | apply Kd.R_drew)); exact HO170.out⟩, ⟨by repeat (first | (with_reducible first | exact HB.out | apply below_alloc | apply pw_below_drewN | apply below_drew1) | exact HB.out)⟩⟩
          case round =>
            clear H'
            try clear c1
            try clear p1
            try clear q1
            try clear hx1
            try clear c2
            try clear p2
            try clear c3
            try clear c6
            try clear c6b0
            try clear p6
            try clear c7
            try clear c7b0
            try clear c9
            try clear c9b0
            try clear c9b1
            try clear c10
            try clear c10b0
            try clear c10b1
            try clear c11
            try clear c11b0
            try clear c11b1
            try clear c13
            try clear p15
            try clear q15
            try clear hx15
            try clear c16
            try clear c16b0
            try clear p16
            try clear q16
            try clear hx16
            try clear c17
            try clear c17b0
            try clear c19
            try clear c19b0
            try clear c20
            try clear c20b0
            try clear c25
            try clear c26
            try clear c26b0
            try clear c27
            try clear c27b0
            try clear c29
            try clear c29b0
            try clear c30
            try clear c30b0
            try clear c31
            try clear c35
            try clear hx154_0
            try clear hx155_0
            try clear hx160_0
            try clear hx161_0
            try clear p154
            try clear p155
            try clear p160
            try clear p161
            try clear p2
            try clear q154
            try clear q155
            try clear q160
            try clear q161
            obtain ⟨x14_2, x15_2, rfl, HA, HK2, HO_7, HO_14, HB⟩ := hrel
            cases gk with
            | zero => exact absurd HA.out (by simp [transeptref03_block.l1])
            | succ k2 =>
              have H := HA.out
              clear HA
              simp only [transeptref03_block.l1] at H
              by_cases c39 : x15_2 < 64
              · rw [if_pos c39] at H
                have c39b0 : decide (x15_2 < 64) = true := decide_eq_true c39
                clear c39
                by_cases c40 : 4 < (x14_2.length : Int)
                · rw [if_pos c40] at H
                  have c40b0 : decide (4 < (x14_2.length : Int)) = true := decide_eq_true c40
                  have c40b1 : decide (4 < x14_2.length) = true := decide_eq_true (by omega)
                  clear c40
                  by_cases c41 : 0 < (x14_2.length : Int)
                  · rw [if_pos c41] at H
                    have c41b0 : decide (0 < (x14_2.length : Int)) = true := decide_eq_true c41
                    have c41b1 : decide (0 < x14_2.length) = true := decide_eq_true (by omega)
                    clear c41
                    by_cases c42 : 5 < (x14_2.length : Int)
                    · rw [if_pos c42] at H
                      have c42b0 : decide (5 < (x14_2.length : Int)) = true := decide_eq_true c42
                      have c42b1 : decide (5 < x14_2.length) = true := decide_eq_true (by omega)
                      clear c42
                      by_cases c43 : 6 < (x14_2.length : Int)
                      · rw [if_pos c43] at H
                        have c43b0 : decide (6 < (x14_2.length : Int)) = true := decide_eq_true c43
                        have c43b1 : decide (6 < x14_2.length) = true := decide_eq_true (by omega)
                        clear c43
                        by_cases c44 : 1 < (x14_2.length : Int)
                        · rw [if_pos c44] at H
                          have c44b0 : decide (1 < (x14_2.length : Int)) = true := decide_eq_true c44
                          have c44b1 : decide (1 < x14_2.length) = true := decide_eq_true (by omega)
                          clear c44
                          by_cases c45 : 2 < (x14_2.length : Int)
                          · rw [if_pos c45] at H
                            have c45b0 : decide (2 < (x14_2.length : Int)) = true := decide_eq_true c45
                            have c45b1 : decide (2 < x14_2.length) = true := decide_eq_true (by omega)
                            clear c45
                            by_cases c46 : 7 < (x14_2.length : Int)
                            · rw [if_pos c46] at H
                              have c46b0 : decide (7 < (x14_2.length : Int)) = true := decide_eq_true c46
                              have c46b1 : decide (7 < x14_2.length) = true := decide_eq_true (by omega)
                              clear c46
                              replace H := Option.bind_eq_some_iff.mp H
                              obtain ⟨t180, A470, H⟩ := H
                              replace H : ((transeptref03_right.f (rd x14_2 4) 11).bind fun t181 => ((transeptref03_right.f (rd x14_2 4) 25).bind fun t182 => (if 0 ≤ x15_2 then (if x15_2 < (l2.length : Int) then (if x15_2 < (x7_1.length : Int) then ((transeptref03_right.f (rd x14_2 0) 2).bind fun t185 => ((transeptref03_right.f (rd x14_2 0) 13).bind fun t186 => ((transeptref03_right.f (rd x14_2 0) 22).bind fun t187 => (if 3 < (x14_2.length : Int) then (transeptref03_block.l1 k2 l0 l2 x7_1 (([((((((((((rd x14_2 7) + (Go.bits .xor .u32 (Go.bits .xor .u32 t180 t181) t182)) % 4294967296) + (Go.bits .xor .u32 (Go.bits .and .u32 (rd x14_2 4) (rd x14_2 5)) (Go.bits .and .u32 ((4294967295 - (rd x14_2 4)) % 4294967296) (rd x14_2 6)))) % 4294967296) + (rd l2 x15_2)) % 4294967296) + (rd x7_1 x15_2)) % 4294967296) + (((Go.bits .xor .u32 (Go.bits .xor .u32 t185 t186) t187) + (Go.bits .xor .u32 (Go.bits .xor .u32 (Go.bits .and .u32 (rd x14_2 0) (rd x14_2 1)) (Go.bits .and .u32 (rd x14_2 0) (rd x14_2 2))) (Go.bits .and .u32 (rd x14_2 1) (rd x14_2 2)))) % 4294967296)) % 4294967296, rd x14_2 0, rd x14_2 1, rd x14_2 2, ((rd x14_2 3) + (((((((((rd x14_2 7) + (Go.bits .xor .u32 (Go.bits .xor .u32 t180 t181) t182)) % 4294967296) + (Go.bits .xor .u32 (Go.bits .and .u32 (rd x14_2 4) (rd x14_2 5)) (Go.bits .and .u32 ((4294967295 - (rd x14_2 4)) % 4294967296) (rd x14_2 6)))) % 4294967296) + (rd l2 x15_2)) % 4294967296) + (rd x7_1 x15_2)) % 4294967296)) % 4294967296, rd x14_2 4, rd x14_2 5, rd x14_2 6] : List Int)) (wrap64 (x15_2 + 1))) else (none))))) else (none)) else (none)) else (none)))) = some r := H
                              have A47 := Aside0.mk A470
                              clear A470
                              replace H := Option.bind_eq_some_iff.mp H
                              obtain ⟨t181, A480, H⟩ := H
                              replace H : ((transeptref03_right.f (rd x14_2 4) 25).bind fun t182 => (if 0 ≤ x15_2 then (if x15_2 < (l2.length : Int) then (if x15_2 < (x7_1.length : Int) then ((transeptref03_right.f (rd x14_2 0) 2).bind fun t185 => ((transeptref03_right.f (rd x14_2 0) 13).bind fun t186 => ((transeptref03_right.f (rd x14_2 0) 22).bind fun t187 => (if 3 < (x14_2.length : Int) then (transeptref03_block.l1 k2 l0 l2 x7_1 (([((((((((((rd x14_2 7) + (Go.bits .xor .u32 (Go.bits .xor .u32 t180 t181) t182)) % 4294967296) + (Go.bits .xor .u32 (Go.bits .and .u32 (rd x14_2 4) (rd x14_2 5)) (Go.bits .and .u32 ((4294967295 - (rd x14_2 4)) % 4294967296) (rd x14_2 6)))) % 4294967296) + (rd l2 x15_2)) % 4294967296) + (rd x7_1 x15_2)) % 4294967296) + (((Go.bits .xor .u32 (Go.bits .xor .u32 t185 t186) t187) + (Go.bits .xor .u32 (Go.bits .xor .u32 (Go.bits .and .u32 (rd x14_2 0) (rd x14_2 1)) (Go.bits .and .u32 (rd x14_2 0) (rd x14_2 2))) (Go.bits .and .u32 (rd x14_2 1) (rd x14_2 2)))) % 4294967296)) % 4294967296, rd x14_2 0, rd x14_2 1, rd x14_2 2, ((rd x14_2 3) + (((((((((rd x14_2 7) + (Go.bits .xor .u32 (Go.bits .xor .u32 t180 t181) t182)) % 4294967296) + (Go.bits .xor .u32 (Go.bits .and .u32 (rd x14_2 4) (rd x14_2 5)) (Go.bits .and .u32 ((4294967295 - (rd x14_2 4)) % 4294967296) (rd x14_2 6)))) % 4294967296) + (rd l2 x15_2)) % 4294967296) + (rd x7_1 x15_2)) % 4294967296)) % 4294967296, rd x14_2 4, rd x14_2 5, rd x14_2 6] : List Int)) (wrap64 (x15_2 + 1))) else (none))))) else (none)) else (none)) else (none))) = some r := H
                              have A48 := Aside0.mk A480
                              clear A480
                              replace H := Option.bind_eq_some_iff.mp H
                              obtain ⟨t182, A490, H⟩ := H
                              replace H : (if 0 ≤ x15_2 then (if x15_2 < (l2.length : Int) then (if x15_2 < (x7_1.length : Int) then ((transeptref03_right.f (rd x14_2 0) 2).bind fun t185 => ((transeptref03_right.f (rd x14_2 0) 13).bind fun t186 => ((transeptref03_right.f (rd x14_2 0) 22).bind fun t187 => (if 3 < (x14_2.length : Int) then (transeptref03_block.l1 k2 l0 l2 x7_1 (([((((((((((rd x14_2 7) + (Go.bits .xor .u32 (Go.bits .xor .u32 t180 t181) t182)) % 4294967296) + (Go.bits .xor .u32 (Go.bits .and .u32 (rd x14_2 4) (rd x14_2 5)) (Go.bits .and .u32 ((4294967295 - (rd x14_2 4)) % 4294967296) (rd x14_2 6)))) % 4294967296) + (rd l2 x15_2)) % 4294967296) + (rd x7_1 x15_2)) % 4294967296) + (((Go.bits .xor .u32 (Go.bits .xor .u32 t185 t186) t187) + (Go.bits .xor .u32 (Go.bits .xor .u32 (Go.bits .and .u32 (rd x14_2 0) (rd x14_2 1)) (Go.bits .and .u32 (rd x14_2 0) (rd x14_2 2))) (Go.bits .and .u32 (rd x14_2 1) (rd x14_2 2)))) % 4294967296)) % 4294967296, rd x14_2 0, rd x14_2 1, rd x14_2 2, ((rd x14_2 3) + (((((((((rd x14_2 7) + (Go.bits .xor .u32 (Go.bits .xor .u32 t180 t181) t182)) % 4294967296) + (Go.bits .xor .u32 (Go.bits .and .u32 (rd x14_2 4) (rd x14_2 5)) (Go.bits .and .u32 ((4294967295 - (rd x14_2 4)) % 4294967296) (rd x14_2 6)))) % 4294967296) + (rd l2 x15_2)) % 4294967296) + (rd x7_1 x15_2)) % 4294967296)) % 4294967296, rd x14_2 4, rd x14_2 5, rd x14_2 6] : List Int)) (wrap64 (x15_2 + 1))) else (none))))) else (none)) else (none)) else (none)) = some r := H
                              have A49 := Aside0.mk A490
                              clear A490
                              by_cases c50 : 0 ≤ x15_2
                              · rw [if_pos c50] at H
                                have c50b0 : decide (0 ≤ x15_2) = true := decide_eq_true c50
                                clear c50
                                by_cases c51 : x15_2 < (l2.length : Int)
                                · rw [if_pos c51] at H
                                  have c51b0 : decide (x15_2 < (l2.length : Int)) = true := decide_eq_true c51
                                  clear c51
                                  by_cases c52 : x15_2 < (x7_1.length : Int)
                                  · rw [if_pos c52] at H
                                    have c52b0 : decide (x15_2 < (x7_1.length : Int)) = true := decide_eq_true c52
                                    clear c52
                                    replace H := Option.bind_eq_some_iff.mp H
                                    obtain ⟨t185, A530, H⟩ := H
                                    replace H : ((transeptref03_right.f (rd x14_2 0) 13).bind fun t186 => ((transeptref03_right.f (rd x14_2 0) 22).bind fun t187 => (if 3 < (x14_2.length : Int) then (transeptref03_block.l1 k2 l0 l2 x7_1 (([((((((((((rd x14_2 7) + (Go.bits .xor .u32 (Go.bits .xor .u32 t180 t181) t182)) % 4294967296) + (Go.bits .xor .u32 (Go.bits .and .u32 (rd x14_2 4) (rd x14_2 5)) (Go.bits .and .u32 ((4294967295 - (rd x14_2 4)) % 4294967296) (rd x14_2 6)))) % 4294967296) + (rd l2 x15_2)) % 4294967296) + (rd x7_1 x15_2)) % 4294967296) + (((Go.bits .xor .u32 (Go.bits .xor .u32 t185 t186) t187) + (Go.bits .xor .u32 (Go.bits .xor .u32 (Go.bits .and .u32 (rd x14_2 0) (rd x14_2 1)) (Go.bits .and .u32 (rd x14_2 0) (rd x14_2 2))) (Go.bits .and .u32 (rd x14_2 1) (rd x14_2 2)))) % 4294967296)) % 4294967296, rd x14_2 0, rd x14_2 1, rd x14_2 2, ((rd x14_2 3) + (((((((((rd x14_2 7) + (Go.bits .xor .u32 (Go.bits .xor .u32 t180 t181) t182)) % 4294967296) + (Go.bits .xor .u32 (Go.bits .and .u32 (rd x14_2 4) (rd x14_2 5)) (Go.bits .and .u32 ((4294967295 - (rd x14_2 4)) % 4294967296) (rd x14_2 6)))) % 4294967296) + (rd l2 x15_2)) % 4294967296) + (rd x7_1 x15_2)) % 4294967296)) % 4294967296, rd x14_2 4, rd x14_2 5, rd x14_2 6] : List Int)) (wrap64 (x15_2 + 1))) else (none)))) = some r := H
                                    have A53 := Aside0.mk A530
                                    clear A530
                                    replace H := Option.bind_eq_some_iff.mp H
                                    obtain ⟨t186, A540, H⟩ := H
                                    replace H : ((transeptref03_right.f (rd x14_2 0) 22).bind fun t187 => (if 3 < (x14_2.length : Int) then (transeptref03_block.l1 k2 l0 l2 x7_1 (([((((((((((rd x14_2 7) + (Go.bits .xor .u32 (Go.bits .xor .u32 t180 t181) t182)) % 4294967296) + (Go.bits .xor .u32 (Go.bits .and .u32 (rd x14_2 4) (rd x14_2 5)) (Go.bits .and .u32 ((4294967295 - (rd x14_2 4)) % 4294967296) (rd x14_2 6)))) % 4294967296) + (rd l2 x15_2)) % 4294967296) + (rd x7_1 x15_2)) % 4294967296) + (((Go.bits .xor .u32 (Go.bits .xor .u32 t185 t186) t187) + (Go.bits .xor .u32 (Go.bits .xor .u32 (Go.bits .and .u32 (rd x14_2 0) (rd x14_2 1)) (Go.bits .and .u32 (rd x14_2 0) (rd x14_2 2))) (Go.bits .and .u32 (rd x14_2 1) (rd x14_2 2)))) % 4294967296)) % 4294967296, rd x14_2 0, rd x14_2 1, rd x14_2 2, ((rd x14_2 3) + (((((((((rd x14_2 7) + (Go.bits .xor .u32 (Go.bits .xor .u32 t180 t181) t182)) % 4294967296) + (Go.bits .xor .u32 (Go.bits .and .u32 (rd x14_2 4) (rd x14_2 5)) (Go.bits .and .u32 ((4294967295 - (rd x14_2 4)) % 4294967296) (rd x14_2 6)))) % 4294967296) + (rd l2 x15_2)) % 4294967296) + (rd x7_1 x15_2)) % 4294967296)) % 4294967296, rd x14_2 4, rd x14_2 5, rd x14_2 6] : List Int)) (wrap64 (x15_2 + 1))) else (none))) = some r := H
                                    have A54 := Aside0.mk A540
                                    clear A540
                                    replace H := Option.bind_eq_some_iff.mp H
                                    obtain ⟨t187, A550, H⟩ := H
                                    replace H : (if 3 < (x14_2.length : Int) then (transeptref03_block.l1 k2 l0 l2 x7_1 (([((((((((((rd x14_2 7) + (Go.bits .xor .u32 (Go.bits .xor .u32 t180 t181) t182)) % 4294967296) + (Go.bits .xor .u32 (Go.bits .and .u32 (rd x14_2 4) (rd x14_2 5)) (Go.bits .and .u32 ((4294967295 - (rd x14_2 4)) % 4294967296) (rd x14_2 6)))) % 4294967296) + (rd l2 x15_2)) % 4294967296) + (rd x7_1 x15_2)) % 4294967296) + (((Go.bits .xor .u32 (Go.bits .xor .u32 t185 t186) t187) + (Go.bits .xor .u32 (Go.bits .xor .u32 (Go.bits .and .u32 (rd x14_2 0) (rd x14_2 1)) (Go.bits .and .u32 (rd x14_2 0) (rd x14_2 2))) (Go.bits .and .u32 (rd x14_2 1) (rd x14_2 2)))) % 4294967296)) % 4294967296, rd x14_2 0, rd x14_2 1, rd x14_2 2, ((rd x14_2 3) + (((((((((rd x14_2 7) + (Go.bits .xor .u32 (Go.bits .xor .u32 t180 t181) t182)) % 4294967296) + (Go.bits .xor .u32 (Go.bits .and .u32 (rd x14_2 4) (rd x14_2 5)) (Go.bits .and .u32 ((4294967295 - (rd x14_2 4)) % 4294967296) (rd x14_2 6)))) % 4294967296) + (rd l2 x15_2)) % 4294967296) + (rd x7_1 x15_2)) % 4294967296)) % 4294967296, rd x14_2 4, rd x14_2 5, rd x14_2 6] : List Int)) (wrap64 (x15_2 + 1))) else (none)) = some r := H
                                    have A55 := Aside0.mk A550
                                    clear A550
                                    by_cases c56 : 3 < (x14_2.length : Int)
                                    · rw [if_pos c56] at H
                                      have c56b0 : decide (3 < (x14_2.length : Int)) = true := decide_eq_true c56
                                      have c56b1 : decide (3 < x14_2.length) = true := decide_eq_true (by omega)
                                      clear c56
                                      obtain ⟨y193, hy193⟩ : ∃ y_ : List Int, y_ = (([((((((((((rd x14_2 7) + (Go.bits .xor .u32 (Go.bits .xor .u32 t180 t181) t182)) % 4294967296) + (Go.bits .xor .u32 (Go.bits .and .u32 (rd x14_2 4) (rd x14_2 5)) (Go.bits .and .u32 ((4294967295 - (rd x14_2 4)) % 4294967296) (rd x14_2 6)))) % 4294967296) + (rd l2 x15_2)) % 4294967296) + (rd x7_1 x15_2)) % 4294967296) + (((Go.bits .xor .u32 (Go.bits .xor .u32 t185 t186) t187) + (Go.bits .xor .u32 (Go.bits .xor .u32 (Go.bits .and .u32 (rd x14_2 0) (rd x14_2 1)) (Go.bits .and .u32 (rd x14_2 0) (rd x14_2 2))) (Go.bits .and .u32 (rd x14_2 1) (rd x14_2 2)))) % 4294967296)) % 4294967296, rd x14_2 0, rd x14_2 1, rd x14_2 2, ((rd x14_2 3) + (((((((((rd x14_2 7) + (Go.bits .xor .u32 (Go.bits .xor .u32 t180 t181) t182)) % 4294967296) + (Go.bits .xor .u32 (Go.bits .and .u32 (rd x14_2 4) (rd x14_2 5)) (Go.bits .and .u32 ((4294967295 - (rd x14_2 4)) % 4294967296) (rd x14_2 6)))) % 4294967296) + (rd l2 x15_2)) % 4294967296) + (rd x7_1 x15_2)) % 4294967296)) % 4294967296, rd x14_2 4, rd x14_2 5, rd x14_2 6] : List Int)) := ⟨_, rfl⟩
                                      replace H : (transeptref03_block.l1 k2 l0 l2 x7_1 y193 (wrap64 (x15_2 + 1))) = some r := by first | (rw [hy193]; with_reducible exact H) | (have H2_ := (Option.bind_some _ _).symm.trans H; rw [hy193]; with_reducible exact H2_) | (have H2_ := (Option.bind_some _ _).symm.trans H; with_reducible exact H2_) | with_reducible exact H | (rw [hy193]; exact H) | exact H
                                      have Ny193 := Aside0.mk hy193
                                      clear hy193
                                      have H' := Aside0.mk H
                                      clear H
                                      obtain ⟨Ao57, co57, eo57⟩ := Kd.R_slice HO_14.out
                                      subst eo57
                                      have p171 : 0 ≤ (4 : Int) := (by omega)
                                      have q171 : 4 < (x14_2.length : Int) := of_decide_eq_true (by first | (with_reducible assumption) | assumption)
                                      obtain ⟨ad171, e171, hx171_0⟩ := Kd.at_int (Kd.R_reads' HO_14.out).2.2 4 p171 q171
                                      cases e171
                                      (try simp only [show (4 : Int).toNat = 4 from rfl, Nat.reduceMul, Nat.reduceEqDiff, Go.Addr.add, ↓reduceIte] at hx171_0)
                                      have qi171 : (4 < x14_2.length) = True := eq_true (by omega)
                                      (try rw [show ((4 : Int)).toNat = 4 from rfl] at hx171_0)
                                      replace p171 := eq_true p171
                                      replace q171 := eq_true q171
                                      try have q171m := eq_true (by have z_ := of_eq_true q171; simp only [ByteArray.size_extract, Nat.sub_zero] at z_; exact z_)
                                      have p172 : 0 ≤ (0 : Int) := (by omega)
                                      have q172 : 0 < (x14_2.length : Int) := of_decide_eq_true (by first | (with_reducible assumption) | assumption)
                                      obtain ⟨ad172, e172, hx172_0⟩ := Kd.at_int (Kd.R_reads' HO_14.out).2.2 0 p172 q172
                                      obtain rfl : ad171 = ad172 := (by injection e172)
                                      have qi172 : (0 < x14_2.length) = True := eq_true (by omega)
                                      (try rw [show ((0 : Int)).toNat = 0 from rfl] at hx172_0)
                                      (try rw [Addr.add_zero'] at hx172_0)
                                      replace p172 := eq_true p172
                                      replace q172 := eq_true q172
                                      try have q172m := eq_true (by have z_ := of_eq_true q172; simp only [ByteArray.size_extract, Nat.sub_zero] at z_; exact z_)
                                      try go_wp2
                                      have n0_ := Aside0.mk (Kd.R_drew HO_7.out)
                                      have n1_ := Aside0.mk (Kd.R_drew HO_14.out)
                                      have n2_ := Aside0.mk (below_drew1 HB.out)
                                      clear HO_7
                                      clear HO_14
                                      clear HB
                                      have HO_7 := n0_
                                      have HO_14 := n1_
                                      have HB := n2_
                                      clear n0_ n1_ n2_
                                      have p173 : 0 ≤ (5 : Int) := (by omega)
                                      have q173 : 5 < (x14_2.length : Int) := of_decide_eq_true (by first | (with_reducible assumption) | assumption)
                                      obtain ⟨ad173, e173, hx173_0⟩ := Kd.at_int (Kd.R_reads' HO_14.out).2.2 5 p173 q173
                                      obtain rfl : ad171 = ad173 := (by injection e173)
                                      (try simp only [show (5 : Int).toNat = 5 from rfl, Nat.reduceMul, Nat.reduceEqDiff, Go.Addr.add, ↓reduceIte] at hx173_0)
                                      have qi173 : (5 < x14_2.length) = True := eq_true (by omega)
                                      (try rw [show ((5 : Int)).toNat = 5 from rfl] at hx173_0)
                                      replace p173 := eq_true p173
                                      replace q173 := eq_true q173
                                      try have q173m := eq_true (by have z_ := of_eq_true q173; simp only [ByteArray.size_extract, Nat.sub_zero] at z_; exact z_)
                                      have p174 : 0 ≤ (6 : Int) := (by omega)
                                      have q174 : 6 < (x14_2.length : Int) := of_decide_eq_true (by first | (with_reducible assumption) | assumption)
                                      obtain ⟨ad174, e174, hx174_0⟩ := Kd.at_int (Kd.R_reads' HO_14.out).2.2 6 p174 q174
                                      obtain rfl : ad171 = ad174 := (by injection e174)
                                      (try simp only [show (6 : Int).toNat = 6 from rfl, Nat.reduceMul, Nat.reduceEqDiff, Go.Addr.add, ↓reduceIte] at hx174_0)
                                      have qi174 : (6 < x14_2.length) = True := eq_true (by omega)
                                      (try rw [show ((6 : Int)).toNat = 6 from rfl] at hx174_0)
                                      replace p174 := eq_true p174
                                      replace q174 := eq_true q174
                                      try have q174m := eq_true (by have z_ := of_eq_true q174; simp only [ByteArray.size_extract, Nat.sub_zero] at z_; exact z_)
                                      refine start_ (n := 13) (S := fun w' => w'.cell? ⟨ad171.block, ad171.off + 5, none⟩ = some (.int .u32 (rd x14_2 5)) ∧ w'.cell? ⟨ad171.block, ad171.off + 6, none⟩ = some (.int .u32 (rd x14_2 6))) (ds := []) #[false, false, false, false, false, false, false, false, false, false, false, false, false] (by kernel_rfl) rfl rfl ⟨hx173_0, hx174_0⟩ (fun hHeld => ?_); refine with_tabW transeptref03_block.tab19 transeptref03_block.bits19 (fun HT_ HW_ => ?_)
                                      generalize wr.drew = w58 at HO_7 HO_14 HB hx173_0 hx174_0 hHeld ⊢
                                      refine pure_ (i := 0) (N := some 100) (v := ?_) (a' := ?_) #[true, false, false, false, false, false, false, false, false, false, false, false, false] rfl rfl (any_of HT_.out (by kernel_rfl)) (fun _ _ _ h => h) (Or.inl ⟨by rfl, ?_⟩) ?_ ?_
                                      rotate_left
                                      · intro w'
                                        go_simp
                                        with_reducible rfl
                                      rotate_left
                                      · simp only [Act.put, List.setIfInBounds_toArray, List.set_cons_zero, List.set_cons_succ, i64_w, i32_w]
                                        rfl
                                      refine pure_ (i := 1) (N := some 101) (v := ?_) (a' := ?_) #[true, true, false, false, false, false, false, false, false, false, false, false, false] rfl rfl (any_of HT_.out (by kernel_rfl)) (fun _ _ _ h => h) (Or.inl ⟨by rfl, ?_⟩) ?_ ?_
                                      rotate_left
                                      · intro w'
                                        go_simp
                                        with_reducible rfl
                                      rotate_left
                                      · simp only [Act.put, List.setIfInBounds_toArray, List.set_cons_zero, List.set_cons_succ, i64_w, i32_w]
                                        rfl
                                      refine pure_ (i := 2) (N := some 102) (v := ?_) (a' := ?_) #[true, true, true, false, false, false, false, false, false, false, false, false, false] rfl rfl (any_of HT_.out (by kernel_rfl)) (fun _ _ _ h => h) (Or.inl ⟨by rfl, ?_⟩) ?_ ?_
                                      rotate_left
                                      · intro w'
                                        go_simp
                                        with_reducible rfl
                                      rotate_left
                                      · simp only [Act.put, List.setIfInBounds_toArray, List.set_cons_zero, List.set_cons_succ, i64_w, i32_w]
                                        rfl
                                      refine pure_ (i := 5) (N := some 105) (v := ?_) (a' := ?_) #[true, true, true, false, false, true, false, false, false, false, false, false, false] rfl rfl (any_of HT_.out (by kernel_rfl)) (fun _ _ _ h => h) (Or.inl ⟨by rfl, ?_⟩) ?_ ?_
                                      rotate_left
                                      · intro w'
                                        go_simp
                                        with_reducible rfl
                                      rotate_left
                                      · simp only [Act.put, List.setIfInBounds_toArray, List.set_cons_zero, List.set_cons_succ, i64_w, i32_w]
                                        rfl
                                      refine pure_ (i := 6) (N := some 106) (v := ?_) (a' := ?_) #[true, true, true, false, false, true, true, false, false, false, false, false, false] rfl rfl (any_of HT_.out (by kernel_rfl)) (fun _ _ _ h => h) (Or.inl ⟨by rfl, ?_⟩) ?_ ?_
                                      rotate_left
                                      · intro w'
                                        go_simp
                                        with_reducible rfl
                                      rotate_left
                                      · simp only [Act.put, List.setIfInBounds_toArray, List.set_cons_zero, List.set_cons_succ, i64_w, i32_w]
                                        rfl
                                      refine pure_ (i := 7) (N := some 107) (v := ?_) (a' := ?_) #[true, true, true, false, false, true, true, true, false, false, false, false, false] rfl rfl (any_of HT_.out (by kernel_rfl)) (fun _ _ _ h => h) (Or.inl ⟨by rfl, ?_⟩) ?_ ?_
                                      rotate_left
                                      · intro w'
                                        go_simp
                                        with_reducible rfl
                                      rotate_left
                                      · simp only [Act.put, List.setIfInBounds_toArray, List.set_cons_zero, List.set_cons_succ, i64_w, i32_w]
                                        rfl
                                      refine pure_ (i := 8) (N := some 108) (v := ?_) (a' := ?_) #[true, true, true, false, false, true, true, true, true, false, false, false, false] rfl rfl (any_of HT_.out (by kernel_rfl)) (fun _ _ _ h => h) (Or.inl ⟨by rfl, ?_⟩) ?_ ?_
                                      rotate_left
                                      · intro w'
                                        go_simp
                                        with_reducible rfl
                                      rotate_left
                                      · simp only [Act.put, List.setIfInBounds_toArray, List.set_cons_zero, List.set_cons_succ, i64_w, i32_w]
                                        rfl
                                      refine take_ (i := 3) (N := some 103) (v := ?_) (a' := ?_) #[true, true, true, true, false, true, true, true, true, false, false, false, false] rfl rfl (take_ofW HT_.out HW_.out (by kernel_rfl)) (fun _ _ _ h => h) (Or.inl ⟨by rfl, ?_⟩) hHeld ?_ ?_
                                      rotate_left
                                      · rintro w' ⟨s0, s1⟩
                                        go_simp
                                        with_reducible rfl
                                      rotate_left
                                      · simp only [Act.put, List.setIfInBounds_toArray, List.set_cons_zero, List.set_cons_succ, i64_w, i32_w]
                                        rfl
                                      refine pure_ (i := 4) (N := some 104) (v := ?_) (a' := ?_) #[true, true, true, true, true, true, true, true, true, false, false, false, false] rfl rfl (any_of HT_.out (by kernel_rfl)) (fun _ _ _ h => h) (Or.inl ⟨by rfl, ?_⟩) ?_ ?_
                                      rotate_left
                                      · intro w'
                                        go_simp
                                        with_reducible rfl
                                      rotate_left
                                      · simp only [Act.put, List.setIfInBounds_toArray, List.set_cons_zero, List.set_cons_succ, i64_w, i32_w]
                                        rfl
                                      refine take_ (i := 9) (N := some 109) (v := ?_) (a' := ?_) #[true, true, true, true, true, true, true, true, true, true, false, false, false] rfl rfl (take_ofW HT_.out HW_.out (by kernel_rfl)) (fun _ _ _ h => h) (Or.inl ⟨by rfl, ?_⟩) hHeld ?_ ?_
                                      rotate_left
                                      · rintro w' ⟨s0, s1⟩
                                        go_simp
                                        with_reducible rfl
                                      rotate_left
                                      · simp only [Act.put, List.setIfInBounds_toArray, List.set_cons_zero, List.set_cons_succ, i64_w, i32_w]
                                        rfl
                                      refine pure_ (i := 10) (N := some 110) (v := ?_) (a' := ?_) #[true, true, true, true, true, true, true, true, true, true, true, false, false] rfl rfl (any_of HT_.out (by kernel_rfl)) (fun _ _ _ h => h) (Or.inl ⟨by rfl, ?_⟩) ?_ ?_
                                      rotate_left
                                      · intro w'
                                        go_simp
                                        with_reducible rfl
                                      rotate_left
                                      · simp only [Act.put, List.setIfInBounds_toArray, List.set_cons_zero, List.set_cons_succ, i64_w, i32_w]
                                        rfl
                                      refine pure_ (i := 11) (N := some 111) (v := ?_) (a' := ?_) #[true, true, true, true, true, true, true, true, true, true, true, true, false] rfl rfl (any_of HT_.out (by kernel_rfl)) (fun _ _ _ h => h) (Or.inl ⟨by rfl, ?_⟩) ?_ ?_
                                      rotate_left
                                      · intro w'
                                        go_simp
                                        with_reducible rfl
                                      rotate_left
                                      · simp only [Act.put, List.setIfInBounds_toArray, List.set_cons_zero, List.set_cons_succ, i64_w, i32_w]
                                        rfl
                                      refine pure_ (i := 12) (N := some 18) (v := ?_) (a' := ?_) #[true, true, true, true, true, true, true, true, true, true, true, true, true] rfl rfl (any_of HT_.out (by kernel_rfl)) (fun _ _ _ h => h) (Or.inl ⟨by rfl, ?_⟩) ?_ ?_
                                      rotate_left
                                      · intro w'
                                        go_simp
                                        with_reducible rfl
                                      rotate_left
                                      · simp only [Act.put, List.setIfInBounds_toArray, List.set_cons_zero, List.set_cons_succ, i64_w, i32_w]
                                        rfl
                                      refine done_ (done_of HT_.out (by kernel_rfl)) ?_
                                      try go_wp2
                                      have n0_ := Aside0.mk (Kd.R_drew HO_7.out)
                                      have n1_ := Aside0.mk (Kd.R_drew HO_14.out)
                                      have n2_ := Aside0.mk (below_drew1 HB.out)
                                      clear HO_7
                                      clear HO_14
                                      clear HB
                                      have HO_7 := n0_
                                      have HO_14 := n1_
                                      have HB := n2_
                                      clear n0_ n1_ n2_
                                      have p175 : 0 ≤ (1 : Int) := (by omega)
                                      have q175 : 1 < (x14_2.length : Int) := of_decide_eq_true (by first | (with_reducible assumption) | assumption)
                                      obtain ⟨ad175, e175, hx175_0⟩ := Kd.at_int (Kd.R_reads' HO_14.out).2.2 1 p175 q175
                                      obtain rfl : ad171 = ad175 := (by injection e175)
                                      (try simp only [show (1 : Int).toNat = 1 from rfl, Nat.reduceMul, Nat.reduceEqDiff, Go.Addr.add, ↓reduceIte] at hx175_0)
                                      have qi175 : (1 < x14_2.length) = True := eq_true (by omega)
                                      (try rw [show ((1 : Int)).toNat = 1 from rfl] at hx175_0)
                                      replace p175 := eq_true p175
                                      replace q175 := eq_true q175
                                      try have q175m := eq_true (by have z_ := of_eq_true q175; simp only [ByteArray.size_extract, Nat.sub_zero] at z_; exact z_)
                                      have p176 : 0 ≤ (2 : Int) := (by omega)
                                      have q176 : 2 < (x14_2.length : Int) := of_decide_eq_true (by first | (with_reducible assumption) | assumption)
                                      obtain ⟨ad176, e176, hx176_0⟩ := Kd.at_int (Kd.R_reads' HO_14.out).2.2 2 p176 q176
                                      obtain rfl : ad171 = ad176 := (by injection e176)
                                      (try simp only [show (2 : Int).toNat = 2 from rfl, Nat.reduceMul, Nat.reduceEqDiff, Go.Addr.add, ↓reduceIte] at hx176_0)
                                      have qi176 : (2 < x14_2.length) = True := eq_true (by omega)
                                      (try rw [show ((2 : Int)).toNat = 2 from rfl] at hx176_0)
                                      replace p176 := eq_true p176
                                      replace q176 := eq_true q176
                                      try have q176m := eq_true (by have z_ := of_eq_true q176; simp only [ByteArray.size_extract, Nat.sub_zero] at z_; exact z_)
                                      have p177 : 0 ≤ (1 : Int) := (by omega)
                                      have q177 : 1 < (x14_2.length : Int) := of_decide_eq_true (by first | (with_reducible assumption) | assumption)
                                      obtain ⟨ad177, e177, hx177_0⟩ := Kd.at_int (Kd.R_reads' HO_14.out).2.2 1 p177 q177
                                      obtain rfl : ad171 = ad177 := (by injection e177)
                                      (try simp only [show (1 : Int).toNat = 1 from rfl, Nat.reduceMul, Nat.reduceEqDiff, Go.Addr.add, ↓reduceIte] at hx177_0)
                                      have qi177 : (1 < x14_2.length) = True := eq_true (by omega)
                                      (try rw [show ((1 : Int)).toNat = 1 from rfl] at hx177_0)
                                      replace p177 := eq_true p177
                                      replace q177 := eq_true q177
                                      try have q177m := eq_true (by have z_ := of_eq_true q177; simp only [ByteArray.size_extract, Nat.sub_zero] at z_; exact z_)
                                      have p178 : 0 ≤ (2 : Int) := (by omega)
                                      have q178 : 2 < (x14_2.length : Int) := of_decide_eq_true (by first | (with_reducible assumption) | assumption)
                                      obtain ⟨ad178, e178, hx178_0⟩ := Kd.at_int (Kd.R_reads' HO_14.out).2.2 2 p178 q178
                                      obtain rfl : ad171 = ad178 := (by injection e178)
                                      (try simp only [show (2 : Int).toNat = 2 from rfl, Nat.reduceMul, Nat.reduceEqDiff, Go.Addr.add, ↓reduceIte] at hx178_0)
                                      have qi178 : (2 < x14_2.length) = True := eq_true (by omega)
                                      (try rw [show ((2 : Int)).toNat = 2 from rfl] at hx178_0)
                                      replace p178 := eq_true p178
                                      replace q178 := eq_true q178
                                      try have q178m := eq_true (by have z_ := of_eq_true q178; simp only [ByteArray.size_extract, Nat.sub_zero] at z_; exact z_)
                                      refine start_ (n := 20) (S := fun w' => w'.cell? ⟨ad171.block, ad171.off + 1, none⟩ = some (.int .u32 (rd x14_2 1)) ∧ w'.cell? ⟨ad171.block, ad171.off + 2, none⟩ = some (.int .u32 (rd x14_2 2)) ∧ w'.cell? ⟨ad171.block, ad171.off + 1, none⟩ = some (.int .u32 (rd x14_2 1)) ∧ w'.cell? ⟨ad171.block, ad171.off + 2, none⟩ = some (.int .u32 (rd x14_2 2))) (ds := []) #[false, false, false, false, false, false, false, false, false, false, false, false, false, false, false, false, false, false, false, false] (by kernel_rfl) rfl rfl ⟨hx175_0, hx176_0, hx177_0, hx178_0⟩ (fun hHeld => ?_); refine with_tabW transeptref03_block.tab20 transeptref03_block.bits20 (fun HT_ HW_ => ?_)
                                      generalize w58.drew = w59 at HO_7 HO_14 HB hx175_0 hx176_0 hx177_0 hx178_0 hHeld ⊢
                                      refine pure_ (i := 0) (N := some 112) (v := ?_) (a' := ?_) #[true, false, false, false, false, false, false, false, false, false, false, false, false, false, false, false, false, false, false, false] rfl rfl (any_of HT_.out (by kernel_rfl)) (fun _ _ _ h => h) (Or.inl ⟨by rfl, ?_⟩) ?_ ?_
                                      rotate_left
                                      · intro w'
                                        go_simp
                                        with_reducible rfl
                                      rotate_left
                                      · simp only [Act.put, List.setIfInBounds_toArray, List.set_cons_zero, List.set_cons_succ, i64_w, i32_w]
                                        rfl
                                      refine pure_ (i := 1) (N := some 113) (v := ?_) (a' := ?_) #[true, true, false, false, false, false, false, false, false, false, false, false, false, false, false, false, false, false, false, false] rfl rfl (any_of HT_.out (by kernel_rfl)) (fun _ _ _ h => h) (Or.inl ⟨by rfl, ?_⟩) ?_ ?_
                                      rotate_left
                                      · intro w'
                                        go_simp
                                        with_reducible rfl
                                      rotate_left
                                      · simp only [Act.put, List.setIfInBounds_toArray, List.set_cons_zero, List.set_cons_succ, i64_w, i32_w]
                                        rfl
                                      refine pure_ (i := 2) (N := some 114) (v := ?_) (a' := ?_) #[true, true, true, false, false, false, false, false, false, false, false, false, false, false, false, false, false, false, false, false] rfl rfl (any_of HT_.out (by kernel_rfl)) (fun _ _ _ h => h) (Or.inl ⟨by rfl, ?_⟩) ?_ ?_
                                      rotate_left
                                      · intro w'
                                        go_simp
                                        with_reducible rfl
                                      rotate_left
                                      · simp only [Act.put, List.setIfInBounds_toArray, List.set_cons_zero, List.set_cons_succ, i64_w, i32_w]
                                        rfl
                                      refine pure_ (i := 5) (N := some 117) (v := ?_) (a' := ?_) #[true, true, true, false, false, true, false, false, false, false, false, false, false, false, false, false, false, false, false, false] rfl rfl (any_of HT_.out (by kernel_rfl)) (fun _ _ _ h => h) (Or.inl ⟨by rfl, ?_⟩) ?_ ?_
                                      rotate_left
                                      · intro w'
                                        go_simp
                                        with_reducible rfl
                                      rotate_left
                                      · simp only [Act.put, List.setIfInBounds_toArray, List.set_cons_zero, List.set_cons_succ, i64_w, i32_w]
                                        rfl
                                      refine pure_ (i := 6) (N := some 118) (v := ?_) (a' := ?_) #[true, true, true, false, false, true, true, false, false, false, false, false, false, false, false, false, false, false, false, false] rfl rfl (any_of HT_.out (by kernel_rfl)) (fun _ _ _ h => h) (Or.inl ⟨by rfl, ?_⟩) ?_ ?_
                                      rotate_left
                                      · intro w'
                                        go_simp
                                        with_reducible rfl
                                      rotate_left
                                      · simp only [Act.put, List.setIfInBounds_toArray, List.set_cons_zero, List.set_cons_succ, i64_w, i32_w]
                                        rfl
                                      refine pure_ (i := 7) (N := some 119) (v := ?_) (a' := ?_) #[true, true, true, false, false, true, true, true, false, false, false, false, false, false, false, false, false, false, false, false] rfl rfl (any_of HT_.out (by kernel_rfl)) (fun _ _ _ h => h) (Or.inl ⟨by rfl, ?_⟩) ?_ ?_
                                      rotate_left
                                      · intro w'
                                        go_simp
                                        with_reducible rfl
                                      rotate_left
                                      · simp only [Act.put, List.setIfInBounds_toArray, List.set_cons_zero, List.set_cons_succ, i64_w, i32_w]
                                        rfl
                                      refine pure_ (i := 11) (N := some 123) (v := ?_) (a' := ?_) #[true, true, true, false, false, true, true, true, false, false, false, true, false, false, false, false, false, false, false, false] rfl rfl (any_of HT_.out (by kernel_rfl)) (fun _ _ _ h => h) (Or.inl ⟨by rfl, ?_⟩) ?_ ?_
                                      rotate_left
                                      · intro w'
                                        go_simp
                                        with_reducible rfl
                                      rotate_left
                                      · simp only [Act.put, List.setIfInBounds_toArray, List.set_cons_zero, List.set_cons_succ, i64_w, i32_w]
                                        rfl
                                      refine pure_ (i := 12) (N := some 124) (v := ?_) (a' := ?_) #[true, true, true, false, false, true, true, true, false, false, false, true, true, false, false, false, false, false, false, false] rfl rfl (any_of HT_.out (by kernel_rfl)) (fun _ _ _ h => h) (Or.inl ⟨by rfl, ?_⟩) ?_ ?_
                                      rotate_left
                                      · intro w'
                                        go_simp
                                        with_reducible rfl
                                      rotate_left
                                      · simp only [Act.put, List.setIfInBounds_toArray, List.set_cons_zero, List.set_cons_succ, i64_w, i32_w]
                                        rfl
                                      refine pure_ (i := 14) (N := some 126) (v := ?_) (a' := ?_) #[true, true, true, false, false, true, true, true, false, false, false, true, true, false, true, false, false, false, false, false] rfl rfl (any_of HT_.out (by kernel_rfl)) (fun _ _ _ h => h) (Or.inl ⟨by rfl, ?_⟩) ?_ ?_
                                      rotate_left
                                      · intro w'
                                        go_simp
                                        with_reducible rfl
                                      rotate_left
                                      · simp only [Act.put, List.setIfInBounds_toArray, List.set_cons_zero, List.set_cons_succ, i64_w, i32_w]
                                        rfl
                                      refine pure_ (i := 15) (N := some 127) (v := ?_) (a' := ?_) #[true, true, true, false, false, true, true, true, false, false, false, true, true, false, true, true, false, false, false, false] rfl rfl (any_of HT_.out (by kernel_rfl)) (fun _ _ _ h => h) (Or.inl ⟨by rfl, ?_⟩) ?_ ?_
                                      rotate_left
                                      · intro w'
                                        go_simp
                                        with_reducible rfl
                                      rotate_left
                                      · simp only [Act.put, List.setIfInBounds_toArray, List.set_cons_zero, List.set_cons_succ, i64_w, i32_w]
                                        rfl
                                      refine take_ (i := 3) (N := some 115) (v := ?_) (a' := ?_) #[true, true, true, true, false, true, true, true, false, false, false, true, true, false, true, true, false, false, false, false] rfl rfl (take_ofW HT_.out HW_.out (by kernel_rfl)) (fun _ _ _ h => h) (Or.inl ⟨by rfl, ?_⟩) hHeld ?_ ?_
                                      rotate_left
                                      · rintro w' ⟨s0, s1, s2, s3⟩
                                        go_simp
                                        with_reducible rfl
                                      rotate_left
                                      · simp only [Act.put, List.setIfInBounds_toArray, List.set_cons_zero, List.set_cons_succ, i64_w, i32_w]
                                        rfl
                                      refine pure_ (i := 4) (N := some 116) (v := ?_) (a' := ?_) #[true, true, true, true, true, true, true, true, false, false, false, true, true, false, true, true, false, false, false, false] rfl rfl (any_of HT_.out (by kernel_rfl)) (fun _ _ _ h => h) (Or.inl ⟨by rfl, ?_⟩) ?_ ?_
                                      rotate_left
                                      · intro w'
                                        go_simp
                                        with_reducible rfl
                                      rotate_left
                                      · simp only [Act.put, List.setIfInBounds_toArray, List.set_cons_zero, List.set_cons_succ, i64_w, i32_w]
                                        rfl
                                      refine take_ (i := 8) (N := some 120) (v := ?_) (a' := ?_) #[true, true, true, true, true, true, true, true, true, false, false, true, true, false, true, true, false, false, false, false] rfl rfl (take_ofW HT_.out HW_.out (by kernel_rfl)) (fun _ _ _ h => h) (Or.inl ⟨by rfl, ?_⟩) hHeld ?_ ?_
                                      rotate_left
                                      · rintro w' ⟨s0, s1, s2, s3⟩
                                        go_simp
                                        with_reducible rfl
                                      rotate_left
                                      · simp only [Act.put, List.setIfInBounds_toArray, List.set_cons_zero, List.set_cons_succ, i64_w, i32_w]
                                        rfl
                                      refine pure_ (i := 9) (N := some 121) (v := ?_) (a' := ?_) #[true, true, true, true, true, true, true, true, true, true, false, true, true, false, true, true, false, false, false, false] rfl rfl (any_of HT_.out (by kernel_rfl)) (fun _ _ _ h => h) (Or.inl ⟨by rfl, ?_⟩) ?_ ?_
                                      rotate_left
                                      · intro w'
                                        go_simp
                                        with_reducible rfl
                                      rotate_left
                                      · simp only [Act.put, List.setIfInBounds_toArray, List.set_cons_zero, List.set_cons_succ, i64_w, i32_w]
                                        rfl
                                      refine pure_ (i := 10) (N := some 122) (v := ?_) (a' := ?_) #[true, true, true, true, true, true, true, true, true, true, true, true, true, false, true, true, false, false, false, false] rfl rfl (any_of HT_.out (by kernel_rfl)) (fun _ _ _ h => h) (Or.inl ⟨by rfl, ?_⟩) ?_ ?_
                                      rotate_left
                                      · intro w'
                                        go_simp
                                        with_reducible rfl
                                      rotate_left
                                      · simp only [Act.put, List.setIfInBounds_toArray, List.set_cons_zero, List.set_cons_succ, i64_w, i32_w]
                                        rfl
                                      refine take_ (i := 13) (N := some 125) (v := ?_) (a' := ?_) #[true, true, true, true, true, true, true, true, true, true, true, true, true, true, true, true, false, false, false, false] rfl rfl (take_ofW HT_.out HW_.out (by kernel_rfl)) (fun _ _ _ h => h) (Or.inl ⟨by rfl, ?_⟩) hHeld ?_ ?_
                                      rotate_left
                                      · rintro w' ⟨s0, s1, s2, s3⟩
                                        go_simp
                                        with_reducible rfl
                                      rotate_left
                                      · simp only [Act.put, List.setIfInBounds_toArray, List.set_cons_zero, List.set_cons_succ, i64_w, i32_w]
                                        rfl
                                      refine take_ (i := 16) (N := some 128) (v := ?_) (a' := ?_) #[true, true, true, true, true, true, true, true, true, true, true, true, true, true, true, true, true, false, false, false] rfl rfl (take_ofW HT_.out HW_.out (by kernel_rfl)) (fun _ _ _ h => h) (Or.inl ⟨by rfl, ?_⟩) hHeld ?_ ?_
                                      rotate_left
                                      · rintro w' ⟨s0, s1, s2, s3⟩
                                        go_simp
                                        with_reducible rfl
                                      rotate_left
                                      · simp only [Act.put, List.setIfInBounds_toArray, List.set_cons_zero, List.set_cons_succ, i64_w, i32_w]
                                        rfl
                                      refine pure_ (i := 17) (N := some 129) (v := ?_) (a' := ?_) #[true, true, true, true, true, true, true, true, true, true, true, true, true, true, true, true, true, true, false, false] rfl rfl (any_of HT_.out (by kernel_rfl)) (fun _ _ _ h => h) (Or.inl ⟨by rfl, ?_⟩) ?_ ?_
                                      rotate_left
                                      · intro w'
                                        go_simp
                                        with_reducible rfl
                                      rotate_left
                                      · simp only [Act.put, List.setIfInBounds_toArray, List.set_cons_zero, List.set_cons_succ, i64_w, i32_w]
                                        rfl
                                      refine pure_ (i := 18) (N := some 130) (v := ?_) (a' := ?_) #[true, true, true, true, true, true, true, true, true, true, true, true, true, true, true, true, true, true, true, false] rfl rfl (any_of HT_.out (by kernel_rfl)) (fun _ _ _ h => h) (Or.inl ⟨by rfl, ?_⟩) ?_ ?_
                                      rotate_left
                                      · intro w'
                                        go_simp
                                        with_reducible rfl
                                      rotate_left
                                      · simp only [Act.put, List.setIfInBounds_toArray, List.set_cons_zero, List.set_cons_succ, i64_w, i32_w]
                                        rfl
                                      refine pure_ (i := 19) (N := some 19) (v := ?_) (a' := ?_) #[true, true, true, true, true, true, true, true, true, true, true, true, true, true, true, true, true, true, true, true] rfl rfl (any_of HT_.out (by kernel_rfl)) (fun _ _ _ h => h) (Or.inl ⟨by rfl, ?_⟩) ?_ ?_
                                      rotate_left
                                      · intro w'
                                        go_simp
                                        with_reducible rfl
                                      rotate_left
                                      · simp only [Act.put, List.setIfInBounds_toArray, List.set_cons_zero, List.set_cons_succ, i64_w, i32_w]
                                        rfl
                                      refine done_ (done_of HT_.out (by kernel_rfl)) ?_
                                      try go_wp2
                                      have n0_ := Aside0.mk (Kd.R_drew HO_7.out)
                                      have n1_ := Aside0.mk (Kd.R_drew HO_14.out)
                                      have n2_ := Aside0.mk (below_drew1 HB.out)
                                      clear HO_7
                                      clear HO_14
                                      clear HB
                                      have HO_7 := n0_
                                      have HO_14 := n1_
                                      have HB := n2_
                                      clear n0_ n1_ n2_
                                      have p179 : 0 ≤ (7 : Int) := (by omega)
                                      have q179 : 7 < (x14_2.length : Int) := of_decide_eq_true (by first | (with_reducible assumption) | assumption)
                                      obtain ⟨ad179, e179, hx179_0⟩ := Kd.at_int (Kd.R_reads' HO_14.out).2.2 7 p179 q179
                                      obtain rfl : ad171 = ad179 := (by injection e179)
                                      (try simp only [show (7 : Int).toNat = 7 from rfl, Nat.reduceMul, Nat.reduceEqDiff, Go.Addr.add, ↓reduceIte] at hx179_0)
                                      have qi179 : (7 < x14_2.length) = True := eq_true (by omega)
                                      (try rw [show ((7 : Int)).toNat = 7 from rfl] at hx179_0)
                                      replace p179 := eq_true p179
                                      replace q179 := eq_true q179
                                      try have q179m := eq_true (by have z_ := of_eq_true q179; simp only [ByteArray.size_extract, Nat.sub_zero] at z_; exact z_)
                                      have p183 : 0 ≤ (x15_2 : Int) := of_decide_eq_true (by first | (with_reducible assumption) | assumption)
                                      have q183 : x15_2 < (l2.length : Int) := of_decide_eq_true (by first | (with_reducible assumption) | assumption)
                                      obtain ⟨ad183, e183, hx183_0⟩ := Kd.at_int HR2.out x15_2 p183 q183
                                      have hw183_0 := hx183_0
                                      cases e183
                                      replace hx183_0 := (HB.out.cell (World.block_lt_of_cell? w _ hx183_0)).trans hx183_0
                                      replace p183 := eq_true p183
                                      replace q183 := eq_true q183
                                      try have q183m := eq_true (by have z_ := of_eq_true q183; simp only [ByteArray.size_extract, Nat.sub_zero] at z_; exact z_)
                                      obtain ⟨Ao61, co61, eo61⟩ := Kd.R_slice HO_7.out
                                      (first | subst eo61 | (injection eo61 with f1_ f2_ f3_; have f4_ := f1_.symm; have f5_ := f3_.symm; clear f1_ f2_ f3_; subst f4_; subst f5_))
                                      have p184 : 0 ≤ (x15_2 : Int) := of_decide_eq_true (by first | (with_reducible assumption) | assumption)
                                      have q184 : x15_2 < (x7_1.length : Int) := of_decide_eq_true (by first | (with_reducible assumption) | assumption)
                                      obtain ⟨ad184, e184, hx184_0⟩ := Kd.at_int (Kd.R_reads' HO_7.out).2.2 x15_2 p184 q184
                                      cases e184
                                      replace p184 := eq_true p184
                                      replace q184 := eq_true q184
                                      try have q184m := eq_true (by have z_ := of_eq_true q184; simp only [ByteArray.size_extract, Nat.sub_zero] at z_; exact z_)
                                      refine start_ (n := 25) (S := fun w' => w'.cell? ⟨ad171.block, ad171.off + 7, none⟩ = some (.int .u32 (rd x14_2 7)) ∧ w'.cell? (ad183.add (x15_2).toNat) = some (.int .u32 (rd l2 x15_2)) ∧ w'.cell? (ad184.add (x15_2).toNat) = some (.int .u32 (rd x7_1 x15_2))) (ds := []) #[false, false, false, false, false, false, false, false, false, false, false, false, false, false, false, false, false, false, false, false, false, false, false, false, false] (by kernel_rfl) rfl rfl ⟨hx179_0, ((HB.out.cell (World.block_lt_of_cell? w _ hw183_0)).trans hw183_0), hx184_0⟩ (fun hHeld => ?_); refine with_tabW transeptref03_block.tab21 transeptref03_block.bits21 (fun HT_ HW_ => ?_)
                                      generalize w59.drew = w60 at HO_7 HO_14 HB hx179_0 hx183_0 hx184_0 hHeld ⊢
                                      refine pure_ (i := 0) (N := some 131) (v := ?_) (a' := ?_) #[true, false, false, false, false, false, false, false, false, false, false, false, false, false, false, false, false, false, false, false, false, false, false, false, false] rfl rfl (any_of HT_.out (by kernel_rfl)) (fun _ _ _ h => h) (Or.inl ⟨by rfl, ?_⟩) ?_ ?_
                                      rotate_left
                                      · intro w'
                                        go_simp
                                        with_reducible rfl
                                      rotate_left
                                      · simp only [Act.put, List.setIfInBounds_toArray, List.set_cons_zero, List.set_cons_succ, i64_w, i32_w]
                                        rfl
                                      refine pure_ (i := 1) (N := some 132) (v := ?_) (a' := ?_) #[true, true, false, false, false, false, false, false, false, false, false, false, false, false, false, false, false, false, false, false, false, false, false, false, false] rfl rfl (any_of HT_.out (by kernel_rfl)) (fun _ _ _ h => h) (Or.inl ⟨by rfl, ?_⟩) ?_ ?_
                                      rotate_left
                                      · intro w'
                                        go_simp
                                        with_reducible rfl
                                      rotate_left
                                      · simp only [Act.put, List.setIfInBounds_toArray, List.set_cons_zero, List.set_cons_succ, i64_w, i32_w]
                                        rfl
                                      refine pure_ (i := 3) (N := some 134) (v := ?_) (a' := ?_) #[true, true, false, true, false, false, false, false, false, false, false, false, false, false, false, false, false, false, false, false, false, false, false, false, false] rfl rfl (any_of HT_.out (by kernel_rfl)) (fun _ _ _ h => h) (Or.inl ⟨by rfl, ?_⟩) ?_ ?_
                                      rotate_left
                                      · intro w'
                                        go_simp
                                        with_reducible rfl
                                      rotate_left
                                      · simp only [Act.put, List.setIfInBounds_toArray, List.set_cons_zero, List.set_cons_succ, i64_w, i32_w]
                                        rfl
                                      refine pure_ (i := 5) (N := some 136) (v := ?_) (a' := ?_) #[true, true, false, true, false, true, false, false, false, false, false, false, false, false, false, false, false, false, false, false, false, false, false, false, false] rfl rfl (any_of HT_.out (by kernel_rfl)) (fun _ _ _ h => h) (Or.inl ⟨by rfl, ?_⟩) ?_ ?_
                                      rotate_left
                                      · intro w'
                                        go_simp
                                        with_reducible rfl
                                      rotate_left
                                      · simp only [Act.put, List.setIfInBounds_toArray, List.set_cons_zero, List.set_cons_succ, i64_w, i32_w]
                                        rfl
                                      refine pure_ (i := 8) (N := some 139) (v := ?_) (a' := ?_) #[true, true, false, true, false, true, false, false, true, false, false, false, false, false, false, false, false, false, false, false, false, false, false, false, false] rfl rfl (any_of HT_.out (by kernel_rfl)) (fun _ _ _ h => h) (Or.inl ⟨by rfl, ?_⟩) ?_ ?_
                                      rotate_left
                                      · intro w'
                                        go_simp
                                        with_reducible rfl
                                      rotate_left
                                      · simp only [Act.put, List.setIfInBounds_toArray, List.set_cons_zero, List.set_cons_succ, i64_w, i32_w]
                                        rfl
                                      refine pure_ (i := 12) (N := some 143) (v := ?_) (a' := ?_) #[true, true, false, true, false, true, false, false, true, false, false, false, true, false, false, false, false, false, false, false, false, false, false, false, false] rfl rfl (any_of HT_.out (by kernel_rfl)) (fun _ _ _ h => h) (Or.inl ⟨by rfl, ?_⟩) ?_ ?_
                                      rotate_left
                                      · intro w'
                                        go_simp
                                        with_reducible rfl
                                      rotate_left
                                      · simp only [Act.put, List.setIfInBounds_toArray, List.set_cons_zero, List.set_cons_succ, i64_w, i32_w]
                                        rfl
                                      refine pure_ (i := 14) (N := some 145) (v := ?_) (a' := ?_) #[true, true, false, true, false, true, false, false, true, false, false, false, true, false, true, false, false, false, false, false, false, false, false, false, false] rfl rfl (any_of HT_.out (by kernel_rfl)) (fun _ _ _ h => h) (Or.inl ⟨by rfl, ?_⟩) ?_ ?_
                                      rotate_left
                                      · intro w'
                                        go_simp
                                        with_reducible rfl
                                      rotate_left
                                      · simp only [Act.put, List.setIfInBounds_toArray, List.set_cons_zero, List.set_cons_succ, i64_w, i32_w]
                                        rfl
                                      refine pure_ (i := 15) (N := some 146) (v := ?_) (a' := ?_) #[true, true, false, true, false, true, false, false, true, false, false, false, true, false, true, true, false, false, false, false, false, false, false, false, false] rfl rfl (any_of HT_.out (by kernel_rfl)) (fun _ _ _ h => h) (Or.inl ⟨by rfl, ?_⟩) ?_ ?_
                                      rotate_left
                                      · intro w'
                                        go_simp
                                        with_reducible rfl
                                      rotate_left
                                      · simp only [Act.put, List.setIfInBounds_toArray, List.set_cons_zero, List.set_cons_succ, i64_w, i32_w]
                                        rfl
                                      refine pure_ (i := 16) (N := some 147) (v := ?_) (a' := ?_) #[true, true, false, true, false, true, false, false, true, false, false, false, true, false, true, true, true, false, false, false, false, false, false, false, false] rfl rfl (any_of HT_.out (by kernel_rfl)) (fun _ _ _ h => h) (Or.inl ⟨by rfl, ?_⟩) ?_ ?_
                                      rotate_left
                                      · intro w'
                                        go_simp
                                        with_reducible rfl
                                      rotate_left
                                      · simp only [Act.put, List.setIfInBounds_toArray, List.set_cons_zero, List.set_cons_succ, i64_w, i32_w]
                                        rfl
                                      refine pure_ (i := 19) (N := some 150) (v := ?_) (a' := ?_) #[true, true, false, true, false, true, false, false, true, false, false, false, true, false, true, true, true, false, false, true, false, false, false, false, false] rfl rfl (any_of HT_.out (by kernel_rfl)) (fun _ _ _ h => h) (Or.inl ⟨by rfl, ?_⟩) ?_ ?_
                                      rotate_left
                                      · intro w'
                                        go_simp
                                        with_reducible rfl
                                      rotate_left
                                      · simp only [Act.put, List.setIfInBounds_toArray, List.set_cons_zero, List.set_cons_succ, i64_w, i32_w]
                                        rfl
                                      refine pure_ (i := 20) (N := some 151) (v := ?_) (a' := ?_) #[true, true, false, true, false, true, false, false, true, false, false, false, true, false, true, true, true, false, false, true, true, false, false, false, false] rfl rfl (any_of HT_.out (by kernel_rfl)) (fun _ _ _ h => h) (Or.inl ⟨by rfl, ?_⟩) ?_ ?_
                                      rotate_left
                                      · intro w'
                                        go_simp
                                        with_reducible rfl
                                      rotate_left
                                      · simp only [Act.put, List.setIfInBounds_toArray, List.set_cons_zero, List.set_cons_succ, i64_w, i32_w]
                                        rfl
                                      refine pure_ (i := 21) (N := some 152) (v := ?_) (a' := ?_) #[true, true, false, true, false, true, false, false, true, false, false, false, true, false, true, true, true, false, false, true, true, true, false, false, false] rfl rfl (any_of HT_.out (by kernel_rfl)) (fun _ _ _ h => h) (Or.inl ⟨by rfl, ?_⟩) ?_ ?_
                                      rotate_left
                                      · intro w'
                                        go_simp
                                        with_reducible rfl
                                      rotate_left
                                      · simp only [Act.put, List.setIfInBounds_toArray, List.set_cons_zero, List.set_cons_succ, i64_w, i32_w]
                                        rfl
                                      refine take_ (i := 2) (N := some 133) (v := ?_) (a' := ?_) #[true, true, true, true, false, true, false, false, true, false, false, false, true, false, true, true, true, false, false, true, true, true, false, false, false] rfl rfl (take_ofW HT_.out HW_.out (by kernel_rfl)) (fun _ _ _ h => h) (Or.inl ⟨by rfl, ?_⟩) hHeld ?_ ?_
                                      rotate_left
                                      · rintro w' ⟨s0, s1, s2⟩
                                        go_simp
                                        with_reducible rfl
                                      rotate_left
                                      · simp only [Act.put, List.setIfInBounds_toArray, List.set_cons_zero, List.set_cons_succ, i64_w, i32_w]
                                        rfl
                                      refine take_ (i := 17) (N := some 148) (v := ?_) (a' := ?_) #[true, true, true, true, false, true, false, false, true, false, false, false, true, false, true, true, true, true, false, true, true, true, false, false, false] rfl rfl (take_ofW HT_.out HW_.out (by kernel_rfl)) (fun _ _ _ h => h) (Or.inl ⟨by rfl, ?_⟩) hHeld ?_ ?_
                                      rotate_left
                                      · rintro w' ⟨s0, s1, s2⟩
                                        go_simp
                                        with_reducible rfl
                                      rotate_left
                                      · simp only [Act.put, List.setIfInBounds_toArray, List.set_cons_zero, List.set_cons_succ, i64_w, i32_w]
                                        rfl
                                      refine take_ (i := 22) (N := some 153) (v := ?_) (a' := ?_) #[true, true, true, true, false, true, false, false, true, false, false, false, true, false, true, true, true, true, false, true, true, true, true, false, false] rfl rfl (take_ofW HT_.out HW_.out (by kernel_rfl)) (fun _ _ _ h => h) (Or.inl ⟨by rfl, ?_⟩) hHeld ?_ ?_
                                      rotate_left
                                      · rintro w' ⟨s0, s1, s2⟩
                                        go_simp
                                        with_reducible rfl
                                      rotate_left
                                      · simp only [Act.put, List.setIfInBounds_toArray, List.set_cons_zero, List.set_cons_succ, i64_w, i32_w]
                                        rfl
                                      refine one_ (i := 4) (N := some 135) #[true, true, true, true, true, true, false, false, true, false, false, false, true, false, true, true, true, true, false, true, true, true, true, false, false] rfl rfl (one_of HT_.out (by kernel_rfl)) (by decide) (fun K hK => ?_)
                                      refine goes_ Tryd.func26 (by kernel_rfl) rfl #[.int .u32 (rd x14_2 4), .int .u64 6] (by rfl) rfl rfl (by (try simp only [List.map_toArray, List.map_cons, List.map_nil]); first | done | rfl | (simp only [List.length_drop, List.length_take]; rfl)) ?_
                                      with_reducible refine (transeptref03_right.calls (rd x14_2 4) 6 t180 _ A47.out).mono ?_
                                      rintro e w' ⟨rfl, ⟨nd, rfl⟩⟩
                                      refine ⟨_, rfl, ?_⟩
                                      refine hK.out _ _ ⟨hHeld.1, ((HB.out.cell (World.block_lt_of_cell? w _ hw183_0)).trans hw183_0), hHeld.2.2⟩ (fun hHeld => ?_)
                                      clear hK K
                                      refine norm_ (a' := ?_) ?_ ?_
                                      rotate_left
                                      · show Act.put _ (some 135) _ = _
                                        simp only [Act.put, List.setIfInBounds_toArray, List.set_cons_zero, List.set_cons_succ, i64_w, i32_w]
                                        rfl
                                      refine one_ (i := 6) (N := some 137) #[true, true, true, true, true, true, true, false, true, false, false, false, true, false, true, true, true, true, false, true, true, true, true, false, false] rfl rfl (one_of HT_.out (by kernel_rfl)) (by decide) (fun K hK => ?_)
                                      refine goes_ Tryd.func26 (by kernel_rfl) rfl #[.int .u32 (rd x14_2 4), .int .u64 11] (by rfl) rfl rfl (by (try simp only [List.map_toArray, List.map_cons, List.map_nil]); first | done | rfl | (simp only [List.length_drop, List.length_take]; rfl)) ?_
                                      with_reducible refine (transeptref03_right.calls (rd x14_2 4) 11 t181 _ A48.out).mono ?_
                                      rintro e w' ⟨rfl, ⟨nd, rfl⟩⟩
                                      refine ⟨_, rfl, ?_⟩
                                      refine hK.out _ _ ⟨hHeld.1, ((HB.out.cell (World.block_lt_of_cell? w _ hw183_0)).trans hw183_0), hHeld.2.2⟩ (fun hHeld => ?_)
                                      clear hK K
                                      refine norm_ (a' := ?_) ?_ ?_
                                      rotate_left
                                      · show Act.put _ (some 137) _ = _
                                        simp only [Act.put, List.setIfInBounds_toArray, List.set_cons_zero, List.set_cons_succ, i64_w, i32_w]
                                        rfl
                                      refine pure_ (i := 7) (N := some 138) (v := ?_) (a' := ?_) #[true, true, true, true, true, true, true, true, true, false, false, false, true, false, true, true, true, true, false, true, true, true, true, false, false] rfl rfl (any_of HT_.out (by kernel_rfl)) (fun _ _ _ h => h) (Or.inl ⟨by rfl, ?_⟩) ?_ ?_
                                      rotate_left
                                      · intro w'
                                        go_simp
                                        with_reducible rfl
                                      rotate_left
                                      · simp only [Act.put, List.setIfInBounds_toArray, List.set_cons_zero, List.set_cons_succ, i64_w, i32_w]
                                        rfl
                                      refine one_ (i := 9) (N := some 140) #[true, true, true, true, true, true, true, true, true, true, false, false, true, false, true, true, true, true, false, true, true, true, true, false, false] rfl rfl (one_of HT_.out (by kernel_rfl)) (by decide) (fun K hK => ?_)
                                      refine goes_ Tryd.func26 (by kernel_rfl) rfl #[.int .u32 (rd x14_2 4), .int .u64 25] (by rfl) rfl rfl (by (try simp only [List.map_toArray, List.map_cons, List.map_nil]); first | done | rfl | (simp only [List.length_drop, List.length_take]; rfl)) ?_
                                      with_reducible refine (transeptref03_right.calls (rd x14_2 4) 25 t182 _ A49.out).mono ?_
                                      rintro e w' ⟨rfl, ⟨nd, rfl⟩⟩
                                      refine ⟨_, rfl, ?_⟩
                                      refine hK.out _ _ ⟨hHeld.1, ((HB.out.cell (World.block_lt_of_cell? w _ hw183_0)).trans hw183_0), hHeld.2.2⟩ (fun hHeld => ?_)
                                      clear hK K
                                      refine norm_ (a' := ?_) ?_ ?_
                                      rotate_left
                                      · show Act.put _ (some 140) _ = _
                                        simp only [Act.put, List.setIfInBounds_toArray, List.set_cons_zero, List.set_cons_succ, i64_w, i32_w]
                                        rfl
                                      refine pure_ (i := 10) (N := some 141) (v := ?_) (a' := ?_) #[true, true, true, true, true, true, true, true, true, true, true, false, true, false, true, true, true, true, false, true, true, true, true, false, false] rfl rfl (any_of HT_.out (by kernel_rfl)) (fun _ _ _ h => h) (Or.inl ⟨by rfl, ?_⟩) ?_ ?_
                                      rotate_left
                                      · intro w'
                                        go_simp
                                        with_reducible rfl
                                      rotate_left
                                      · simp only [Act.put, List.setIfInBounds_toArray, List.set_cons_zero, List.set_cons_succ, i64_w, i32_w]
                                        rfl
                                      refine pure_ (i := 11) (N := some 142) (v := ?_) (a' := ?_) #[true, true, true, true, true, true, true, true, true, true, true, true, true, false, true, true, true, true, false, true, true, true, true, false, false] rfl rfl (any_of HT_.out (by kernel_rfl)) (fun _ _ _ h => h) (Or.inl ⟨by rfl, ?_⟩) ?_ ?_
                                      rotate_left
                                      · intro w'
                                        go_simp
                                        with_reducible rfl
                                      rotate_left
                                      · simp only [Act.put, List.setIfInBounds_toArray, List.set_cons_zero, List.set_cons_succ, i64_w, i32_w]
                                        rfl
                                      refine pure_ (i := 13) (N := some 144) (v := ?_) (a' := ?_) #[true, true, true, true, true, true, true, true, true, true, true, true, true, true, true, true, true, true, false, true, true, true, true, false, false] rfl rfl (any_of HT_.out (by kernel_rfl)) (fun _ _ _ h => h) (Or.inl ⟨by rfl, ?_⟩) ?_ ?_
                                      rotate_left
                                      · intro w'
                                        go_simp
                                        with_reducible rfl
                                      rotate_left
                                      · simp only [Act.put, List.setIfInBounds_toArray, List.set_cons_zero, List.set_cons_succ, i64_w, i32_w]
                                        rfl
                                      refine pure_ (i := 18) (N := some 149) (v := ?_) (a' := ?_) #[true, true, true, true, true, true, true, true, true, true, true, true, true, true, true, true, true, true, true, true, true, true, true, false, false] rfl rfl (any_of HT_.out (by kernel_rfl)) (fun _ _ _ h => h) (Or.inl ⟨by rfl, ?_⟩) ?_ ?_
                                      rotate_left
                                      · intro w'
                                        go_simp
                                        with_reducible rfl
                                      rotate_left
                                      · simp only [Act.put, List.setIfInBounds_toArray, List.set_cons_zero, List.set_cons_succ, i64_w, i32_w]
                                        rfl
                                      refine pure_ (i := 23) (N := some 154) (v := ?_) (a' := ?_) #[true, true, true, true, true, true, true, true, true, true, true, true, true, true, true, true, true, true, true, true, true, true, true, true, false] rfl rfl (any_of HT_.out (by kernel_rfl)) (fun _ _ _ h => h) (Or.inl ⟨by rfl, ?_⟩) ?_ ?_
                                      rotate_left
                                      · intro w'
                                        go_simp
                                        with_reducible rfl
                                      rotate_left
                                      · simp only [Act.put, List.setIfInBounds_toArray, List.set_cons_zero, List.set_cons_succ, i64_w, i32_w]
                                        rfl
                                      refine pure_ (i := 24) (N := some 20) (v := ?_) (a' := ?_) #[true, true, true, true, true, true, true, true, true, true, true, true, true, true, true, true, true, true, true, true, true, true, true, true, true] rfl rfl (any_of HT_.out (by kernel_rfl)) (fun _ _ _ h => h) (Or.inl ⟨by rfl, ?_⟩) ?_ ?_
                                      rotate_left
                                      · intro w'
                                        go_simp
                                        with_reducible rfl
                                      rotate_left
                                      · simp only [Act.put, List.setIfInBounds_toArray, List.set_cons_zero, List.set_cons_succ, i64_w, i32_w]
                                        rfl
                                      refine done_ (done_of HT_.out (by kernel_rfl)) ?_
                                      try go_wp2_with (first | ((with_reducible refine gate_callee (f := 26) rfl ?_); refine goesL_ (some 156) rfl rfl Tryd.func26 (by kernel_rfl) rfl #[.int .u32 (rd x14_2 0), .int .u64 2] rfl (by (try simp only [List.map_toArray, List.map_cons, List.map_nil]); first | done | rfl | (simp only [List.length_drop, List.length_take]; rfl)) ?_; (with_reducible refine (transeptref03_right.calls (rd x14_2 0) 2 t185 _ A53.out).mono ?_); rintro e w' ⟨rfl, ⟨nd, rfl⟩⟩; refine ⟨_, rfl, ?_⟩) | ((with_reducible refine gate_callee (f := 26) rfl ?_); refine goesL_ (some 158) rfl rfl Tryd.func26 (by kernel_rfl) rfl #[.int .u32 (rd x14_2 0), .int .u64 13] rfl (by (try simp only [List.map_toArray, List.map_cons, List.map_nil]); first | done | rfl | (simp only [List.length_drop, List.length_take]; rfl)) ?_; (with_reducible refine (transeptref03_right.calls (rd x14_2 0) 13 t186 _ A54.out).mono ?_); rintro e w' ⟨rfl, ⟨nd, rfl⟩⟩; refine ⟨_, rfl, ?_⟩) | ((with_reducible refine gate_callee (f := 26) rfl ?_); refine goesL_ (some 161) rfl rfl Tryd.func26 (by kernel_rfl) rfl #[.int .u32 (rd x14_2 0), .int .u64 22] rfl (by (try simp only [List.map_toArray, List.map_cons, List.map_nil]); first | done | rfl | (simp only [List.length_drop, List.length_take]; rfl)) ?_; (with_reducible refine (transeptref03_right.calls (rd x14_2 0) 22 t187 _ A55.out).mono ?_); rintro e w' ⟨rfl, ⟨nd, rfl⟩⟩; refine ⟨_, rfl, ?_⟩))
                                      (try (rw [drewN_self w60]; generalize hq_ : World.drewN w60 _ = w60; have n0_ : Aside0 (Kd.R (Kd.int .u32) 33 w60 w.heap.size (fun k_ => some k_ ≠ (.slice (some ad184) x7_1.length co61 : Value).ownBlock) (.slice (some ad171) x14_2.length co57) x14_2) := ⟨by rw [← hq_]; exact (by (with_reducible repeat (first | apply Kd.R_alloc | apply Kd.R_drewN | apply Kd.R_drew)); exact HO_14.out)⟩; have n1_ : Aside0 (Kd.R (Kd.int .u32) 33 w60 w.heap.size (fun k_ => some k_ ≠ (.slice (some ad171) x14_2.length co57 : Value).ownBlock) (.slice (some ad184) x7_1.length co61) x7_1) := ⟨by rw [← hq_]; exact (by (with_reducible repeat (first | apply Kd.R_alloc | apply Kd.R_drewN | apply Kd.R_drew)); exact HO_7.out)⟩; have n2_ : Aside0 (Below w.heap.size w w60) := ⟨by rw [← hq_]; exact (by repeat (first | (with_reducible first | exact HB.out | apply below_alloc | apply pw_below_drewN | apply below_drew1) | exact HB.out))⟩; clear HO_14 HO_7 HB hq_; have HO_14 := n0_; have HO_7 := n1_; have HB := n2_; clear n0_ n1_ n2_))
                                      have n0_ := Aside0.mk (Kd.R_drew HO_7.out)
                                      have n1_ := Aside0.mk (Kd.R_drew HO_14.out)
                                      have n2_ := Aside0.mk (below_drew1 HB.out)
                                      clear HO_7
                                      clear HO_14
                                      clear HB
                                      have HO_7 := n0_
                                      have HO_14 := n1_
                                      have HB := n2_
                                      clear n0_ n1_ n2_
                                      have p188 : 0 ≤ (1 : Int) := (by omega)
                                      have q188 : 1 < (x14_2.length : Int) := of_decide_eq_true (by first | (with_reducible assumption) | assumption)
                                      obtain ⟨ad188, e188, hx188_0⟩ := Kd.at_int (Kd.R_reads' HO_14.out).2.2 1 p188 q188
                                      obtain rfl : ad171 = ad188 := (by injection e188)
                                      (try simp only [show (1 : Int).toNat = 1 from rfl, Nat.reduceMul, Nat.reduceEqDiff, Go.Addr.add, ↓reduceIte] at hx188_0)
                                      have qi188 : (1 < x14_2.length) = True := eq_true (by omega)
                                      (try rw [show ((1 : Int)).toNat = 1 from rfl] at hx188_0)
                                      replace p188 := eq_true p188
                                      replace q188 := eq_true q188
                                      try have q188m := eq_true (by have z_ := of_eq_true q188; simp only [ByteArray.size_extract, Nat.sub_zero] at z_; exact z_)
                                      have p189 : 0 ≤ (2 : Int) := (by omega)
                                      have q189 : 2 < (x14_2.length : Int) := of_decide_eq_true (by first | (with_reducible assumption) | assumption)
                                      obtain ⟨ad189, e189, hx189_0⟩ := Kd.at_int (Kd.R_reads' HO_14.out).2.2 2 p189 q189
                                      obtain rfl : ad171 = ad189 := (by injection e189)
                                      (try simp only [show (2 : Int).toNat = 2 from rfl, Nat.reduceMul, Nat.reduceEqDiff, Go.Addr.add, ↓reduceIte] at hx189_0)
                                      have qi189 : (2 < x14_2.length) = True := eq_true (by omega)
                                      (try rw [show ((2 : Int)).toNat = 2 from rfl] at hx189_0)
                                      replace p189 := eq_true p189
                                      replace q189 := eq_true q189
                                      try have q189m := eq_true (by have z_ := of_eq_true q189; simp only [ByteArray.size_extract, Nat.sub_zero] at z_; exact z_)
                                      have p190 : 0 ≤ (3 : Int) := (by omega)
                                      have q190 : 3 < (x14_2.length : Int) := of_decide_eq_true (by first | (with_reducible assumption) | assumption)
                                      obtain ⟨ad190, e190, hx190_0⟩ := Kd.at_int (Kd.R_reads' HO_14.out).2.2 3 p190 q190
                                      obtain rfl : ad171 = ad190 := (by injection e190)
                                      (try simp only [show (3 : Int).toNat = 3 from rfl, Nat.reduceMul, Nat.reduceEqDiff, Go.Addr.add, ↓reduceIte] at hx190_0)
                                      have qi190 : (3 < x14_2.length) = True := eq_true (by omega)
                                      (try rw [show ((3 : Int)).toNat = 3 from rfl] at hx190_0)
                                      replace p190 := eq_true p190
                                      replace q190 := eq_true q190
                                      try have q190m := eq_true (by have z_ := of_eq_true q190; simp only [ByteArray.size_extract, Nat.sub_zero] at z_; exact z_)
                                      have p191 : 0 ≤ (5 : Int) := (by omega)
                                      have q191 : 5 < (x14_2.length : Int) := of_decide_eq_true (by first | (with_reducible assumption) | assumption)
                                      obtain ⟨ad191, e191, hx191_0⟩ := Kd.at_int (Kd.R_reads' HO_14.out).2.2 5 p191 q191
                                      obtain rfl : ad171 = ad191 := (by injection e191)
                                      (try simp only [show (5 : Int).toNat = 5 from rfl, Nat.reduceMul, Nat.reduceEqDiff, Go.Addr.add, ↓reduceIte] at hx191_0)
                                      have qi191 : (5 < x14_2.length) = True := eq_true (by omega)
                                      (try rw [show ((5 : Int)).toNat = 5 from rfl] at hx191_0)
                                      replace p191 := eq_true p191
                                      replace q191 := eq_true q191
                                      try have q191m := eq_true (by have z_ := of_eq_true q191; simp only [ByteArray.size_extract, Nat.sub_zero] at z_; exact z_)
                                      have p192 : 0 ≤ (6 : Int) := (by omega)
                                      have q192 : 6 < (x14_2.length : Int) := of_decide_eq_true (by first | (with_reducible assumption) | assumption)
                                      obtain ⟨ad192, e192, hx192_0⟩ := Kd.at_int (Kd.R_reads' HO_14.out).2.2 6 p192 q192
                                      obtain rfl : ad171 = ad192 := (by injection e192)
                                      (try simp only [show (6 : Int).toNat = 6 from rfl, Nat.reduceMul, Nat.reduceEqDiff, Go.Addr.add, ↓reduceIte] at hx192_0)
                                      have qi192 : (6 < x14_2.length) = True := eq_true (by omega)
                                      (try rw [show ((6 : Int)).toNat = 6 from rfl] at hx192_0)
                                      replace p192 := eq_true p192
                                      replace q192 := eq_true q192
                                      try have q192m := eq_true (by have z_ := of_eq_true q192; simp only [ByteArray.size_extract, Nat.sub_zero] at z_; exact z_)
                                      refine start_ (n := 24) (S := fun w' => w'.cell? ⟨ad171.block, ad171.off + 1, none⟩ = some (.int .u32 (rd x14_2 1)) ∧ w'.cell? ⟨ad171.block, ad171.off + 2, none⟩ = some (.int .u32 (rd x14_2 2)) ∧ w'.cell? ⟨ad171.block, ad171.off + 3, none⟩ = some (.int .u32 (rd x14_2 3)) ∧ w'.cell? ⟨ad171.block, ad171.off + 5, none⟩ = some (.int .u32 (rd x14_2 5)) ∧ w'.cell? ⟨ad171.block, ad171.off + 6, none⟩ = some (.int .u32 (rd x14_2 6))) (ds := []) #[false, false, false, false, false, false, false, false, false, false, false, false, false, false, false, false, false, false, false, false, false, false, false, false] (by kernel_rfl) rfl rfl ⟨hx188_0, hx189_0, hx190_0, hx191_0, hx192_0⟩ (fun hHeld => ?_); refine with_tabW transeptref03_block.tab23 transeptref03_block.bits23 (fun HT_ HW_ => ?_)
                                      generalize w60.drew = w62 at HO_7 HO_14 HB hx188_0 hx189_0 hx190_0 hx191_0 hx192_0 hHeld ⊢
                                      refine pure_ (i := 0) (N := some 165) (v := ?_) (a' := ?_) #[true, false, false, false, false, false, false, false, false, false, false, false, false, false, false, false, false, false, false, false, false, false, false, false] rfl rfl (any_of HT_.out (by kernel_rfl)) (fun _ _ _ h => h) (Or.inl ⟨by rfl, ?_⟩) ?_ ?_
                                      rotate_left
                                      · intro w'
                                        go_simp
                                        with_reducible rfl
                                      rotate_left
                                      · simp only [Act.put, List.setIfInBounds_toArray, List.set_cons_zero, List.set_cons_succ, i64_w, i32_w]
                                        rfl
                                      refine pure_ (i := 1) (N := some 166) (v := ?_) (a' := ?_) #[true, true, false, false, false, false, false, false, false, false, false, false, false, false, false, false, false, false, false, false, false, false, false, false] rfl rfl (any_of HT_.out (by kernel_rfl)) (fun _ _ _ h => h) (Or.inl ⟨by rfl, ?_⟩) ?_ ?_
                                      rotate_left
                                      · intro w'
                                        go_simp
                                        with_reducible rfl
                                      rotate_left
                                      · simp only [Act.put, List.setIfInBounds_toArray, List.set_cons_zero, List.set_cons_succ, i64_w, i32_w]
                                        rfl
                                      refine pure_ (i := 2) (N := some 167) (v := ?_) (a' := ?_) #[true, true, true, false, false, false, false, false, false, false, false, false, false, false, false, false, false, false, false, false, false, false, false, false] rfl rfl (any_of HT_.out (by kernel_rfl)) (fun _ _ _ h => h) (Or.inl ⟨by rfl, ?_⟩) ?_ ?_
                                      rotate_left
                                      · intro w'
                                        go_simp
                                        with_reducible rfl
                                      rotate_left
                                      · simp only [Act.put, List.setIfInBounds_toArray, List.set_cons_zero, List.set_cons_succ, i64_w, i32_w]
                                        rfl
                                      refine pure_ (i := 3) (N := some 168) (v := ?_) (a' := ?_) #[true, true, true, true, false, false, false, false, false, false, false, false, false, false, false, false, false, false, false, false, false, false, false, false] rfl rfl (any_of HT_.out (by kernel_rfl)) (fun _ _ _ h => h) (Or.inl ⟨by rfl, ?_⟩) ?_ ?_
                                      rotate_left
                                      · intro w'
                                        go_simp
                                        with_reducible rfl
                                      rotate_left
                                      · simp only [Act.put, List.setIfInBounds_toArray, List.set_cons_zero, List.set_cons_succ, i64_w, i32_w]
                                        rfl
                                      refine pure_ (i := 4) (N := some 169) (v := ?_) (a' := ?_) #[true, true, true, true, true, false, false, false, false, false, false, false, false, false, false, false, false, false, false, false, false, false, false, false] rfl rfl (any_of HT_.out (by kernel_rfl)) (fun _ _ _ h => h) (Or.inl ⟨by rfl, ?_⟩) ?_ ?_
                                      rotate_left
                                      · intro w'
                                        go_simp
                                        with_reducible rfl
                                      rotate_left
                                      · simp only [Act.put, List.setIfInBounds_toArray, List.set_cons_zero, List.set_cons_succ, i64_w, i32_w]
                                        rfl
                                      refine pure_ (i := 5) (N := some 170) (v := ?_) (a' := ?_) #[true, true, true, true, true, true, false, false, false, false, false, false, false, false, false, false, false, false, false, false, false, false, false, false] rfl rfl (any_of HT_.out (by kernel_rfl)) (fun _ _ _ h => h) (Or.inl ⟨by rfl, ?_⟩) ?_ ?_
                                      rotate_left
                                      · intro w'
                                        go_simp
                                        with_reducible rfl
                                      rotate_left
                                      · simp only [Act.put, List.setIfInBounds_toArray, List.set_cons_zero, List.set_cons_succ, i64_w, i32_w]
                                        rfl
                                      refine pure_ (i := 7) (N := some 172) (v := ?_) (a' := ?_) #[true, true, true, true, true, true, false, true, false, false, false, false, false, false, false, false, false, false, false, false, false, false, false, false] rfl rfl (any_of HT_.out (by kernel_rfl)) (fun _ _ _ h => h) (Or.inl ⟨by rfl, ?_⟩) ?_ ?_
                                      rotate_left
                                      · intro w'
                                        go_simp
                                        with_reducible rfl
                                      rotate_left
                                      · simp only [Act.put, List.setIfInBounds_toArray, List.set_cons_zero, List.set_cons_succ, i64_w, i32_w]
                                        rfl
                                      refine pure_ (i := 8) (N := some 173) (v := ?_) (a' := ?_) #[true, true, true, true, true, true, false, true, true, false, false, false, false, false, false, false, false, false, false, false, false, false, false, false] rfl rfl (any_of HT_.out (by kernel_rfl)) (fun _ _ _ h => h) (Or.inl ⟨by rfl, ?_⟩) ?_ ?_
                                      rotate_left
                                      · intro w'
                                        go_simp
                                        with_reducible rfl
                                      rotate_left
                                      · simp only [Act.put, List.setIfInBounds_toArray, List.set_cons_zero, List.set_cons_succ, i64_w, i32_w]
                                        rfl
                                      refine pure_ (i := 10) (N := some 175) (v := ?_) (a' := ?_) #[true, true, true, true, true, true, false, true, true, false, true, false, false, false, false, false, false, false, false, false, false, false, false, false] rfl rfl (any_of HT_.out (by kernel_rfl)) (fun _ _ _ h => h) (Or.inl ⟨by rfl, ?_⟩) ?_ ?_
                                      rotate_left
                                      · intro w'
                                        go_simp
                                        with_reducible rfl
                                      rotate_left
                                      · simp only [Act.put, List.setIfInBounds_toArray, List.set_cons_zero, List.set_cons_succ, i64_w, i32_w]
                                        rfl
                                      refine pure_ (i := 11) (N := some 176) (v := ?_) (a' := ?_) #[true, true, true, true, true, true, false, true, true, false, true, true, false, false, false, false, false, false, false, false, false, false, false, false] rfl rfl (any_of HT_.out (by kernel_rfl)) (fun _ _ _ h => h) (Or.inl ⟨by rfl, ?_⟩) ?_ ?_
                                      rotate_left
                                      · intro w'
                                        go_simp
                                        with_reducible rfl
                                      rotate_left
                                      · simp only [Act.put, List.setIfInBounds_toArray, List.set_cons_zero, List.set_cons_succ, i64_w, i32_w]
                                        rfl
                                      refine pure_ (i := 13) (N := some 178) (v := ?_) (a' := ?_) #[true, true, true, true, true, true, false, true, true, false, true, true, false, true, false, false, false, false, false, false, false, false, false, false] rfl rfl (any_of HT_.out (by kernel_rfl)) (fun _ _ _ h => h) (Or.inl ⟨by rfl, ?_⟩) ?_ ?_
                                      rotate_left
                                      · intro w'
                                        go_simp
                                        with_reducible rfl
                                      rotate_left
                                      · simp only [Act.put, List.setIfInBounds_toArray, List.set_cons_zero, List.set_cons_succ, i64_w, i32_w]
                                        rfl
                                      refine pure_ (i := 15) (N := some 180) (v := ?_) (a' := ?_) #[true, true, true, true, true, true, false, true, true, false, true, true, false, true, false, true, false, false, false, false, false, false, false, false] rfl rfl (any_of HT_.out (by kernel_rfl)) (fun _ _ _ h => h) (Or.inl ⟨by rfl, ?_⟩) ?_ ?_
                                      rotate_left
                                      · intro w'
                                        go_simp
                                        with_reducible rfl
                                      rotate_left
                                      · simp only [Act.put, List.setIfInBounds_toArray, List.set_cons_zero, List.set_cons_succ, i64_w, i32_w]
                                        rfl
                                      refine pure_ (i := 16) (N := some 181) (v := ?_) (a' := ?_) #[true, true, true, true, true, true, false, true, true, false, true, true, false, true, false, true, true, false, false, false, false, false, false, false] rfl rfl (any_of HT_.out (by kernel_rfl)) (fun _ _ _ h => h) (Or.inl ⟨by rfl, ?_⟩) ?_ ?_
                                      rotate_left
                                      · intro w'
                                        go_simp
                                        with_reducible rfl
                                      rotate_left
                                      · simp only [Act.put, List.setIfInBounds_toArray, List.set_cons_zero, List.set_cons_succ, i64_w, i32_w]
                                        rfl
                                      refine pure_ (i := 17) (N := some 182) (v := ?_) (a' := ?_) #[true, true, true, true, true, true, false, true, true, false, true, true, false, true, false, true, true, true, false, false, false, false, false, false] rfl rfl (any_of HT_.out (by kernel_rfl)) (fun _ _ _ h => h) (Or.inl ⟨by rfl, ?_⟩) ?_ ?_
                                      rotate_left
                                      · intro w'
                                        go_simp
                                        with_reducible rfl
                                      rotate_left
                                      · simp only [Act.put, List.setIfInBounds_toArray, List.set_cons_zero, List.set_cons_succ, i64_w, i32_w]
                                        rfl
                                      refine pure_ (i := 19) (N := some 184) (v := ?_) (a' := ?_) #[true, true, true, true, true, true, false, true, true, false, true, true, false, true, false, true, true, true, false, true, false, false, false, false] rfl rfl (any_of HT_.out (by kernel_rfl)) (fun _ _ _ h => h) (Or.inl ⟨by rfl, ?_⟩) ?_ ?_
                                      rotate_left
                                      · intro w'
                                        go_simp
                                        with_reducible rfl
                                      rotate_left
                                      · simp only [Act.put, List.setIfInBounds_toArray, List.set_cons_zero, List.set_cons_succ, i64_w, i32_w]
                                        rfl
                                      refine pure_ (i := 20) (N := some 185) (v := ?_) (a' := ?_) #[true, true, true, true, true, true, false, true, true, false, true, true, false, true, false, true, true, true, false, true, true, false, false, false] rfl rfl (any_of HT_.out (by kernel_rfl)) (fun _ _ _ h => h) (Or.inl ⟨by rfl, ?_⟩) ?_ ?_
                                      rotate_left
                                      · intro w'
                                        go_simp
                                        with_reducible rfl
                                      rotate_left
                                      · simp only [Act.put, List.setIfInBounds_toArray, List.set_cons_zero, List.set_cons_succ, i64_w, i32_w]
                                        rfl
                                      refine take_ (i := 6) (N := some 171) (v := ?_) (a' := ?_) #[true, true, true, true, true, true, true, true, true, false, true, true, false, true, false, true, true, true, false, true, true, false, false, false] rfl rfl (take_ofW HT_.out HW_.out (by kernel_rfl)) (fun _ _ _ h => h) (Or.inl ⟨by rfl, ?_⟩) hHeld ?_ ?_
                                      rotate_left
                                      · rintro w' ⟨s0, s1, s2, s3, s4⟩
                                        go_simp
                                        with_reducible rfl
                                      rotate_left
                                      · simp only [Act.put, List.setIfInBounds_toArray, List.set_cons_zero, List.set_cons_succ, i64_w, i32_w]
                                        rfl
                                      refine take_ (i := 9) (N := some 174) (v := ?_) (a' := ?_) #[true, true, true, true, true, true, true, true, true, true, true, true, false, true, false, true, true, true, false, true, true, false, false, false] rfl rfl (take_ofW HT_.out HW_.out (by kernel_rfl)) (fun _ _ _ h => h) (Or.inl ⟨by rfl, ?_⟩) hHeld ?_ ?_
                                      rotate_left
                                      · rintro w' ⟨s0, s1, s2, s3, s4⟩
                                        go_simp
                                        with_reducible rfl
                                      rotate_left
                                      · simp only [Act.put, List.setIfInBounds_toArray, List.set_cons_zero, List.set_cons_succ, i64_w, i32_w]
                                        rfl
                                      refine take_ (i := 12) (N := some 177) (v := ?_) (a' := ?_) #[true, true, true, true, true, true, true, true, true, true, true, true, true, true, false, true, true, true, false, true, true, false, false, false] rfl rfl (take_ofW HT_.out HW_.out (by kernel_rfl)) (fun _ _ _ h => h) (Or.inl ⟨by rfl, ?_⟩) hHeld ?_ ?_
                                      rotate_left
                                      · rintro w' ⟨s0, s1, s2, s3, s4⟩
                                        go_simp
                                        with_reducible rfl
                                      rotate_left
                                      · simp only [Act.put, List.setIfInBounds_toArray, List.set_cons_zero, List.set_cons_succ, i64_w, i32_w]
                                        rfl
                                      refine pure_ (i := 14) (N := some 179) (v := ?_) (a' := ?_) #[true, true, true, true, true, true, true, true, true, true, true, true, true, true, true, true, true, true, false, true, true, false, false, false] rfl rfl (any_of HT_.out (by kernel_rfl)) (fun _ _ _ h => h) (Or.inl ⟨by rfl, ?_⟩) ?_ ?_
                                      rotate_left
                                      · intro w'
                                        go_simp
                                        with_reducible rfl
                                      rotate_left
                                      · simp only [Act.put, List.setIfInBounds_toArray, List.set_cons_zero, List.set_cons_succ, i64_w, i32_w]
                                        rfl
                                      refine take_ (i := 18) (N := some 183) (v := ?_) (a' := ?_) #[true, true, true, true, true, true, true, true, true, true, true, true, true, true, true, true, true, true, true, true, true, false, false, false] rfl rfl (take_ofW HT_.out HW_.out (by kernel_rfl)) (fun _ _ _ h => h) (Or.inl ⟨by rfl, ?_⟩) hHeld ?_ ?_
                                      rotate_left
                                      · rintro w' ⟨s0, s1, s2, s3, s4⟩
                                        go_simp
                                        with_reducible rfl
                                      rotate_left
                                      · simp only [Act.put, List.setIfInBounds_toArray, List.set_cons_zero, List.set_cons_succ, i64_w, i32_w]
                                        rfl
                                      refine take_ (i := 21) (N := some 186) (v := ?_) (a' := ?_) #[true, true, true, true, true, true, true, true, true, true, true, true, true, true, true, true, true, true, true, true, true, true, false, false] rfl rfl (take_ofW HT_.out HW_.out (by kernel_rfl)) (fun _ _ _ h => h) (Or.inl ⟨by rfl, ?_⟩) hHeld ?_ ?_
                                      rotate_left
                                      · rintro w' ⟨s0, s1, s2, s3, s4⟩
                                        go_simp
                                        with_reducible rfl
                                      rotate_left
                                      · simp only [Act.put, List.setIfInBounds_toArray, List.set_cons_zero, List.set_cons_succ, i64_w, i32_w]
                                        rfl
                                      refine one_ (i := 22) (N := some 187) #[true, true, true, true, true, true, true, true, true, true, true, true, true, true, true, true, true, true, true, true, true, true, true, false] rfl rfl (one_of HT_.out (by kernel_rfl)) (by decide) (fun K hK => ?_)
                                      refine Kd.R_lit_step (Kd.int .u32) _ 33 ?hg (N := 187) ?hd (xs := ([((((((((((rd x14_2 7) + (Go.bits .xor .u32 (Go.bits .xor .u32 t180 t181) t182)) % 4294967296) + (Go.bits .xor .u32 (Go.bits .and .u32 (rd x14_2 4) (rd x14_2 5)) (Go.bits .and .u32 ((4294967295 - (rd x14_2 4)) % 4294967296) (rd x14_2 6)))) % 4294967296) + (rd l2 x15_2)) % 4294967296) + (rd x7_1 x15_2)) % 4294967296) + (((Go.bits .xor .u32 (Go.bits .xor .u32 t185 t186) t187) + (Go.bits .xor .u32 (Go.bits .xor .u32 (Go.bits .and .u32 (rd x14_2 0) (rd x14_2 1)) (Go.bits .and .u32 (rd x14_2 0) (rd x14_2 2))) (Go.bits .and .u32 (rd x14_2 1) (rd x14_2 2)))) % 4294967296)) % 4294967296, rd x14_2 0, rd x14_2 1, rd x14_2 2, ((rd x14_2 3) + (((((((((rd x14_2 7) + (Go.bits .xor .u32 (Go.bits .xor .u32 t180 t181) t182)) % 4294967296) + (Go.bits .xor .u32 (Go.bits .and .u32 (rd x14_2 4) (rd x14_2 5)) (Go.bits .and .u32 ((4294967295 - (rd x14_2 4)) % 4294967296) (rd x14_2 6)))) % 4294967296) + (rd l2 x15_2)) % 4294967296) + (rd x7_1 x15_2)) % 4294967296)) % 4294967296, rd x14_2 4, rd x14_2 5, rd x14_2 6] : List Int)) (inner := [.int .u32 (((((((((((rd x14_2 7) + (Go.bits .xor .u32 (Go.bits .xor .u32 t180 t181) t182)) % 4294967296) + (Go.bits .xor .u32 (Go.bits .and .u32 (rd x14_2 4) (rd x14_2 5)) (Go.bits .and .u32 ((4294967295 - (rd x14_2 4)) % 4294967296) (rd x14_2 6)))) % 4294967296) + (rd l2 x15_2)) % 4294967296) + (rd x7_1 x15_2)) % 4294967296) + (((Go.bits .xor .u32 (Go.bits .xor .u32 t185 t186) t187) + (Go.bits .xor .u32 (Go.bits .xor .u32 (Go.bits .and .u32 (rd x14_2 0) (rd x14_2 1)) (Go.bits .and .u32 (rd x14_2 0) (rd x14_2 2))) (Go.bits .and .u32 (rd x14_2 1) (rd x14_2 2)))) % 4294967296)) % 4294967296), .int .u32 (rd x14_2 0), .int .u32 (rd x14_2 1), .int .u32 (rd x14_2 2), .int .u32 (((rd x14_2 3) + (((((((((rd x14_2 7) + (Go.bits .xor .u32 (Go.bits .xor .u32 t180 t181) t182)) % 4294967296) + (Go.bits .xor .u32 (Go.bits .and .u32 (rd x14_2 4) (rd x14_2 5)) (Go.bits .and .u32 ((4294967295 - (rd x14_2 4)) % 4294967296) (rd x14_2 6)))) % 4294967296) + (rd l2 x15_2)) % 4294967296) + (rd x7_1 x15_2)) % 4294967296)) % 4294967296), .int .u32 (rd x14_2 4), .int .u32 (rd x14_2 5), .int .u32 (rd x14_2 6)]) (ok := fun _ => True) (okp := fun _ => True) ?hr ?hp (fun _ hk => hk) trivial (Below.refl _ _) (Nat.le_refl _) (by simp) ?_; (case hd => rfl); (case hg => rfl); (case hr => first | (go_simp; done) | (go_simp; simp only [IntKind.wrap_u32, Int.emod_add_emod, Int.add_emod_emod]; done) | (go_simp; rfl)); (case hp => exact (Reps.one (show Kd.M (Kd.int .u32) _ _ _ (((((((((((rd x14_2 7) + (Go.bits .xor .u32 (Go.bits .xor .u32 t180 t181) t182)) % 4294967296) + (Go.bits .xor .u32 (Go.bits .and .u32 (rd x14_2 4) (rd x14_2 5)) (Go.bits .and .u32 ((4294967295 - (rd x14_2 4)) % 4294967296) (rd x14_2 6)))) % 4294967296) + (rd l2 x15_2)) % 4294967296) + (rd x7_1 x15_2)) % 4294967296) + (((Go.bits .xor .u32 (Go.bits .xor .u32 t185 t186) t187) + (Go.bits .xor .u32 (Go.bits .xor .u32 (Go.bits .and .u32 (rd x14_2 0) (rd x14_2 1)) (Go.bits .and .u32 (rd x14_2 0) (rd x14_2 2))) (Go.bits .and .u32 (rd x14_2 1) (rd x14_2 2)))) % 4294967296)) % 4294967296) [.int .u32 (((((((((((rd x14_2 7) + (Go.bits .xor .u32 (Go.bits .xor .u32 t180 t181) t182)) % 4294967296) + (Go.bits .xor .u32 (Go.bits .and .u32 (rd x14_2 4) (rd x14_2 5)) (Go.bits .and .u32 ((4294967295 - (rd x14_2 4)) % 4294967296) (rd x14_2 6)))) % 4294967296) + (rd l2 x15_2)) % 4294967296) + (rd x7_1 x15_2)) % 4294967296) + (((Go.bits .xor .u32 (Go.bits .xor .u32 t185 t186) t187) + (Go.bits .xor .u32 (Go.bits .xor .u32 (Go.bits .and .u32 (rd x14_2 0) (rd x14_2 1)) (Go.bits .and .u32 (rd x14_2 0) (rd x14_2 2))) (Go.bits .and .u32 (rd x14_2 1) (rd x14_2 2)))) % 4294967296)) % 4294967296)] from rfl) (Reps.one (show Kd.M (Kd.int .u32) _ _ _ (rd x14_2 0) [.int .u32 (rd x14_2 0)] from rfl) (Reps.one (show Kd.M (Kd.int .u32) _ _ _ (rd x14_2 1) [.int .u32 (rd x14_2 1)] from rfl) (Reps.one (show Kd.M (Kd.int .u32) _ _ _ (rd x14_2 2) [.int .u32 (rd x14_2 2)] from rfl) (Reps.one (show Kd.M (Kd.int .u32) _ _ _ (((rd x14_2 3) + (((((((((rd x14_2 7) + (Go.bits .xor .u32 (Go.bits .xor .u32 t180 t181) t182)) % 4294967296) + (Go.bits .xor .u32 (Go.bits .and .u32 (rd x14_2 4) (rd x14_2 5)) (Go.bits .and .u32 ((4294967295 - (rd x14_2 4)) % 4294967296) (rd x14_2 6)))) % 4294967296) + (rd l2 x15_2)) % 4294967296) + (rd x7_1 x15_2)) % 4294967296)) % 4294967296) [.int .u32 (((rd x14_2 3) + (((((((((rd x14_2 7) + (Go.bits .xor .u32 (Go.bits .xor .u32 t180 t181) t182)) % 4294967296) + (Go.bits .xor .u32 (Go.bits .and .u32 (rd x14_2 4) (rd x14_2 5)) (Go.bits .and .u32 ((4294967295 - (rd x14_2 4)) % 4294967296) (rd x14_2 6)))) % 4294967296) + (rd l2 x15_2)) % 4294967296) + (rd x7_1 x15_2)) % 4294967296)) % 4294967296)] from rfl) (Reps.one (show Kd.M (Kd.int .u32) _ _ _ (rd x14_2 4) [.int .u32 (rd x14_2 4)] from rfl) (Reps.one (show Kd.M (Kd.int .u32) _ _ _ (rd x14_2 5) [.int .u32 (rd x14_2 5)] from rfl) (Reps.one (show Kd.M (Kd.int .u32) _ _ _ (rd x14_2 6) [.int .u32 (rd x14_2 6)] from rfl) (Reps.none _ _))))))))))
                                      intro v194 w63 ho64 hb hg_ hnew_
                                      have HS0_ := (hb.cell (World.block_lt_of_cell? _ _ (hHeld.1))).trans (hHeld.1)
                                      have HS1_ := (hb.cell (World.block_lt_of_cell? _ _ (hHeld.2.1))).trans (hHeld.2.1)
                                      have HS2_ := (hb.cell (World.block_lt_of_cell? _ _ (hHeld.2.2.1))).trans (hHeld.2.2.1)
                                      have HS3_ := (hb.cell (World.block_lt_of_cell? _ _ (hHeld.2.2.2.1))).trans (hHeld.2.2.2.1)
                                      have HS4_ := (hb.cell (World.block_lt_of_cell? _ _ (hHeld.2.2.2.2))).trans (hHeld.2.2.2.2)
                                      clear hg_ hnew_
                                      (first | rw [← Ny193.out] at ho64 | (simp only [Int.reduceToNat] at ho64; rw [← Ny193.out] at ho64))
                                      have n0_ := Aside0.mk (Kd.R_elder' (by (with_reducible repeat (first | apply Kd.R_alloc | apply Kd.R_drewN | apply Kd.R_drew)); exact HO_7.out) (Kd.R_base ho64) hb)
                                      have n1_ := Aside0.mk (Kd.R_elder' (by (with_reducible repeat (first | apply Kd.R_alloc | apply Kd.R_drewN | apply Kd.R_drew)); exact HO_14.out) (Kd.R_base ho64) hb)
                                      have n2_ := Aside0.mk (Kd.R_lower (Kd.R_new' (Kd.R_new' ho64 (Kd.R_lt (by (with_reducible repeat (first | apply Kd.R_alloc | apply Kd.R_drewN | apply Kd.R_drew)); exact HO_7.out))) (Kd.R_lt (by (with_reducible repeat (first | apply Kd.R_alloc | apply Kd.R_drewN | apply Kd.R_drew)); exact HO_14.out))) (below_size (by repeat (first | (with_reducible first | exact HB.out | apply below_alloc | apply pw_below_drewN | apply below_drew1) | exact HB.out))))
                                      have n3_ := Aside0.mk (below_step (by repeat (first | (with_reducible first | exact HB.out | apply below_alloc | apply pw_below_drewN | apply below_drew1) | exact HB.out)) hb)
                                      clear HO_7
                                      clear HO_14
                                      clear HB
                                      have HO_7 := n0_
                                      have HO_14 := n1_
                                      have HO195 := n2_
                                      have HB := n3_
                                      clear n0_ n1_ n2_ n3_
                                      clear hb ho64
                                      refine hK.out _ _ ⟨HS0_, HS1_, HS2_, HS3_, HS4_⟩ (fun hHeld => ?_)
                                      clear hK K
                                      refine norm_ (a' := ?_) ?_ ?_
                                      rotate_left
                                      · show Act.put _ (some 187) _ = _
                                        simp only [Act.put, List.setIfInBounds_toArray, List.set_cons_zero, List.set_cons_succ, i64_w, i32_w]
                                        rfl
                                      refine pure_ (i := 23) (N := some 14) (v := ?_) (a' := ?_) #[true, true, true, true, true, true, true, true, true, true, true, true, true, true, true, true, true, true, true, true, true, true, true, true] rfl rfl (any_of HT_.out (by kernel_rfl)) (fun _ _ _ h => h) (Or.inl ⟨by rfl, ?_⟩) ?_ ?_
                                      rotate_left
                                      · intro w'
                                        go_simp
                                        with_reducible rfl
                                      rotate_left
                                      · simp only [Act.put, List.setIfInBounds_toArray, List.set_cons_zero, List.set_cons_succ, i64_w, i32_w]
                                        rfl
                                      refine done_ (done_of HT_.out (by kernel_rfl)) ?_
                                      try go_wp2
                                      go_roundg k2
                                      case measure => have := HK1.out; have := HK2.out; omega
                                      case rel => exact ⟨(y193), (wrap64 (x15_2 + 1)), (by first | rfl | (simp; done) | (simp [*]; done)), H', ⟨by have := HK1.out; have := HK2.out; omega⟩, ⟨by (with_reducible repeat (first | apply Kd.R_alloc | apply Kd.R_drewN | apply Kd.R_drew)); exact Kd.R_mono HO_7.out (fun _ hk => hk.2)⟩, ⟨by (with_reducible repeat (first | apply Kd.R_alloc | apply Kd.R_drewN | apply Kd.R_drew)); exact Kd.R_mono HO195.out (fun _ hk => hk.1.2)⟩, ⟨by repeat (first | (with_reducible first | exact HB.out | apply below_alloc | apply pw_below_drewN | apply below_drew1) | exact HB.out)⟩⟩
                                    · rw [if_neg c56] at H
                                      exact absurd H (by simp)
                                  · rw [if_neg c52] at H
                                    exact absurd H (by simp)
                                · rw [if_neg c51] at H
                                  exact absurd H (by simp)
                              · rw [if_neg c50] at H
                                exact absurd H (by simp)
                            · rw [if_neg c46] at H
                              exact absurd H (by simp)
                          · rw [if_neg c45] at H
                            exact absurd H (by simp)
                        · rw [if_neg c44] at H
                          exact absurd H (by simp)
                      · rw [if_neg c43] at H
                        exact absurd H (by simp)
                    · rw [if_neg c42] at H
                      exact absurd H (by simp)
                  · rw [if_neg c41] at H
                    exact absurd H (by simp)
                · rw [if_neg c40] at H
                  exact absurd H (by simp)
              · rw [if_neg c39] at H
                have c39b0 : decide (x15_2 < 64) = false := decide_eq_false c39
                clear c39
                obtain ⟨y196, hy196⟩ : ∃ y_ : List Int, y_ = (([] : List Int)) := ⟨_, rfl⟩
                replace H : (transeptref03_block.l2 k2 l0 x14_2 y196 0) = some r := by first | (rw [hy196]; with_reducible exact H) | (have H2_ := (Option.bind_some _ _).symm.trans H; rw [hy196]; with_reducible exact H2_) | (have H2_ := (Option.bind_some _ _).symm.trans H; with_reducible exact H2_) | with_reducible exact H | (rw [hy196]; exact H) | exact H
                have Ny196 := Aside0.mk hy196
                clear hy196
                have H' := Aside0.mk H
                clear H
                go_wp2_with (first | ((with_reducible refine gate_dst (N := 188) rfl ?_); refine Kd.R_lit (Kd.int .u32) _ 33 ?hg (N := 188) ?hd (xs := ([] : List Int)) (inner := []) (ok := fun _ => True) (okp := fun _ => True) ?hr ?hp (fun _ hk => hk) trivial (Below.refl _ _) (Nat.le_refl _) (by simp) ?_; (case hd => rfl); (case hg => rfl); (case hr => first | (go_simp; done) | (go_simp; rfl)); (case hp => exact (Reps.none _ _)); intro v197 w65 ho66 hb hg_ hnew_; clear hg_ hnew_; (first | rw [← Ny196.out] at ho66 | (simp only [Int.reduceToNat] at ho66; rw [← Ny196.out] at ho66)); have n0_ := Aside0.mk (Kd.R_elder' (by (with_reducible repeat (first | apply Kd.R_alloc | apply Kd.R_drewN | apply Kd.R_drew)); exact HO_7.out) (Kd.R_base ho66) hb); have n1_ := Aside0.mk (Kd.R_elder' (by (with_reducible repeat (first | apply Kd.R_alloc | apply Kd.R_drewN | apply Kd.R_drew)); exact HO_14.out) (Kd.R_base ho66) hb); have n2_ := Aside0.mk (Kd.R_lower (Kd.R_new' (Kd.R_new' ho66 (Kd.R_lt (by (with_reducible repeat (first | apply Kd.R_alloc | apply Kd.R_drewN | apply Kd.R_drew)); exact HO_7.out))) (Kd.R_lt (by (with_reducible repeat (first | apply Kd.R_alloc | apply Kd.R_drewN | apply Kd.R_drew)); exact HO_14.out))) (below_size (by repeat (first | (with_reducible first | exact HB.out | apply below_alloc | apply pw_below_drewN | apply below_drew1) | exact HB.out)))); have n3_ := Aside0.mk (below_step (by repeat (first | (with_reducible first | exact HB.out | apply below_alloc | apply pw_below_drewN | apply below_drew1) | exact HB.out)) hb); clear HO_7; clear HO_14; clear HB; have HO_7 := n0_; have HO_14 := n1_; have HO198 := n2_; have HB := n3_; clear n0_ n1_ n2_ n3_; clear hb ho66))
                go_loopg [22, 23] k2 (fun kq v22 v23 w' => ∃ (x22_3 : List Int) (x23_3 : Int), v23 = .int .i64 x23_3 ∧ Aside0 (transeptref03_block.l2 kq l0 x14_2 x22_3 x23_3 = some r) ∧ Aside0 (kq ≤ k2) ∧ Aside0 (Kd.R (Kd.int .u32) 33 w' w.heap.size (fun k_ => some k_ ≠ (v22 : Value).ownBlock) u14 x14_2) ∧ Aside0 (Kd.R (Kd.int .u32) 33 w' w.heap.size (fun k_ => some k_ ≠ (u14 : Value).ownBlock) v22 x22_3) ∧ Aside0 (Below w.heap.size w w'))
                case atStart => exact ⟨(y196), (0), (by first | rfl | (simp; done) | (simp [*]; done)), H', ⟨Nat.le_refl _⟩, ⟨by (with_reducible repeat (first | apply Kd.R_alloc | apply Kd.R_drewN | apply Kd.R_drew)); exact Kd.R_mono HO_14.out (fun _ hk => hk.2)⟩, ⟨by (with_reducible repeat (first | apply Kd.R_alloc | apply Kd.R_drewN | apply Kd.R_drew)); exact Kd.R_mono HO198.out (fun _ hk => hk.2)⟩, ⟨by repeat (first | (with_reducible first | exact HB.out | apply below_alloc | apply pw_below_drewN | apply below_drew1) | exact HB.out)⟩⟩
                case round =>
                  clear H'
                  try clear p1
                  try clear q1
                  try clear hx1
                  try clear qi1
                  try clear c2
                  try clear p2
                  try clear c3
                  try clear c4
                  try clear c5
                  try clear p6
                  try clear p17
                  try clear q17
                  try clear hx17
                  try clear qi17
                  try clear p18
                  try clear q18
                  try clear hx18
                  try clear qi18
                  try clear p19
                  try clear q19
                  try clear hx19
                  try clear qi19
                  try clear c26
                  try clear c39
                  try clear c39b0
                  try clear c40
                  try clear c41
                  try clear c42
                  try clear c43
                  try clear c44
                  try clear c45
                  try clear c46
                  try clear c50
                  try clear c51
                  try clear c52
                  try clear c56
                  try clear p64
                  try clear hx179_0
                  try clear hx183_0
                  try clear hx184_0
                  try clear hx188_0
                  try clear hx189_0
                  try clear hx190_0
                  try clear hx191_0
                  try clear hx192_0
                  try clear p179
                  try clear p183
                  try clear p184
                  try clear p188
                  try clear p189
                  try clear p190
                  try clear p191
                  try clear p192
                  try clear q179
                  try clear q183
                  try clear q184
                  try clear q188
                  try clear q189
                  try clear q190
                  try clear q191
                  try clear q192
                  obtain ⟨x22_3, x23_3, rfl, HA, HK3, HO_14, HO_22, HB⟩ := hrel
                  cases gk with
                  | zero => exact absurd HA.out (by simp [transeptref03_block.l2])
                  | succ k3 =>
                    have H := HA.out
                    clear HA
                    simp only [transeptref03_block.l2] at H
                    by_cases c67 : x23_3 < 8
                    · rw [if_pos c67] at H
                      have c67b0 : decide (x23_3 < 8) = true := decide_eq_true c67
                      clear c67
                      by_cases c68 : 0 ≤ x23_3
                      · rw [if_pos c68] at H
                        have c68b0 : decide (0 ≤ x23_3) = true := decide_eq_true c68
                        clear c68
                        by_cases c69 : x23_3 < (l0.length : Int)
                        · rw [if_pos c69] at H
                          have c69b0 : decide (x23_3 < (l0.length : Int)) = true := decide_eq_true c69
                          clear c69
                          by_cases c70 : x23_3 < (x14_2.length : Int)
                          · rw [if_pos c70] at H
                            have c70b0 : decide (x23_3 < (x14_2.length : Int)) = true := decide_eq_true c70
                            clear c70
                            by_cases c71 : x22_3.length < 35184372088832
                            · rw [if_pos c71] at H
                              have LMc71 := Aside0.mk c71
                              clear c71
                              obtain ⟨y201, hy201⟩ : ∃ y_ : List Int, y_ = (x22_3 ++ [((rd l0 x23_3) + (rd x14_2 x23_3)) % 4294967296]) := ⟨_, rfl⟩
                              replace H : (transeptref03_block.l2 k3 l0 x14_2 y201 (wrap64 (x23_3 + 1))) = some r := by first | (rw [hy201]; with_reducible exact H) | (have H2_ := (Option.bind_some _ _).symm.trans H; rw [hy201]; with_reducible exact H2_) | (have H2_ := (Option.bind_some _ _).symm.trans H; with_reducible exact H2_) | with_reducible exact H | (rw [hy201]; exact H) | exact H
                              have Ny201 := Aside0.mk hy201
                              clear hy201
                              have H' := Aside0.mk H
                              clear H
                              try go_wp2
                              have n0_ := Aside0.mk (Kd.R_drew HO_14.out)
                              have n1_ := Aside0.mk (Kd.R_drew HO_22.out)
                              have n2_ := Aside0.mk (below_drew1 HB.out)
                              clear HO_14
                              clear HO_22
                              clear HB
                              have HO_14 := n0_
                              have HO_22 := n1_
                              have HB := n2_
                              clear n0_ n1_ n2_
                              have p199 : 0 ≤ (x23_3 : Int) := of_decide_eq_true (by first | (with_reducible assumption) | assumption)
                              have q199 : x23_3 < (l0.length : Int) := of_decide_eq_true (by first | (with_reducible assumption) | assumption)
                              obtain ⟨ad199, e199, hx199_0⟩ := Kd.at_int HR0.out x23_3 p199 q199
                              have hw199_0 := hx199_0
                              cases e199
                              replace hx199_0 := (HB.out.cell (World.block_lt_of_cell? w _ hx199_0)).trans hx199_0
                              replace p199 := eq_true p199
                              replace q199 := eq_true q199
                              try have q199m := eq_true (by have z_ := of_eq_true q199; simp only [ByteArray.size_extract, Nat.sub_zero] at z_; exact z_)
                              obtain ⟨Ao73, co73, eo73⟩ := Kd.R_slice HO_14.out
                              (first | subst eo73 | (injection eo73 with f1_ f2_ f3_; have f4_ := f1_.symm; have f5_ := f3_.symm; clear f1_ f2_ f3_; subst f4_; subst f5_))
                              have p200 : 0 ≤ (x23_3 : Int) := of_decide_eq_true (by first | (with_reducible assumption) | assumption)
                              have q200 : x23_3 < (x14_2.length : Int) := of_decide_eq_true (by first | (with_reducible assumption) | assumption)
                              obtain ⟨ad200, e200, hx200_0⟩ := Kd.at_int (Kd.R_reads' HO_14.out).2.2 x23_3 p200 q200
                              cases e200
                              replace p200 := eq_true p200
                              replace q200 := eq_true q200
                              try have q200m := eq_true (by have z_ := of_eq_true q200; simp only [ByteArray.size_extract, Nat.sub_zero] at z_; exact z_)
                              refine start_ (n := 13) (S := fun w' => w'.cell? (ad199.add (x23_3).toNat) = some (.int .u32 (rd l0 x23_3)) ∧ w'.cell? (ad200.add (x23_3).toNat) = some (.int .u32 (rd x14_2 x23_3))) (ds := [10, 11]) #[false, false, false, false, false, false, false, false, false, false, false, false, false] (by kernel_rfl) rfl rfl ⟨((HB.out.cell (World.block_lt_of_cell? w _ hw199_0)).trans hw199_0), hx200_0⟩ (fun hHeld => ?_); refine with_tabW transeptref03_block.tab28 transeptref03_block.bits28 (fun HT_ HW_ => ?_)
                              generalize wr.drew = w72 at HO_14 HO_22 HB hx199_0 hx200_0 hHeld ⊢
                              refine pure_ (i := 0) (N := some 193) (v := ?_) (a' := ?_) #[true, false, false, false, false, false, false, false, false, false, false, false, false] rfl rfl (any_of HT_.out (by kernel_rfl)) (fun _ _ _ h => h) (Or.inl ⟨by rfl, ?_⟩) ?_ ?_
                              rotate_left
                              · intro w'
                                go_simp
                                with_reducible rfl
                              rotate_left
                              · simp only [Act.put, List.setIfInBounds_toArray, List.set_cons_zero, List.set_cons_succ, i64_w, i32_w]
                                rfl
                              refine pure_ (i := 1) (N := some 194) (v := ?_) (a' := ?_) #[true, true, false, false, false, false, false, false, false, false, false, false, false] rfl rfl (any_of HT_.out (by kernel_rfl)) (fun _ _ _ h => h) (Or.inl ⟨by rfl, ?_⟩) ?_ ?_
                              rotate_left
                              · intro w'
                                go_simp
                                with_reducible rfl
                              rotate_left
                              · simp only [Act.put, List.setIfInBounds_toArray, List.set_cons_zero, List.set_cons_succ, i64_w, i32_w]
                                rfl
                              refine pure_ (i := 2) (N := some 195) (v := ?_) (a' := ?_) #[true, true, true, false, false, false, false, false, false, false, false, false, false] rfl rfl (any_of HT_.out (by kernel_rfl)) (fun _ _ _ h => h) (Or.inl ⟨by rfl, ?_⟩) ?_ ?_
                              rotate_left
                              · intro w'
                                go_simp
                                with_reducible rfl
                              rotate_left
                              · simp only [Act.put, List.setIfInBounds_toArray, List.set_cons_zero, List.set_cons_succ, i64_w, i32_w]
                                rfl
                              refine pure_ (i := 3) (N := some 196) (v := ?_) (a' := ?_) #[true, true, true, true, false, false, false, false, false, false, false, false, false] rfl rfl (any_of HT_.out (by kernel_rfl)) (fun _ _ _ h => h) (Or.inl ⟨by rfl, ?_⟩) ?_ ?_
                              rotate_left
                              · intro w'
                                go_simp
                                with_reducible rfl
                              rotate_left
                              · simp only [Act.put, List.setIfInBounds_toArray, List.set_cons_zero, List.set_cons_succ, i64_w, i32_w]
                                rfl
                              refine pure_ (i := 5) (N := some 198) (v := ?_) (a' := ?_) #[true, true, true, true, false, true, false, false, false, false, false, false, false] rfl rfl (any_of HT_.out (by kernel_rfl)) (fun _ _ _ h => h) (Or.inl ⟨by rfl, ?_⟩) ?_ ?_
                              rotate_left
                              · intro w'
                                go_simp
                                with_reducible rfl
                              rotate_left
                              · simp only [Act.put, List.setIfInBounds_toArray, List.set_cons_zero, List.set_cons_succ, i64_w, i32_w]
                                rfl
                              refine pure_ (i := 6) (N := some 199) (v := ?_) (a' := ?_) #[true, true, true, true, false, true, true, false, false, false, false, false, false] rfl rfl (any_of HT_.out (by kernel_rfl)) (fun _ _ _ h => h) (Or.inl ⟨by rfl, ?_⟩) ?_ ?_
                              rotate_left
                              · intro w'
                                go_simp
                                with_reducible rfl
                              rotate_left
                              · simp only [Act.put, List.setIfInBounds_toArray, List.set_cons_zero, List.set_cons_succ, i64_w, i32_w]
                                rfl
                              refine pure_ (i := 7) (N := some 200) (v := ?_) (a' := ?_) #[true, true, true, true, false, true, true, true, false, false, false, false, false] rfl rfl (any_of HT_.out (by kernel_rfl)) (fun _ _ _ h => h) (Or.inl ⟨by rfl, ?_⟩) ?_ ?_
                              rotate_left
                              · intro w'
                                go_simp
                                with_reducible rfl
                              rotate_left
                              · simp only [Act.put, List.setIfInBounds_toArray, List.set_cons_zero, List.set_cons_succ, i64_w, i32_w]
                                rfl
                              refine take_ (i := 4) (N := some 197) (v := ?_) (a' := ?_) #[true, true, true, true, true, true, true, true, false, false, false, false, false] rfl rfl (take_ofW HT_.out HW_.out (by kernel_rfl)) (fun _ _ _ h => h) (Or.inl ⟨by rfl, ?_⟩) hHeld ?_ ?_
                              rotate_left
                              · rintro w' ⟨s0, s1⟩
                                go_simp
                                with_reducible rfl
                              rotate_left
                              · simp only [Act.put, List.setIfInBounds_toArray, List.set_cons_zero, List.set_cons_succ, i64_w, i32_w]
                                rfl
                              refine take_ (i := 8) (N := some 201) (v := ?_) (a' := ?_) #[true, true, true, true, true, true, true, true, true, false, false, false, false] rfl rfl (take_ofW HT_.out HW_.out (by kernel_rfl)) (fun _ _ _ h => h) (Or.inl ⟨by rfl, ?_⟩) hHeld ?_ ?_
                              rotate_left
                              · rintro w' ⟨s0, s1⟩
                                go_simp
                                with_reducible rfl
                              rotate_left
                              · simp only [Act.put, List.setIfInBounds_toArray, List.set_cons_zero, List.set_cons_succ, i64_w, i32_w]
                                rfl
                              refine pure_ (i := 9) (N := some 202) (v := ?_) (a' := ?_) #[true, true, true, true, true, true, true, true, true, true, false, false, false] rfl rfl (any_of HT_.out (by kernel_rfl)) (fun _ _ _ h => h) (Or.inl ⟨by rfl, ?_⟩) ?_ ?_
                              rotate_left
                              · intro w'
                                go_simp
                                with_reducible rfl
                              rotate_left
                              · simp only [Act.put, List.setIfInBounds_toArray, List.set_cons_zero, List.set_cons_succ, i64_w, i32_w]
                                rfl
                              refine last_ (i := 10) (N := some 203) #[true, true, true, true, true, true, true, true, true, true, true, false, false] rfl rfl (one_of HT_.out (by kernel_rfl)) (by decide) (fun K hK => ?_)
                              refine value_ (w1 := ?_) (v := ?_) (by rfl) rfl ?_ ?_
                              rotate_left 2
                              · go_simp
                                constructor
                                · rfl
                                · rfl
                              refine hK.out _ _ ?_
                              clear hK K
                              refine norm_ (a' := ?_) ?_ ?_
                              rotate_left
                              · show Act.put _ (some 203) _ = _
                                simp only [Act.put, List.setIfInBounds_toArray, List.set_cons_zero, List.set_cons_succ, i64_w, i32_w]
                                rfl
                              refine last_ (i := 11) (N := some 204) #[true, true, true, true, true, true, true, true, true, true, true, true, false] rfl rfl (one_of HT_.out (by kernel_rfl)) (by decide) (fun K hK => ?_)
                              refine Kd.R_append_step (Kd.int .u32) (w0 := w) w.heap.size (by rfl) (.tmp 193) (.tmp 203) 50 33 (.int .u32 0) 4 rfl Tryd.underlying50 info33 rfl (by decide) (by omega) u22 x22_3 (((rd l0 x23_3) + (rd x14_2 x23_3)) % 4294967296) [.int .u32 (((rd l0 x23_3) + (rd x14_2 x23_3)) % 4294967296)] (fun k_ => some k_ ≠ (.slice (some ad200) x14_2.length co73 : Value).ownBlock) (fun _ => False) rfl rfl ?aP (fun _ hk => hk.elim) ?aF ?aO ?aB ?aS ?aL ?_
                              (case aP => exact rfl)
                              (case aB => exact (by repeat (first | (with_reducible first | exact HB.out | apply below_alloc | apply pw_below_drewN | apply below_drew1) | exact HB.out)))
                              (case aF => exact (fun k_ hk => Kd.fresh' (Kd.R_lt (by (with_reducible repeat (first | apply Kd.R_alloc | apply Kd.R_drewN | apply Kd.R_drew)); exact HO_14.out)) k_ hk))
                              (case aO => exact (by (with_reducible repeat (first | apply Kd.R_alloc | apply Kd.R_drewN | apply Kd.R_drew)); exact HO_22.out))
                              (case aS => exact (below_size (by repeat (first | (with_reducible first | exact HB.out | apply below_alloc | apply pw_below_drewN | apply below_drew1) | exact HB.out))))
                              (case aL => have := LMc71.out; omega)
                              intro v202 w74 ho hb hg hat
                              rw [← Ny201.out] at ho
                              have n0_ := Aside0.mk (Kd.R_after (ok := (fun _ => True)) (by (with_reducible repeat (first | apply Kd.R_alloc | apply Kd.R_drewN | apply Kd.R_drew)); exact Kd.R_mono HO_14.out (fun _ hk => ⟨trivial, hk⟩)) hg hat)
                              have n1_ := Aside0.mk (hb)
                              have n2_ := Aside0.mk (ho)
                              clear HO_14
                              clear HB
                              clear HO_22
                              have HO_14 := n0_
                              have HB := n1_
                              have HO203 := n2_
                              clear n0_ n1_ n2_
                              clear ho hb hg hat
                              refine hK.out _ _ ?_
                              clear hK K
                              refine norm_ (a' := ?_) ?_ ?_
                              rotate_left
                              · show Act.put _ (some 204) _ = _
                                simp only [Act.put, List.setIfInBounds_toArray, List.set_cons_zero, List.set_cons_succ, i64_w, i32_w]
                                rfl
                              refine pure_ (i := 12) (N := some 22) (v := ?_) (a' := ?_) #[true, true, true, true, true, true, true, true, true, true, true, true, true] rfl rfl (any_of HT_.out (by kernel_rfl)) (fun _ _ _ h => h) (Or.inl ⟨by rfl, ?_⟩) ?_ ?_
                              rotate_left
                              · intro w'
                                go_simp
                                with_reducible rfl
                              rotate_left
                              · simp only [Act.put, List.setIfInBounds_toArray, List.set_cons_zero, List.set_cons_succ, i64_w, i32_w]
                                rfl
                              refine done_ (done_of HT_.out (by kernel_rfl)) ?_
                              try go_wp2
                              go_roundg k3
                              case measure => have := HK1.out; have := HK2.out; have := HK3.out; omega
                              case rel => exact ⟨(y201), (wrap64 (x23_3 + 1)), (by first | rfl | (simp; done) | (simp [*]; done)), H', ⟨by have := HK1.out; have := HK2.out; have := HK3.out; omega⟩, ⟨by (with_reducible repeat (first | apply Kd.R_alloc | apply Kd.R_drewN | apply Kd.R_drew)); exact Kd.R_mono HO_14.out (fun _ hk => hk.2)⟩, ⟨by (with_reducible repeat (first | apply Kd.R_alloc | apply Kd.R_drewN | apply Kd.R_drew)); exact HO203.out⟩, ⟨by repeat (first | (with_reducible first | exact HB.out | apply below_alloc | apply pw_below_drewN | apply below_drew1) | exact HB.out)⟩⟩
                            · rw [if_neg c71] at H
                              exact absurd H (by simp)
                          · rw [if_neg c70] at H
                            exact absurd H (by simp)
                        · rw [if_neg c69] at H
                          exact absurd H (by simp)
                      · rw [if_neg c68] at H
                        exact absurd H (by simp)
                    · rw [if_neg c67] at H
                      have c67b0 : decide (x23_3 < 8) = false := decide_eq_false c67
                      clear c67
                      obtain rfl := Option.some.inj H
                      go_wp2
                      go_ret
                      exact ⟨_, by first | rfl | (simp [errW_none, errW_some] <;> rfl) | (simp [*, errW_none, errW_some] <;> rfl), by (with_reducible repeat (first | apply Kd.R_alloc | apply Kd.R_drewN | apply Kd.R_drew)); exact Kd.R_mono HO_22.out (fun _ hk => trivial), by repeat (first | (with_reducible first | exact HB.out | apply below_alloc | apply pw_below_drewN | apply below_drew1) | exact HB.out)⟩
        · rw [if_neg c35] at H
          exact absurd H (by simp)

end Go.Proofs.YtanafhccflmdkaaDoor.Xa
