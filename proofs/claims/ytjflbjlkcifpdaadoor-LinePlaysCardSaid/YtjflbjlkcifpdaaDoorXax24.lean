-- Written by a program of this session (wip/tools/xprint.py), in the manner of the print of the kit.
import Derived.Test.YtjflbjlkcifpdaaDoorXax0
import Derived.Test.YtjflbjlkcifpdaaDoorXax16
import Derived.Test.YtjflbjlkcifpdaaDoorXax17
import Derived.Test.YtjflbjlkcifpdaaDoorXax18
import Derived.Test.YtjflbjlkcifpdaaDoorXax22
import Derived.Test.YtjflbjlkcifpdaaDoorXax23
namespace Go.Proofs.YtjflbjlkcifpdaaDoor.Xa
open Go.RowKit Go.Proofs.YtjflbjlkcifpdaaDoorW.PrintWords Go.Proofs.YtjflbjlkcifpdaaDoorW.PrintLast Go.Proofs.YtjflbjlkcifpdaaDoorW.PrintMore
attribute [local go_sem] max2_int min2_int max_two min_two max_three min_three max_four min_four   -- for this text's walks alone
set_option linter.unusedVariables false
set_option linter.unusedSimpArgs false

/-! ### transeptref15_Feed: function 15 -/
mutual
def transeptref15_Feed.j0 : Nat → List (S31) → Bool → Int → Int → Int → ByteArray → ByteArray → ByteArray → ByteArray → Int → Int → Int → Option (Int)
  | 0, _, _, _, _, _, _, _, _, _, _, _, _ => none
  | k + 1, x0, x32, x170000, x170001, x170002, x170003, x170004, x170005, x170006, x170007, x170008, x170009 => if x32 = true then (some 6) else (if x170000 = 1 then (transeptref15_Feed.j2 k x0 ((x0.length : Int) == 0) x170000 x170001 x170002 x170003 x170004 x170005 x170006 x170007 x170008 x170009) else (if x170000 = 2 then (if (x0.length : Int) > 0 then ((transeptref15_started.f k x0 0).bind fun t172 => (transeptref15_Feed.j2 k x0 (!t172) x170000 x170001 x170002 x170003 x170004 x170005 x170006 x170007 x170008 x170009)) else (transeptref15_Feed.j2 k x0 false x170000 x170001 x170002 x170003 x170004 x170005 x170006 x170007 x170008 x170009)) else (if x170000 = 3 then (if (x0.length : Int) > 0 then ((transeptref15_started.f k x0 x170002).bind fun t173 => (transeptref15_Feed.j2 k x0 (!t173) x170000 x170001 x170002 x170003 x170004 x170005 x170006 x170007 x170008 x170009)) else (transeptref15_Feed.j2 k x0 false x170000 x170001 x170002 x170003 x170004 x170005 x170006 x170007 x170008 x170009)) else ((transeptref15_goes.f x170000).bind fun bt174 => ((transeptref15_State.f k x0 x170002).bind fun t178 => (transeptref15_Feed.l0 k x0 false bt174.1 t178 0 x170000 x170001 x170002 x170003 x170004 x170005 x170006 x170007 x170008 x170009))))))
def transeptref15_Feed.j2 : Nat → List (S31) → Bool → Int → Int → Int → ByteArray → ByteArray → ByteArray → ByteArray → Int → Int → Int → Option (Int)
  | 0, _, _, _, _, _, _, _, _, _, _, _, _ => none
  | k + 1, x0, x6, x170000, x170001, x170002, x170003, x170004, x170005, x170006, x170007, x170008, x170009 => if x6 = true then (if x170000 = 3 then ((transeptref15_Open.f k x0).bind fun t180 => (if t180 ≥ 64 then (some 5) else (some 0))) else (some 0)) else (some 6)
def transeptref15_Feed.l0 : Nat → List (S31) → Bool → List Int → Int → Int → Int → Int → Int → ByteArray → ByteArray → ByteArray → ByteArray → Int → Int → Int → Option (Int)
  | 0, _, _, _, _, _, _, _, _, _, _, _, _, _, _, _ => none
  | k + 1, x0, x6, x7, x9, x10, x170000, x170001, x170002, x170003, x170004, x170005, x170006, x170007, x170008, x170009 => if x10 < (x7.length : Int) then (if (x0.length : Int) > 0 then (if x6 = true then (transeptref15_Feed.l0 k x0 true x7 x9 (wrap64 (x10 + 1)) x170000 x170001 x170002 x170003 x170004 x170005 x170006 x170007 x170008 x170009) else (if 0 ≤ x10 then (transeptref15_Feed.l0 k x0 ((rd x7 x10) == x9) x7 x9 (wrap64 (x10 + 1)) x170000 x170001 x170002 x170003 x170004 x170005 x170006 x170007 x170008 x170009) else (none))) else (transeptref15_Feed.j2 k x0 x6 x170000 x170001 x170002 x170003 x170004 x170005 x170006 x170007 x170008 x170009)) else (transeptref15_Feed.j2 k x0 x6 x170000 x170001 x170002 x170003 x170004 x170005 x170006 x170007 x170008 x170009)
end
def transeptref15_Feed.f (k : Nat) (l0 : List (S31)) (a1_0 : Int) (a1_1 : Int) (a1_2 : Int) (a1_3 : ByteArray) (a1_4 : ByteArray) (a1_5 : ByteArray) (a1_6 : ByteArray) (a1_7 : Int) (a1_8 : Int) (a1_9 : Int) : Option (Int) := (transeptref05_Right.f k a1_0 a1_1 a1_2 a1_3 a1_4 a1_5 a1_6 a1_7 a1_8 a1_9).bind fun t170 => (if t170 = true then (if (l0.length : Int) ≥ 4096 then (some 5) else (if (l0.length : Int) > 0 then (if 0 ≤ (wrap64 ((l0.length : Int) - 1)) then (if (wrap64 ((l0.length : Int) - 1)) < (l0.length : Int) then (transeptref15_Feed.j0 k l0 (decide (a1_1 < ((rd_T31 l0 (wrap64 ((l0.length : Int) - 1))).f1))) a1_0 a1_1 a1_2 a1_3 a1_4 a1_5 a1_6 a1_7 a1_8 a1_9) else (none)) else (none)) else (transeptref15_Feed.j0 k l0 false a1_0 a1_1 a1_2 a1_3 a1_4 a1_5 a1_6 a1_7 a1_8 a1_9))) else (some 1))
theorem transeptref15_Feed.mono_l : ∀ k, (∀ y0 y1 y2 y3 y4 y5 y6 y7 y8 y9 y10 y11, LeO (transeptref15_Feed.j0 k y0 y1 y2 y3 y4 y5 y6 y7 y8 y9 y10 y11) (transeptref15_Feed.j0 (k + 1) y0 y1 y2 y3 y4 y5 y6 y7 y8 y9 y10 y11)) ∧ (∀ y0 y1 y2 y3 y4 y5 y6 y7 y8 y9 y10 y11, LeO (transeptref15_Feed.j2 k y0 y1 y2 y3 y4 y5 y6 y7 y8 y9 y10 y11) (transeptref15_Feed.j2 (k + 1) y0 y1 y2 y3 y4 y5 y6 y7 y8 y9 y10 y11)) ∧ (∀ y0 y1 y2 y3 y4 y5 y6 y7 y8 y9 y10 y11 y12 y13 y14, LeO (transeptref15_Feed.l0 k y0 y1 y2 y3 y4 y5 y6 y7 y8 y9 y10 y11 y12 y13 y14) (transeptref15_Feed.l0 (k + 1) y0 y1 y2 y3 y4 y5 y6 y7 y8 y9 y10 y11 y12 y13 y14))
  | 0 => ⟨fun _ _ _ _ _ _ _ _ _ _ _ _ r h => by simp [transeptref15_Feed.j0] at h, fun _ _ _ _ _ _ _ _ _ _ _ _ r h => by simp [transeptref15_Feed.j2] at h, fun _ _ _ _ _ _ _ _ _ _ _ _ _ _ _ r h => by simp [transeptref15_Feed.l0] at h⟩
  | k + 1 => by
    obtain ⟨ih0, ih1, ih2⟩ := transeptref15_Feed.mono_l k
    refine ⟨?_, ?_, ?_⟩
    · intro y0 y1 y2 y3 y4 y5 y6 y7 y8 y9 y10 y11
      unfold transeptref15_Feed.j0
      repeat' first
      | (with_reducible exact ih0 _ _ _ _ _ _ _ _ _ _ _ _)
      | (with_reducible exact ih1 _ _ _ _ _ _ _ _ _ _ _ _)
      | (with_reducible exact ih2 _ _ _ _ _ _ _ _ _ _ _ _ _ _ _)
      | (with_reducible exact transeptref05_Right.mono _ _ _ _ _ _ _ _ _ _ _)
      | (with_reducible exact transeptref15_Open.mono _ _)
      | (with_reducible exact transeptref15_State.mono _ _ _)
      | (with_reducible exact transeptref15_started.mono _ _ _)
      | (with_reducible exact LeO.refl _)
      | (with_reducible exact LeO.none _)
      | (with_reducible refine LeO.ite ?_ ?_)
      | (with_reducible refine LeO.bind ?_ (fun _ => ?_))
      | exact ih0 _ _ _ _ _ _ _ _ _ _ _ _
      | exact ih1 _ _ _ _ _ _ _ _ _ _ _ _
      | exact ih2 _ _ _ _ _ _ _ _ _ _ _ _ _ _ _
      | exact transeptref05_Right.mono _ _ _ _ _ _ _ _ _ _ _
      | exact transeptref15_Open.mono _ _
      | exact transeptref15_State.mono _ _ _
      | exact transeptref15_started.mono _ _ _
      | exact LeO.none _
      | refine LeO.ite ?_ ?_
      | refine LeO.bind ?_ (fun _ => ?_)
    · intro y0 y1 y2 y3 y4 y5 y6 y7 y8 y9 y10 y11
      unfold transeptref15_Feed.j2
      repeat' first
      | (with_reducible exact ih0 _ _ _ _ _ _ _ _ _ _ _ _)
      | (with_reducible exact ih1 _ _ _ _ _ _ _ _ _ _ _ _)
      | (with_reducible exact ih2 _ _ _ _ _ _ _ _ _ _ _ _ _ _ _)
      | (with_reducible exact transeptref05_Right.mono _ _ _ _ _ _ _ _ _ _ _)
      | (with_reducible exact transeptref15_Open.mono _ _)
      | (with_reducible exact transeptref15_State.mono _ _ _)
      | (with_reducible exact transeptref15_started.mono _ _ _)
      | (with_reducible exact LeO.refl _)
      | (with_reducible exact LeO.none _)
      | (with_reducible refine LeO.ite ?_ ?_)
      | (with_reducible refine LeO.bind ?_ (fun _ => ?_))
      | exact ih0 _ _ _ _ _ _ _ _ _ _ _ _
      | exact ih1 _ _ _ _ _ _ _ _ _ _ _ _
      | exact ih2 _ _ _ _ _ _ _ _ _ _ _ _ _ _ _
      | exact transeptref05_Right.mono _ _ _ _ _ _ _ _ _ _ _
      | exact transeptref15_Open.mono _ _
      | exact transeptref15_State.mono _ _ _
      | exact transeptref15_started.mono _ _ _
      | exact LeO.none _
      | refine LeO.ite ?_ ?_
      | refine LeO.bind ?_ (fun _ => ?_)
    · intro y0 y1 y2 y3 y4 y5 y6 y7 y8 y9 y10 y11 y12 y13 y14
      unfold transeptref15_Feed.l0
      repeat' first
      | (with_reducible exact ih0 _ _ _ _ _ _ _ _ _ _ _ _)
      | (with_reducible exact ih1 _ _ _ _ _ _ _ _ _ _ _ _)
      | (with_reducible exact ih2 _ _ _ _ _ _ _ _ _ _ _ _ _ _ _)
      | (with_reducible exact transeptref05_Right.mono _ _ _ _ _ _ _ _ _ _ _)
      | (with_reducible exact transeptref15_Open.mono _ _)
      | (with_reducible exact transeptref15_State.mono _ _ _)
      | (with_reducible exact transeptref15_started.mono _ _ _)
      | (with_reducible exact LeO.refl _)
      | (with_reducible exact LeO.none _)
      | (with_reducible refine LeO.ite ?_ ?_)
      | (with_reducible refine LeO.bind ?_ (fun _ => ?_))
      | exact ih0 _ _ _ _ _ _ _ _ _ _ _ _
      | exact ih1 _ _ _ _ _ _ _ _ _ _ _ _
      | exact ih2 _ _ _ _ _ _ _ _ _ _ _ _ _ _ _
      | exact transeptref05_Right.mono _ _ _ _ _ _ _ _ _ _ _
      | exact transeptref15_Open.mono _ _
      | exact transeptref15_State.mono _ _ _
      | exact transeptref15_started.mono _ _ _
      | exact LeO.none _
      | refine LeO.ite ?_ ?_
      | refine LeO.bind ?_ (fun _ => ?_)
theorem transeptref15_Feed.mono : ∀ a0 a1 a2 a3 a4 a5 a6 a7 a8 a9 a10 k, LeO (transeptref15_Feed.f k a0 a1 a2 a3 a4 a5 a6 a7 a8 a9 a10) (transeptref15_Feed.f (k + 1) a0 a1 a2 a3 a4 a5 a6 a7 a8 a9 a10) := by
  intro a0 a1 a2 a3 a4 a5 a6 a7 a8 a9 a10 k
  obtain ⟨ih0, ih1, ih2⟩ := transeptref15_Feed.mono_l k
  unfold transeptref15_Feed.f
  repeat' first
      | (with_reducible exact ih0 _ _ _ _ _ _ _ _ _ _ _ _)
      | (with_reducible exact ih1 _ _ _ _ _ _ _ _ _ _ _ _)
      | (with_reducible exact ih2 _ _ _ _ _ _ _ _ _ _ _ _ _ _ _)
      | (with_reducible exact transeptref05_Right.mono _ _ _ _ _ _ _ _ _ _ _)
      | (with_reducible exact transeptref15_Open.mono _ _)
      | (with_reducible exact transeptref15_State.mono _ _ _)
      | (with_reducible exact transeptref15_started.mono _ _ _)
      | (with_reducible exact LeO.refl _)
      | (with_reducible exact LeO.none _)
      | (with_reducible refine LeO.ite ?_ ?_)
      | (with_reducible refine LeO.bind ?_ (fun _ => ?_))
      | exact ih0 _ _ _ _ _ _ _ _ _ _ _ _
      | exact ih1 _ _ _ _ _ _ _ _ _ _ _ _
      | exact ih2 _ _ _ _ _ _ _ _ _ _ _ _ _ _ _
      | exact transeptref05_Right.mono _ _ _ _ _ _ _ _ _ _ _
      | exact transeptref15_Open.mono _ _
      | exact transeptref15_State.mono _ _ _
      | exact transeptref15_started.mono _ _ _
      | exact LeO.none _
      | refine LeO.ite ?_ ?_
      | refine LeO.bind ?_ (fun _ => ?_)
set_option maxHeartbeats 8000000 in
set_option maxRecDepth 100000 in
theorem transeptref15_Feed.calls (k : Nat) (A0 : Option Addr) (c0 : Nat) (l0 : List (S31)) (a1_0 : Int) (a1_1 : Int) (a1_2 : Int) (a1_3 : ByteArray) (a1_4 : ByteArray) (a1_5 : ByteArray) (a1_6 : ByteArray) (a1_7 : Int) (a1_8 : Int) (a1_9 : Int) (r : Int) (w : World) (hr0 : Kd.C k31 w A0 l0.length l0) (hc0 : l0.length ≤ c0) (h : transeptref15_Feed.f k l0 a1_0 a1_1 a1_2 a1_3 a1_4 a1_5 a1_6 a1_7 a1_8 a1_9 = some r) :
    Calls Tryd.prog 15 #[.slice A0 l0.length c0, .agg #[.int .i64 a1_0, .int .u64 a1_1, .int .u64 a1_2, .string a1_3, .string a1_4, .string a1_5, .string a1_6, .int .i64 a1_7, .int .i64 a1_8, .int .i64 a1_9]] w fun e w' => e = .returned (.int .i64 r) ∧ Below w.heap.size w w' := by
  have hu31 := Tryd.underlying31
  have HR0 := Aside0.mk hr0
  have HC0 := Aside0.mk hc0
  clear hr0 hc0
  have HB := Aside0.mk (Below.refl w.heap.size w)
  have H : ((transeptref05_Right.f k a1_0 a1_1 a1_2 a1_3 a1_4 a1_5 a1_6 a1_7 a1_8 a1_9).bind fun t170 => (if t170 = true then (if (l0.length : Int) ≥ 4096 then (some 5) else (if (l0.length : Int) > 0 then (if 0 ≤ (wrap64 ((l0.length : Int) - 1)) then (if (wrap64 ((l0.length : Int) - 1)) < (l0.length : Int) then (transeptref15_Feed.j0 k l0 (decide (a1_1 < ((rd_T31 l0 (wrap64 ((l0.length : Int) - 1))).f1))) a1_0 a1_1 a1_2 a1_3 a1_4 a1_5 a1_6 a1_7 a1_8 a1_9) else (none)) else (none)) else (transeptref15_Feed.j0 k l0 false a1_0 a1_1 a1_2 a1_3 a1_4 a1_5 a1_6 a1_7 a1_8 a1_9))) else (some 1))) = some r := h
  clear h
  replace H := Option.bind_eq_some_iff.mp H
  obtain ⟨t170, A30, H⟩ := H
  replace H : (if t170 = true then (if (l0.length : Int) ≥ 4096 then (some 5) else (if (l0.length : Int) > 0 then (if 0 ≤ (wrap64 ((l0.length : Int) - 1)) then (if (wrap64 ((l0.length : Int) - 1)) < (l0.length : Int) then (transeptref15_Feed.j0 k l0 (decide (a1_1 < ((rd_T31 l0 (wrap64 ((l0.length : Int) - 1))).f1))) a1_0 a1_1 a1_2 a1_3 a1_4 a1_5 a1_6 a1_7 a1_8 a1_9) else (none)) else (none)) else (transeptref15_Feed.j0 k l0 false a1_0 a1_1 a1_2 a1_3 a1_4 a1_5 a1_6 a1_7 a1_8 a1_9))) else (some 1)) = some r := H
  have A3 := Aside0.mk A30
  clear A30
  by_cases c4 : t170 = true
  · subst c4
    have H1 : (if (l0.length : Int) ≥ 4096 then (some 5) else (if (l0.length : Int) > 0 then (if 0 ≤ (wrap64 ((l0.length : Int) - 1)) then (if (wrap64 ((l0.length : Int) - 1)) < (l0.length : Int) then (transeptref15_Feed.j0 k l0 (decide (a1_1 < ((rd_T31 l0 (wrap64 ((l0.length : Int) - 1))).f1))) a1_0 a1_1 a1_2 a1_3 a1_4 a1_5 a1_6 a1_7 a1_8 a1_9) else (none)) else (none)) else (transeptref15_Feed.j0 k l0 false a1_0 a1_1 a1_2 a1_3 a1_4 a1_5 a1_6 a1_7 a1_8 a1_9))) = some r := by rw [if_pos rfl] at H; exact H
    clear H
    have H := H1
    clear H1
    by_cases c5 : (l0.length : Int) ≥ 4096
    · rw [if_pos c5] at H
      have c5b0 : decide (4096 ≤ (l0.length : Int)) = true := decide_eq_true c5
      have c5b1 : decide (4096 ≤ l0.length) = true := decide_eq_true (by omega)
      clear c5
      obtain rfl := Option.some.inj H
      go_enter Tryd.func15, Tryd.ntmps15
      go_wp2_with (first | ((with_reducible refine gate_dst (N := 3) rfl ?_); (try (refine gate_guard (by rfl) ?_; dsimp only)); refine box_event ?hg (N := 3) ?hd (cs := #[.int .i64 a1_0, .int .u64 a1_1, .int .u64 a1_2, .string a1_3, .string a1_4, .string a1_5, .string a1_6, .int .i64 a1_7, .int .i64 a1_8, .int .i64 a1_9]) (t := 31) ?hr ?_; (case hd => rfl); (case hg => rfl); (case hr => first | (go_simp; done) | (go_simp; rfl)); intro gb169 hg w6 hbox hb; have n0_ := Aside0.mk (below_step (by repeat (first | (with_reducible first | exact HB.out | apply below_alloc | apply pw_below_drewN | apply below_drew1) | exact HB.out)) hb); have n1_ := Aside0.mk (hbox); have n2_ := Aside0.mk ((by rw [hg]; exact (below_size (by repeat (first | (with_reducible first | exact HB.out | apply below_alloc | apply pw_below_drewN | apply below_drew1) | exact HB.out))) : w.heap.size ≤ gb169)); have n3_ := Aside0.mk ((by rw [hg]; exact (below_size (by repeat (first | (with_reducible first | exact HB.out | apply below_alloc | apply pw_below_drewN | apply below_drew1) | exact HB.out))) : w.heap.size ≤ gb169)); clear HB; have HB := n0_; have BK169 := n1_; have GW169 := n2_; have GE169 := n3_; clear n0_ n1_ n2_ n3_; clear hb hbox hg; have hcz7_0 : w6.cell? ⟨gb169, 0, none⟩ = some (.int .i64 a1_0) := (blk_cell BK169.out 0).trans rfl; have hcz7_1 : w6.cell? ⟨gb169, 1, none⟩ = some (.int .u64 a1_1) := (blk_cell BK169.out 1).trans rfl; have hcz7_2 : w6.cell? ⟨gb169, 2, none⟩ = some (.int .u64 a1_2) := (blk_cell BK169.out 2).trans rfl; have hcz7_3 : w6.cell? ⟨gb169, 3, none⟩ = some (.string a1_3) := (blk_cell BK169.out 3).trans rfl; have hcz7_4 : w6.cell? ⟨gb169, 4, none⟩ = some (.string a1_4) := (blk_cell BK169.out 4).trans rfl; have hcz7_5 : w6.cell? ⟨gb169, 5, none⟩ = some (.string a1_5) := (blk_cell BK169.out 5).trans rfl; have hcz7_6 : w6.cell? ⟨gb169, 6, none⟩ = some (.string a1_6) := (blk_cell BK169.out 6).trans rfl; have hcz7_7 : w6.cell? ⟨gb169, 7, none⟩ = some (.int .i64 a1_7) := (blk_cell BK169.out 7).trans rfl; have hcz7_8 : w6.cell? ⟨gb169, 8, none⟩ = some (.int .i64 a1_8) := (blk_cell BK169.out 8).trans rfl; have hcz7_9 : w6.cell? ⟨gb169, 9, none⟩ = some (.int .i64 a1_9) := (blk_cell BK169.out 9).trans rfl; have hfz7_0 := blk_frozen BK169.out 0; have hfz7_1 := blk_frozen BK169.out 1; have hfz7_2 := blk_frozen BK169.out 2; have hfz7_3 := blk_frozen BK169.out 3; have hfz7_4 := blk_frozen BK169.out 4; have hfz7_5 := blk_frozen BK169.out 5; have hfz7_6 := blk_frozen BK169.out 6; have hfz7_7 := blk_frozen BK169.out 7; have hfz7_8 := blk_frozen BK169.out 8; have hfz7_9 := blk_frozen BK169.out 9) | (go_at_call 25; (with_reducible refine (transeptref05_Right.calls k a1_0 a1_1 a1_2 a1_3 a1_4 a1_5 a1_6 a1_7 a1_8 a1_9 true _ A3.out).mono ?_); rintro e w8 ⟨rfl, hb⟩; have n0_ := Aside0.mk (blk_below (g := gb169) (o := .cells #[.int .i64 a1_0, .int .u64 a1_1, .int .u64 a1_2, .string a1_3, .string a1_4, .string a1_5, .string a1_6, .int .i64 a1_7, .int .i64 a1_8, .int .i64 a1_9] 31 (0, 0)) (by (with_reducible repeat (first | refine blk_drewN ?_ _ | refine blk_drew ?_ | refine blk_alloc ?_ _)); exact BK169.out) hb); have n1_ := Aside0.mk (below_step (by repeat (first | (with_reducible first | exact HB.out | apply below_alloc | apply pw_below_drewN | apply below_drew1 | refine below_set ?_ GE169.out) | exact HB.out)) hb); clear BK169; clear HB; have BK169 := n0_; have HB := n1_; clear n0_ n1_; (try clear hb); (try clear hb2); (try clear hk); (try clear hi)))
      repeat (go_quiet (first | ((with_reducible refine gate_dst (N := 3) rfl ?_); (try (refine gate_guard (by rfl) ?_; dsimp only)); refine box_event ?hg (N := 3) ?hd (cs := #[.int .i64 a1_0, .int .u64 a1_1, .int .u64 a1_2, .string a1_3, .string a1_4, .string a1_5, .string a1_6, .int .i64 a1_7, .int .i64 a1_8, .int .i64 a1_9]) (t := 31) ?hr ?_; (case hd => rfl); (case hg => rfl); (case hr => first | (go_simp; done) | (go_simp; rfl)); intro gb169 hg w6 hbox hb; have n0_ := Aside0.mk (below_step (by repeat (first | (with_reducible first | exact HB.out | apply below_alloc | apply pw_below_drewN | apply below_drew1) | exact HB.out)) hb); have n1_ := Aside0.mk (hbox); have n2_ := Aside0.mk ((by rw [hg]; exact (below_size (by repeat (first | (with_reducible first | exact HB.out | apply below_alloc | apply pw_below_drewN | apply below_drew1) | exact HB.out))) : w.heap.size ≤ gb169)); have n3_ := Aside0.mk ((by rw [hg]; exact (below_size (by repeat (first | (with_reducible first | exact HB.out | apply below_alloc | apply pw_below_drewN | apply below_drew1) | exact HB.out))) : w.heap.size ≤ gb169)); clear HB; have HB := n0_; have BK169 := n1_; have GW169 := n2_; have GE169 := n3_; clear n0_ n1_ n2_ n3_; clear hb hbox hg; have hcz7_0 : w6.cell? ⟨gb169, 0, none⟩ = some (.int .i64 a1_0) := (blk_cell BK169.out 0).trans rfl; have hcz7_1 : w6.cell? ⟨gb169, 1, none⟩ = some (.int .u64 a1_1) := (blk_cell BK169.out 1).trans rfl; have hcz7_2 : w6.cell? ⟨gb169, 2, none⟩ = some (.int .u64 a1_2) := (blk_cell BK169.out 2).trans rfl; have hcz7_3 : w6.cell? ⟨gb169, 3, none⟩ = some (.string a1_3) := (blk_cell BK169.out 3).trans rfl; have hcz7_4 : w6.cell? ⟨gb169, 4, none⟩ = some (.string a1_4) := (blk_cell BK169.out 4).trans rfl; have hcz7_5 : w6.cell? ⟨gb169, 5, none⟩ = some (.string a1_5) := (blk_cell BK169.out 5).trans rfl; have hcz7_6 : w6.cell? ⟨gb169, 6, none⟩ = some (.string a1_6) := (blk_cell BK169.out 6).trans rfl; have hcz7_7 : w6.cell? ⟨gb169, 7, none⟩ = some (.int .i64 a1_7) := (blk_cell BK169.out 7).trans rfl; have hcz7_8 : w6.cell? ⟨gb169, 8, none⟩ = some (.int .i64 a1_8) := (blk_cell BK169.out 8).trans rfl; have hcz7_9 : w6.cell? ⟨gb169, 9, none⟩ = some (.int .i64 a1_9) := (blk_cell BK169.out 9).trans rfl; have hfz7_0 := blk_frozen BK169.out 0; have hfz7_1 := blk_frozen BK169.out 1; have hfz7_2 := blk_frozen BK169.out 2; have hfz7_3 := blk_frozen BK169.out 3; have hfz7_4 := blk_frozen BK169.out 4; have hfz7_5 := blk_frozen BK169.out 5; have hfz7_6 := blk_frozen BK169.out 6; have hfz7_7 := blk_frozen BK169.out 7; have hfz7_8 := blk_frozen BK169.out 8; have hfz7_9 := blk_frozen BK169.out 9) | (go_at_call 25; (with_reducible refine (transeptref05_Right.calls k a1_0 a1_1 a1_2 a1_3 a1_4 a1_5 a1_6 a1_7 a1_8 a1_9 true _ A3.out).mono ?_); rintro e w8 ⟨rfl, hb⟩; have n0_ := Aside0.mk (blk_below (g := gb169) (o := .cells #[.int .i64 a1_0, .int .u64 a1_1, .int .u64 a1_2, .string a1_3, .string a1_4, .string a1_5, .string a1_6, .int .i64 a1_7, .int .i64 a1_8, .int .i64 a1_9] 31 (0, 0)) (by (with_reducible repeat (first | refine blk_drewN ?_ _ | refine blk_drew ?_ | refine blk_alloc ?_ _)); exact BK169.out) hb); have n1_ := Aside0.mk (below_step (by repeat (first | (with_reducible first | exact HB.out | apply below_alloc | apply pw_below_drewN | apply below_drew1 | refine below_set ?_ GE169.out) | exact HB.out)) hb); clear BK169; clear HB; have BK169 := n0_; have HB := n1_; clear n0_ n1_; (try clear hb); (try clear hb2); (try clear hk); (try clear hi))); try go_wp2_with (first | ((with_reducible refine gate_dst (N := 3) rfl ?_); (try (refine gate_guard (by rfl) ?_; dsimp only)); refine box_event ?hg (N := 3) ?hd (cs := #[.int .i64 a1_0, .int .u64 a1_1, .int .u64 a1_2, .string a1_3, .string a1_4, .string a1_5, .string a1_6, .int .i64 a1_7, .int .i64 a1_8, .int .i64 a1_9]) (t := 31) ?hr ?_; (case hd => rfl); (case hg => rfl); (case hr => first | (go_simp; done) | (go_simp; rfl)); intro gb169 hg w6 hbox hb; have n0_ := Aside0.mk (below_step (by repeat (first | (with_reducible first | exact HB.out | apply below_alloc | apply pw_below_drewN | apply below_drew1) | exact HB.out)) hb); have n1_ := Aside0.mk (hbox); have n2_ := Aside0.mk ((by rw [hg]; exact (below_size (by repeat (first | (with_reducible first | exact HB.out | apply below_alloc | apply pw_below_drewN | apply below_drew1) | exact HB.out))) : w.heap.size ≤ gb169)); have n3_ := Aside0.mk ((by rw [hg]; exact (below_size (by repeat (first | (with_reducible first | exact HB.out | apply below_alloc | apply pw_below_drewN | apply below_drew1) | exact HB.out))) : w.heap.size ≤ gb169)); clear HB; have HB := n0_; have BK169 := n1_; have GW169 := n2_; have GE169 := n3_; clear n0_ n1_ n2_ n3_; clear hb hbox hg; have hcz7_0 : w6.cell? ⟨gb169, 0, none⟩ = some (.int .i64 a1_0) := (blk_cell BK169.out 0).trans rfl; have hcz7_1 : w6.cell? ⟨gb169, 1, none⟩ = some (.int .u64 a1_1) := (blk_cell BK169.out 1).trans rfl; have hcz7_2 : w6.cell? ⟨gb169, 2, none⟩ = some (.int .u64 a1_2) := (blk_cell BK169.out 2).trans rfl; have hcz7_3 : w6.cell? ⟨gb169, 3, none⟩ = some (.string a1_3) := (blk_cell BK169.out 3).trans rfl; have hcz7_4 : w6.cell? ⟨gb169, 4, none⟩ = some (.string a1_4) := (blk_cell BK169.out 4).trans rfl; have hcz7_5 : w6.cell? ⟨gb169, 5, none⟩ = some (.string a1_5) := (blk_cell BK169.out 5).trans rfl; have hcz7_6 : w6.cell? ⟨gb169, 6, none⟩ = some (.string a1_6) := (blk_cell BK169.out 6).trans rfl; have hcz7_7 : w6.cell? ⟨gb169, 7, none⟩ = some (.int .i64 a1_7) := (blk_cell BK169.out 7).trans rfl; have hcz7_8 : w6.cell? ⟨gb169, 8, none⟩ = some (.int .i64 a1_8) := (blk_cell BK169.out 8).trans rfl; have hcz7_9 : w6.cell? ⟨gb169, 9, none⟩ = some (.int .i64 a1_9) := (blk_cell BK169.out 9).trans rfl; have hfz7_0 := blk_frozen BK169.out 0; have hfz7_1 := blk_frozen BK169.out 1; have hfz7_2 := blk_frozen BK169.out 2; have hfz7_3 := blk_frozen BK169.out 3; have hfz7_4 := blk_frozen BK169.out 4; have hfz7_5 := blk_frozen BK169.out 5; have hfz7_6 := blk_frozen BK169.out 6; have hfz7_7 := blk_frozen BK169.out 7; have hfz7_8 := blk_frozen BK169.out 8; have hfz7_9 := blk_frozen BK169.out 9) | (go_at_call 25; (with_reducible refine (transeptref05_Right.calls k a1_0 a1_1 a1_2 a1_3 a1_4 a1_5 a1_6 a1_7 a1_8 a1_9 true _ A3.out).mono ?_); rintro e w8 ⟨rfl, hb⟩; have n0_ := Aside0.mk (blk_below (g := gb169) (o := .cells #[.int .i64 a1_0, .int .u64 a1_1, .int .u64 a1_2, .string a1_3, .string a1_4, .string a1_5, .string a1_6, .int .i64 a1_7, .int .i64 a1_8, .int .i64 a1_9] 31 (0, 0)) (by (with_reducible repeat (first | refine blk_drewN ?_ _ | refine blk_drew ?_ | refine blk_alloc ?_ _)); exact BK169.out) hb); have n1_ := Aside0.mk (below_step (by repeat (first | (with_reducible first | exact HB.out | apply below_alloc | apply pw_below_drewN | apply below_drew1 | refine below_set ?_ GE169.out) | exact HB.out)) hb); clear BK169; clear HB; have BK169 := n0_; have HB := n1_; clear n0_ n1_; (try clear hb); (try clear hb2); (try clear hk); (try clear hi))))
      go_ret
      exact ⟨by first | rfl | (simp [errW_none, errW_some] <;> rfl) | (simp [*, errW_none, errW_some] <;> rfl), by repeat (first | (with_reducible first | exact HB.out | apply below_alloc | apply pw_below_drewN | apply below_drew1 | refine below_set ?_ GE169.out) | exact HB.out)⟩
    · rw [if_neg c5] at H
      have c5b0 : decide (4096 ≤ (l0.length : Int)) = false := decide_eq_false c5
      have c5b1 : decide (4096 ≤ l0.length) = false := decide_eq_false (by omega)
      clear c5
      have HC9 := Aside0.mk H
      clear H
      go_enter Tryd.func15, Tryd.ntmps15
      go_upto_region 6 with (first | ((with_reducible refine gate_dst (N := 3) rfl ?_); (try (refine gate_guard (by rfl) ?_; dsimp only)); refine box_event ?hg (N := 3) ?hd (cs := #[.int .i64 a1_0, .int .u64 a1_1, .int .u64 a1_2, .string a1_3, .string a1_4, .string a1_5, .string a1_6, .int .i64 a1_7, .int .i64 a1_8, .int .i64 a1_9]) (t := 31) ?hr ?_; (case hd => rfl); (case hg => rfl); (case hr => first | (go_simp; done) | (go_simp; rfl)); intro gb169 hg w10 hbox hb; have n0_ := Aside0.mk (below_step (by repeat (first | (with_reducible first | exact HB.out | apply below_alloc | apply pw_below_drewN | apply below_drew1) | exact HB.out)) hb); have n1_ := Aside0.mk (hbox); have n2_ := Aside0.mk ((by rw [hg]; exact (below_size (by repeat (first | (with_reducible first | exact HB.out | apply below_alloc | apply pw_below_drewN | apply below_drew1) | exact HB.out))) : w.heap.size ≤ gb169)); have n3_ := Aside0.mk ((by rw [hg]; exact (below_size (by repeat (first | (with_reducible first | exact HB.out | apply below_alloc | apply pw_below_drewN | apply below_drew1) | exact HB.out))) : w.heap.size ≤ gb169)); clear HB; have HB := n0_; have BK169 := n1_; have GW169 := n2_; have GE169 := n3_; clear n0_ n1_ n2_ n3_; clear hb hbox hg; have hcz11_0 : w10.cell? ⟨gb169, 0, none⟩ = some (.int .i64 a1_0) := (blk_cell BK169.out 0).trans rfl; have hcz11_1 : w10.cell? ⟨gb169, 1, none⟩ = some (.int .u64 a1_1) := (blk_cell BK169.out 1).trans rfl; have hcz11_2 : w10.cell? ⟨gb169, 2, none⟩ = some (.int .u64 a1_2) := (blk_cell BK169.out 2).trans rfl; have hcz11_3 : w10.cell? ⟨gb169, 3, none⟩ = some (.string a1_3) := (blk_cell BK169.out 3).trans rfl; have hcz11_4 : w10.cell? ⟨gb169, 4, none⟩ = some (.string a1_4) := (blk_cell BK169.out 4).trans rfl; have hcz11_5 : w10.cell? ⟨gb169, 5, none⟩ = some (.string a1_5) := (blk_cell BK169.out 5).trans rfl; have hcz11_6 : w10.cell? ⟨gb169, 6, none⟩ = some (.string a1_6) := (blk_cell BK169.out 6).trans rfl; have hcz11_7 : w10.cell? ⟨gb169, 7, none⟩ = some (.int .i64 a1_7) := (blk_cell BK169.out 7).trans rfl; have hcz11_8 : w10.cell? ⟨gb169, 8, none⟩ = some (.int .i64 a1_8) := (blk_cell BK169.out 8).trans rfl; have hcz11_9 : w10.cell? ⟨gb169, 9, none⟩ = some (.int .i64 a1_9) := (blk_cell BK169.out 9).trans rfl; have hfz11_0 := blk_frozen BK169.out 0; have hfz11_1 := blk_frozen BK169.out 1; have hfz11_2 := blk_frozen BK169.out 2; have hfz11_3 := blk_frozen BK169.out 3; have hfz11_4 := blk_frozen BK169.out 4; have hfz11_5 := blk_frozen BK169.out 5; have hfz11_6 := blk_frozen BK169.out 6; have hfz11_7 := blk_frozen BK169.out 7; have hfz11_8 := blk_frozen BK169.out 8; have hfz11_9 := blk_frozen BK169.out 9) | (go_at_call 25; (with_reducible refine (transeptref05_Right.calls k a1_0 a1_1 a1_2 a1_3 a1_4 a1_5 a1_6 a1_7 a1_8 a1_9 true _ A3.out).mono ?_); rintro e w12 ⟨rfl, hb⟩; have n0_ := Aside0.mk (blk_below (g := gb169) (o := .cells #[.int .i64 a1_0, .int .u64 a1_1, .int .u64 a1_2, .string a1_3, .string a1_4, .string a1_5, .string a1_6, .int .i64 a1_7, .int .i64 a1_8, .int .i64 a1_9] 31 (0, 0)) (by (with_reducible repeat (first | refine blk_drewN ?_ _ | refine blk_drew ?_ | refine blk_alloc ?_ _)); exact BK169.out) hb); have n1_ := Aside0.mk (below_step (by repeat (first | (with_reducible first | exact HB.out | apply below_alloc | apply pw_below_drewN | apply below_drew1 | refine below_set ?_ GE169.out) | exact HB.out)) hb); clear BK169; clear HB; have BK169 := n0_; have HB := n1_; clear n0_ n1_; (try clear hb); (try clear hb2); (try clear hk); (try clear hi)))
      repeat (go_quiet (first | ((with_reducible refine gate_dst (N := 3) rfl ?_); (try (refine gate_guard (by rfl) ?_; dsimp only)); refine box_event ?hg (N := 3) ?hd (cs := #[.int .i64 a1_0, .int .u64 a1_1, .int .u64 a1_2, .string a1_3, .string a1_4, .string a1_5, .string a1_6, .int .i64 a1_7, .int .i64 a1_8, .int .i64 a1_9]) (t := 31) ?hr ?_; (case hd => rfl); (case hg => rfl); (case hr => first | (go_simp; done) | (go_simp; rfl)); intro gb169 hg w10 hbox hb; have n0_ := Aside0.mk (below_step (by repeat (first | (with_reducible first | exact HB.out | apply below_alloc | apply pw_below_drewN | apply below_drew1) | exact HB.out)) hb); have n1_ := Aside0.mk (hbox); have n2_ := Aside0.mk ((by rw [hg]; exact (below_size (by repeat (first | (with_reducible first | exact HB.out | apply below_alloc | apply pw_below_drewN | apply below_drew1) | exact HB.out))) : w.heap.size ≤ gb169)); have n3_ := Aside0.mk ((by rw [hg]; exact (below_size (by repeat (first | (with_reducible first | exact HB.out | apply below_alloc | apply pw_below_drewN | apply below_drew1) | exact HB.out))) : w.heap.size ≤ gb169)); clear HB; have HB := n0_; have BK169 := n1_; have GW169 := n2_; have GE169 := n3_; clear n0_ n1_ n2_ n3_; clear hb hbox hg; have hcz11_0 : w10.cell? ⟨gb169, 0, none⟩ = some (.int .i64 a1_0) := (blk_cell BK169.out 0).trans rfl; have hcz11_1 : w10.cell? ⟨gb169, 1, none⟩ = some (.int .u64 a1_1) := (blk_cell BK169.out 1).trans rfl; have hcz11_2 : w10.cell? ⟨gb169, 2, none⟩ = some (.int .u64 a1_2) := (blk_cell BK169.out 2).trans rfl; have hcz11_3 : w10.cell? ⟨gb169, 3, none⟩ = some (.string a1_3) := (blk_cell BK169.out 3).trans rfl; have hcz11_4 : w10.cell? ⟨gb169, 4, none⟩ = some (.string a1_4) := (blk_cell BK169.out 4).trans rfl; have hcz11_5 : w10.cell? ⟨gb169, 5, none⟩ = some (.string a1_5) := (blk_cell BK169.out 5).trans rfl; have hcz11_6 : w10.cell? ⟨gb169, 6, none⟩ = some (.string a1_6) := (blk_cell BK169.out 6).trans rfl; have hcz11_7 : w10.cell? ⟨gb169, 7, none⟩ = some (.int .i64 a1_7) := (blk_cell BK169.out 7).trans rfl; have hcz11_8 : w10.cell? ⟨gb169, 8, none⟩ = some (.int .i64 a1_8) := (blk_cell BK169.out 8).trans rfl; have hcz11_9 : w10.cell? ⟨gb169, 9, none⟩ = some (.int .i64 a1_9) := (blk_cell BK169.out 9).trans rfl; have hfz11_0 := blk_frozen BK169.out 0; have hfz11_1 := blk_frozen BK169.out 1; have hfz11_2 := blk_frozen BK169.out 2; have hfz11_3 := blk_frozen BK169.out 3; have hfz11_4 := blk_frozen BK169.out 4; have hfz11_5 := blk_frozen BK169.out 5; have hfz11_6 := blk_frozen BK169.out 6; have hfz11_7 := blk_frozen BK169.out 7; have hfz11_8 := blk_frozen BK169.out 8; have hfz11_9 := blk_frozen BK169.out 9) | (go_at_call 25; (with_reducible refine (transeptref05_Right.calls k a1_0 a1_1 a1_2 a1_3 a1_4 a1_5 a1_6 a1_7 a1_8 a1_9 true _ A3.out).mono ?_); rintro e w12 ⟨rfl, hb⟩; have n0_ := Aside0.mk (blk_below (g := gb169) (o := .cells #[.int .i64 a1_0, .int .u64 a1_1, .int .u64 a1_2, .string a1_3, .string a1_4, .string a1_5, .string a1_6, .int .i64 a1_7, .int .i64 a1_8, .int .i64 a1_9] 31 (0, 0)) (by (with_reducible repeat (first | refine blk_drewN ?_ _ | refine blk_drew ?_ | refine blk_alloc ?_ _)); exact BK169.out) hb); have n1_ := Aside0.mk (below_step (by repeat (first | (with_reducible first | exact HB.out | apply below_alloc | apply pw_below_drewN | apply below_drew1 | refine below_set ?_ GE169.out) | exact HB.out)) hb); clear BK169; clear HB; have BK169 := n0_; have HB := n1_; clear n0_ n1_; (try clear hb); (try clear hb2); (try clear hk); (try clear hi))); go_upto_region 6 with (first | ((with_reducible refine gate_dst (N := 3) rfl ?_); (try (refine gate_guard (by rfl) ?_; dsimp only)); refine box_event ?hg (N := 3) ?hd (cs := #[.int .i64 a1_0, .int .u64 a1_1, .int .u64 a1_2, .string a1_3, .string a1_4, .string a1_5, .string a1_6, .int .i64 a1_7, .int .i64 a1_8, .int .i64 a1_9]) (t := 31) ?hr ?_; (case hd => rfl); (case hg => rfl); (case hr => first | (go_simp; done) | (go_simp; rfl)); intro gb169 hg w10 hbox hb; have n0_ := Aside0.mk (below_step (by repeat (first | (with_reducible first | exact HB.out | apply below_alloc | apply pw_below_drewN | apply below_drew1) | exact HB.out)) hb); have n1_ := Aside0.mk (hbox); have n2_ := Aside0.mk ((by rw [hg]; exact (below_size (by repeat (first | (with_reducible first | exact HB.out | apply below_alloc | apply pw_below_drewN | apply below_drew1) | exact HB.out))) : w.heap.size ≤ gb169)); have n3_ := Aside0.mk ((by rw [hg]; exact (below_size (by repeat (first | (with_reducible first | exact HB.out | apply below_alloc | apply pw_below_drewN | apply below_drew1) | exact HB.out))) : w.heap.size ≤ gb169)); clear HB; have HB := n0_; have BK169 := n1_; have GW169 := n2_; have GE169 := n3_; clear n0_ n1_ n2_ n3_; clear hb hbox hg; have hcz11_0 : w10.cell? ⟨gb169, 0, none⟩ = some (.int .i64 a1_0) := (blk_cell BK169.out 0).trans rfl; have hcz11_1 : w10.cell? ⟨gb169, 1, none⟩ = some (.int .u64 a1_1) := (blk_cell BK169.out 1).trans rfl; have hcz11_2 : w10.cell? ⟨gb169, 2, none⟩ = some (.int .u64 a1_2) := (blk_cell BK169.out 2).trans rfl; have hcz11_3 : w10.cell? ⟨gb169, 3, none⟩ = some (.string a1_3) := (blk_cell BK169.out 3).trans rfl; have hcz11_4 : w10.cell? ⟨gb169, 4, none⟩ = some (.string a1_4) := (blk_cell BK169.out 4).trans rfl; have hcz11_5 : w10.cell? ⟨gb169, 5, none⟩ = some (.string a1_5) := (blk_cell BK169.out 5).trans rfl; have hcz11_6 : w10.cell? ⟨gb169, 6, none⟩ = some (.string a1_6) := (blk_cell BK169.out 6).trans rfl; have hcz11_7 : w10.cell? ⟨gb169, 7, none⟩ = some (.int .i64 a1_7) := (blk_cell BK169.out 7).trans rfl; have hcz11_8 : w10.cell? ⟨gb169, 8, none⟩ = some (.int .i64 a1_8) := (blk_cell BK169.out 8).trans rfl; have hcz11_9 : w10.cell? ⟨gb169, 9, none⟩ = some (.int .i64 a1_9) := (blk_cell BK169.out 9).trans rfl; have hfz11_0 := blk_frozen BK169.out 0; have hfz11_1 := blk_frozen BK169.out 1; have hfz11_2 := blk_frozen BK169.out 2; have hfz11_3 := blk_frozen BK169.out 3; have hfz11_4 := blk_frozen BK169.out 4; have hfz11_5 := blk_frozen BK169.out 5; have hfz11_6 := blk_frozen BK169.out 6; have hfz11_7 := blk_frozen BK169.out 7; have hfz11_8 := blk_frozen BK169.out 8; have hfz11_9 := blk_frozen BK169.out 9) | (go_at_call 25; (with_reducible refine (transeptref05_Right.calls k a1_0 a1_1 a1_2 a1_3 a1_4 a1_5 a1_6 a1_7 a1_8 a1_9 true _ A3.out).mono ?_); rintro e w12 ⟨rfl, hb⟩; have n0_ := Aside0.mk (blk_below (g := gb169) (o := .cells #[.int .i64 a1_0, .int .u64 a1_1, .int .u64 a1_2, .string a1_3, .string a1_4, .string a1_5, .string a1_6, .int .i64 a1_7, .int .i64 a1_8, .int .i64 a1_9] 31 (0, 0)) (by (with_reducible repeat (first | refine blk_drewN ?_ _ | refine blk_drew ?_ | refine blk_alloc ?_ _)); exact BK169.out) hb); have n1_ := Aside0.mk (below_step (by repeat (first | (with_reducible first | exact HB.out | apply below_alloc | apply pw_below_drewN | apply below_drew1 | refine below_set ?_ GE169.out) | exact HB.out)) hb); clear BK169; clear HB; have BK169 := n0_; have HB := n1_; clear n0_ n1_; (try clear hb); (try clear hb2); (try clear hk); (try clear hi))))
      (try simp only [Act.put, List.setIfInBounds_toArray, List.set_cons_zero, List.set_cons_succ])
      go_cut [32] (fun v32 wc => ∃ (kq : Nat) (x32_8 : Bool), v32 = .bool x32_8 ∧ Aside0 (transeptref15_Feed.j0 kq l0 x32_8 a1_0 a1_1 a1_2 a1_3 a1_4 a1_5 a1_6 a1_7 a1_8 a1_9 = some r) ∧ Aside0 (kq ≤ k) ∧ Aside0 (wc.heap[gb169]? = some (.cells #[.int .i64 a1_0, .int .u64 a1_1, .int .u64 a1_2, .string a1_3, .string a1_4, .string a1_5, .string a1_6, .int .i64 a1_7, .int .i64 a1_8, .int .i64 a1_9] 31 (0, 0))) ∧ Aside0 (Below w.heap.size w wc))
      case first =>
        have H := HC9.out
        clear HC9
        by_cases c13 : (l0.length : Int) > 0
        · rw [if_pos c13] at H
          have c13b0 : decide (0 < (l0.length : Int)) = true := decide_eq_true c13
          have c13b1 : decide (0 < l0.length) = true := decide_eq_true (by omega)
          clear c13
          (first | rw [c13b0] | (simp only [i64_w, i32_w]; rw [c13b0]) | skip)
          obtain ⟨ji14, hji14⟩ : ∃ j_ : Int, (wrap64 ((l0.length : Int) - 1)) = j_ := ⟨_, rfl⟩
          replace H : (if 0 ≤ (ji14) then (if (ji14) < (l0.length : Int) then (transeptref15_Feed.j0 k l0 (decide (a1_1 < ((rd_T31 l0 (ji14)).f1))) a1_0 a1_1 a1_2 a1_3 a1_4 a1_5 a1_6 a1_7 a1_8 a1_9) else (none)) else (none)) = some r := by first | (rw [hji14] at H; exact H) | (simp only [hji14] at H ⊢; exact H)
          have hji14w : (IntKind.i64.wrap ((l0.length : Int) - 1)) = ji14 := (i64_w _).trans hji14
          by_cases c15 : 0 ≤ (ji14)
          · rw [if_pos c15] at H
            have c15b0 : decide (0 ≤ (ji14)) = true := decide_eq_true c15
            clear c15
            by_cases c16 : (ji14) < (l0.length : Int)
            · rw [if_pos c16] at H
              have c16b0 : decide ((ji14) < (l0.length : Int)) = true := decide_eq_true c16
              clear c16
              have H' := Aside0.mk H
              clear H
              have hcz17_0 : w12.cell? ⟨gb169, 0, none⟩ = some (.int .i64 a1_0) := (blk_cell BK169.out 0).trans rfl
              have hcz17_1 : w12.cell? ⟨gb169, 1, none⟩ = some (.int .u64 a1_1) := (blk_cell BK169.out 1).trans rfl
              have hcz17_2 : w12.cell? ⟨gb169, 2, none⟩ = some (.int .u64 a1_2) := (blk_cell BK169.out 2).trans rfl
              have hcz17_3 : w12.cell? ⟨gb169, 3, none⟩ = some (.string a1_3) := (blk_cell BK169.out 3).trans rfl
              have hcz17_4 : w12.cell? ⟨gb169, 4, none⟩ = some (.string a1_4) := (blk_cell BK169.out 4).trans rfl
              have hcz17_5 : w12.cell? ⟨gb169, 5, none⟩ = some (.string a1_5) := (blk_cell BK169.out 5).trans rfl
              have hcz17_6 : w12.cell? ⟨gb169, 6, none⟩ = some (.string a1_6) := (blk_cell BK169.out 6).trans rfl
              have hcz17_7 : w12.cell? ⟨gb169, 7, none⟩ = some (.int .i64 a1_7) := (blk_cell BK169.out 7).trans rfl
              have hcz17_8 : w12.cell? ⟨gb169, 8, none⟩ = some (.int .i64 a1_8) := (blk_cell BK169.out 8).trans rfl
              have hcz17_9 : w12.cell? ⟨gb169, 9, none⟩ = some (.int .i64 a1_9) := (blk_cell BK169.out 9).trans rfl
              have hfz17_0 := blk_frozen BK169.out 0
              have hfz17_1 := blk_frozen BK169.out 1
              have hfz17_2 := blk_frozen BK169.out 2
              have hfz17_3 := blk_frozen BK169.out 3
              have hfz17_4 := blk_frozen BK169.out 4
              have hfz17_5 := blk_frozen BK169.out 5
              have hfz17_6 := blk_frozen BK169.out 6
              have hfz17_7 := blk_frozen BK169.out 7
              have hfz17_8 := blk_frozen BK169.out 8
              have hfz17_9 := blk_frozen BK169.out 9
              have p171 : 0 ≤ ((ji14) : Int) := of_decide_eq_true (by first | (with_reducible assumption) | assumption)
              have q171 : (ji14) < (l0.length : Int) := of_decide_eq_true (by first | (with_reducible assumption) | assumption)
              obtain ⟨ad171, e171, hx171_0, hx171_1, hx171_2, hx171_3, hx171_4, hx171_5, hx171_6, hx171_7, hx171_8, hx171_9⟩ := at_T31 HR0.out (ji14) p171 q171
              cases e171
              replace hx171_0 := (HB.out.cell (World.block_lt_of_cell? w _ hx171_0)).trans hx171_0
              replace hx171_1 := (HB.out.cell (World.block_lt_of_cell? w _ hx171_1)).trans hx171_1
              replace hx171_2 := (HB.out.cell (World.block_lt_of_cell? w _ hx171_2)).trans hx171_2
              replace hx171_3 := (HB.out.cell (World.block_lt_of_cell? w _ hx171_3)).trans hx171_3
              replace hx171_4 := (HB.out.cell (World.block_lt_of_cell? w _ hx171_4)).trans hx171_4
              replace hx171_5 := (HB.out.cell (World.block_lt_of_cell? w _ hx171_5)).trans hx171_5
              replace hx171_6 := (HB.out.cell (World.block_lt_of_cell? w _ hx171_6)).trans hx171_6
              replace hx171_7 := (HB.out.cell (World.block_lt_of_cell? w _ hx171_7)).trans hx171_7
              replace hx171_8 := (HB.out.cell (World.block_lt_of_cell? w _ hx171_8)).trans hx171_8
              replace hx171_9 := (HB.out.cell (World.block_lt_of_cell? w _ hx171_9)).trans hx171_9
              replace p171 := eq_true p171
              replace q171 := eq_true q171
              try have q171m := eq_true (by have z_ := of_eq_true q171; simp only [ByteArray.size_extract, Nat.sub_zero] at z_; exact z_)
              go_wp2
              repeat (go_quiet (fail); try go_wp2)
              go_meet
              case rel => exact ⟨_, (decide (a1_1 < ((rd_T31 l0 (ji14)).f1))), (by first | rfl | (simp; done) | (simp only [← hji14] <;> (first | rfl | simp)) | (simp [*]; done)), H', ⟨by first | omega | exact Nat.le_refl _⟩, ⟨by (with_reducible repeat (first | refine blk_drewN ?_ _ | refine blk_drew ?_ | refine blk_alloc ?_ _)); exact BK169.out⟩, ⟨by repeat (first | (with_reducible first | exact HB.out | apply below_alloc | apply pw_below_drewN | apply below_drew1 | refine below_set ?_ GE169.out) | exact HB.out)⟩⟩
            · rw [if_neg c16] at H
              exact absurd H (by simp)
          · rw [if_neg c15] at H
            exact absurd H (by simp)
        · rw [if_neg c13] at H
          have c13b0 : decide (0 < (l0.length : Int)) = false := decide_eq_false c13
          have c13b1 : decide (0 < l0.length) = false := decide_eq_false (by omega)
          clear c13
          (first | rw [c13b0] | (simp only [i64_w, i32_w]; rw [c13b0]) | skip)
          have H' := Aside0.mk H
          clear H
          go_wp2
          repeat (go_quiet (fail); try go_wp2)
          go_meet
          case rel => exact ⟨_, (false), (by first | rfl | (simp; done) | (simp [*]; done)), H', ⟨by first | omega | exact Nat.le_refl _⟩, ⟨by (with_reducible repeat (first | refine blk_drewN ?_ _ | refine blk_drew ?_ | refine blk_alloc ?_ _)); exact BK169.out⟩, ⟨by repeat (first | (with_reducible first | exact HB.out | apply below_alloc | apply pw_below_drewN | apply below_drew1 | refine below_set ?_ GE169.out) | exact HB.out)⟩⟩
      case rest =>
        clear HC9
        try clear c1
        try clear p1
        try clear q1
        try clear hx1
        try clear p2
        try clear c4
        try clear c5
        try clear c5b0
        try clear c5b1
        try clear p6
        try clear c13
        try clear c13b0
        try clear c13b1
        try clear c15
        try clear c15b0
        try clear c16
        try clear c16b0
        try clear p17
        try clear q17
        try clear hx17
        try clear hcz11_0
        try clear hcz11_1
        try clear hcz11_2
        try clear hcz11_3
        try clear hcz11_4
        try clear hcz11_5
        try clear hcz11_6
        try clear hcz11_7
        try clear hcz11_8
        try clear hcz11_9
        try clear hcz17_0
        try clear hcz17_1
        try clear hcz17_2
        try clear hcz17_3
        try clear hcz17_4
        try clear hcz17_5
        try clear hcz17_6
        try clear hcz17_7
        try clear hcz17_8
        try clear hcz17_9
        try clear hcz7_0
        try clear hcz7_1
        try clear hcz7_2
        try clear hcz7_3
        try clear hcz7_4
        try clear hcz7_5
        try clear hcz7_6
        try clear hcz7_7
        try clear hcz7_8
        try clear hcz7_9
        try clear hfz11_0
        try clear hfz11_1
        try clear hfz11_2
        try clear hfz11_3
        try clear hfz11_4
        try clear hfz11_5
        try clear hfz11_6
        try clear hfz11_7
        try clear hfz11_8
        try clear hfz11_9
        try clear hfz17_0
        try clear hfz17_1
        try clear hfz17_2
        try clear hfz17_3
        try clear hfz17_4
        try clear hfz17_5
        try clear hfz17_6
        try clear hfz17_7
        try clear hfz17_8
        try clear hfz17_9
        try clear hfz7_0
        try clear hfz7_1
        try clear hfz7_2
        try clear hfz7_3
        try clear hfz7_4
        try clear hfz7_5
        try clear hfz7_6
        try clear hfz7_7
        try clear hfz7_8
        try clear hfz7_9
        try clear hx171_0
        try clear hx171_1
        try clear hx171_2
        try clear hx171_3
        try clear hx171_4
        try clear hx171_5
        try clear hx171_6
        try clear hx171_7
        try clear hx171_8
        try clear hx171_9
        try clear p171
        try clear q171
        obtain ⟨kq, x32_8, rfl, HA, HJ8, BK169, HB⟩ := hcut
        cases kq with
        | zero => exact absurd HA.out (by simp [transeptref15_Feed.j0])
        | succ kj8 =>
          have H := HA.out
          clear HA
          simp only [transeptref15_Feed.j0] at H
          by_cases c18 : x32_8 = true
          · subst c18
            have H1 : (some 6) = some r := by rw [if_pos rfl] at H; exact H
            clear H
            have H := H1
            clear H1
            obtain rfl := Option.some.inj H
            go_wp2
            repeat (go_quiet (fail); try go_wp2)
            go_ret
            exact ⟨by first | rfl | (simp [errW_none, errW_some] <;> rfl) | (simp [*, errW_none, errW_some] <;> rfl), by repeat (first | (with_reducible first | exact HB.out | apply below_alloc | apply pw_below_drewN | apply below_drew1 | refine below_set ?_ GE169.out) | exact HB.out)⟩
          · replace c18 := Bool.eq_false_iff.mpr c18
            subst c18
            have H1 : (if a1_0 = 1 then (transeptref15_Feed.j2 kj8 l0 ((l0.length : Int) == 0) a1_0 a1_1 a1_2 a1_3 a1_4 a1_5 a1_6 a1_7 a1_8 a1_9) else (if a1_0 = 2 then (if (l0.length : Int) > 0 then ((transeptref15_started.f kj8 l0 0).bind fun t172 => (transeptref15_Feed.j2 kj8 l0 (!t172) a1_0 a1_1 a1_2 a1_3 a1_4 a1_5 a1_6 a1_7 a1_8 a1_9)) else (transeptref15_Feed.j2 kj8 l0 false a1_0 a1_1 a1_2 a1_3 a1_4 a1_5 a1_6 a1_7 a1_8 a1_9)) else (if a1_0 = 3 then (if (l0.length : Int) > 0 then ((transeptref15_started.f kj8 l0 a1_2).bind fun t173 => (transeptref15_Feed.j2 kj8 l0 (!t173) a1_0 a1_1 a1_2 a1_3 a1_4 a1_5 a1_6 a1_7 a1_8 a1_9)) else (transeptref15_Feed.j2 kj8 l0 false a1_0 a1_1 a1_2 a1_3 a1_4 a1_5 a1_6 a1_7 a1_8 a1_9)) else ((transeptref15_goes.f a1_0).bind fun bt174 => ((transeptref15_State.f kj8 l0 a1_2).bind fun t178 => (transeptref15_Feed.l0 kj8 l0 false bt174.1 t178 0 a1_0 a1_1 a1_2 a1_3 a1_4 a1_5 a1_6 a1_7 a1_8 a1_9)))))) = some r := by rw [if_neg (show ¬ (false = true) by decide)] at H; exact H
            clear H
            have H := H1
            clear H1
            have HC19 := Aside0.mk H
            clear H
            have hcz20_0 : wc.cell? ⟨gb169, 0, none⟩ = some (.int .i64 a1_0) := (blk_cell BK169.out 0).trans rfl
            have hcz20_1 : wc.cell? ⟨gb169, 1, none⟩ = some (.int .u64 a1_1) := (blk_cell BK169.out 1).trans rfl
            have hcz20_2 : wc.cell? ⟨gb169, 2, none⟩ = some (.int .u64 a1_2) := (blk_cell BK169.out 2).trans rfl
            have hcz20_3 : wc.cell? ⟨gb169, 3, none⟩ = some (.string a1_3) := (blk_cell BK169.out 3).trans rfl
            have hcz20_4 : wc.cell? ⟨gb169, 4, none⟩ = some (.string a1_4) := (blk_cell BK169.out 4).trans rfl
            have hcz20_5 : wc.cell? ⟨gb169, 5, none⟩ = some (.string a1_5) := (blk_cell BK169.out 5).trans rfl
            have hcz20_6 : wc.cell? ⟨gb169, 6, none⟩ = some (.string a1_6) := (blk_cell BK169.out 6).trans rfl
            have hcz20_7 : wc.cell? ⟨gb169, 7, none⟩ = some (.int .i64 a1_7) := (blk_cell BK169.out 7).trans rfl
            have hcz20_8 : wc.cell? ⟨gb169, 8, none⟩ = some (.int .i64 a1_8) := (blk_cell BK169.out 8).trans rfl
            have hcz20_9 : wc.cell? ⟨gb169, 9, none⟩ = some (.int .i64 a1_9) := (blk_cell BK169.out 9).trans rfl
            have hfz20_0 := blk_frozen BK169.out 0
            have hfz20_1 := blk_frozen BK169.out 1
            have hfz20_2 := blk_frozen BK169.out 2
            have hfz20_3 := blk_frozen BK169.out 3
            have hfz20_4 := blk_frozen BK169.out 4
            have hfz20_5 := blk_frozen BK169.out 5
            have hfz20_6 := blk_frozen BK169.out 6
            have hfz20_7 := blk_frozen BK169.out 7
            have hfz20_8 := blk_frozen BK169.out 8
            have hfz20_9 := blk_frozen BK169.out 9
            go_upto_block 0 with (fail)
            repeat (go_quiet (fail); go_upto_block 0 with (fail))
            go_cut [6] (fun v6 wc => ∃ (kq : Nat) (x6_18 : Bool), v6 = .bool x6_18 ∧ Aside0 (transeptref15_Feed.j2 kq l0 x6_18 a1_0 a1_1 a1_2 a1_3 a1_4 a1_5 a1_6 a1_7 a1_8 a1_9 = some r) ∧ Aside0 (kq ≤ kj8) ∧ Aside0 (wc.heap[gb169]? = some (.cells #[.int .i64 a1_0, .int .u64 a1_1, .int .u64 a1_2, .string a1_3, .string a1_4, .string a1_5, .string a1_6, .int .i64 a1_7, .int .i64 a1_8, .int .i64 a1_9] 31 (0, 0))) ∧ Aside0 (Below w.heap.size w wc))
            case first =>
              have H := HC19.out
              clear HC19
              by_cases c21 : a1_0 = 1
              · rw [if_pos c21] at H
                have c21b0 : (a1_0 == 1) = true := beq_iff_eq.mpr c21
                have c21b1 : (a1_0 != 1) = false := bne_eq_false_iff_eq.mpr c21
                clear c21
                (first | rw [c21b0] | (simp only [i64_w, i32_w]; rw [c21b0]) | skip)
                have H' := Aside0.mk H
                clear H
                go_wp2
                repeat (go_quiet (fail); try go_wp2)
                go_meet
                case rel => exact ⟨_, (((l0.length : Int) == 0)), (by first | rfl | (simp; done) | (simp [*]; done)), H', ⟨by have := HJ8.out; first | omega | exact Nat.le_refl _⟩, ⟨by (with_reducible repeat (first | refine blk_drewN ?_ _ | refine blk_drew ?_ | refine blk_alloc ?_ _)); exact BK169.out⟩, ⟨by repeat (first | (with_reducible first | exact HB.out | apply below_alloc | apply pw_below_drewN | apply below_drew1 | refine below_set ?_ GE169.out) | exact HB.out)⟩⟩
              · rw [if_neg c21] at H
                have c21b0 : (a1_0 == 1) = false := beq_eq_false_iff_ne.mpr c21
                have c21b1 : (a1_0 != 1) = true := bne_iff_ne.mpr c21
                (first | rw [c21b0] | (simp only [i64_w, i32_w]; rw [c21b0]) | skip)
                by_cases c22 : a1_0 = 2
                · rw [if_pos c22] at H
                  have c22b0 : (a1_0 == 2) = true := beq_iff_eq.mpr c22
                  have c22b1 : (a1_0 != 2) = false := bne_eq_false_iff_eq.mpr c22
                  clear c22
                  by_cases c23 : (l0.length : Int) > 0
                  · rw [if_pos c23] at H
                    have c23b0 : decide (0 < (l0.length : Int)) = true := decide_eq_true c23
                    have c23b1 : decide (0 < l0.length) = true := decide_eq_true (by omega)
                    clear c23
                    replace H := Option.bind_eq_some_iff.mp H
                    obtain ⟨t172, A240, H⟩ := H
                    replace H : (transeptref15_Feed.j2 kj8 l0 (!t172) a1_0 a1_1 a1_2 a1_3 a1_4 a1_5 a1_6 a1_7 a1_8 a1_9) = some r := H
                    have A24 := Aside0.mk A240
                    clear A240
                    have H' := Aside0.mk H
                    clear H
                    go_wp2_with (first | (go_at_call 26; (with_reducible refine (transeptref15_started.calls kj8 _ _ l0 0 t172 _ ?side1 ?side2 A24.out).mono ?_); (case side1 => repeat (first | exact (Kd.C_below HR0.out HB.out) | (with_reducible refine Kd.C_alloc ?_ _) | (with_reducible refine Kd.C_drewN ?_ _) | (with_reducible refine Kd.C_drew ?_))); (case side2 => exact HC0.out); rintro e w' ⟨rfl, ⟨nd, rfl⟩⟩; (try first | exact ⟨rfl, _, World.drewN_drewN _ _ _⟩ | exact ⟨rfl, _, Eq.trans (World.drewN_drewN _ _ _) (congrArg (World.drewN _) (Nat.add_assoc _ _ _))⟩)))
                    repeat (go_quiet (first | (go_at_call 26; (with_reducible refine (transeptref15_started.calls kj8 _ _ l0 0 t172 _ ?side1 ?side2 A24.out).mono ?_); (case side1 => repeat (first | exact (Kd.C_below HR0.out HB.out) | (with_reducible refine Kd.C_alloc ?_ _) | (with_reducible refine Kd.C_drewN ?_ _) | (with_reducible refine Kd.C_drew ?_))); (case side2 => exact HC0.out); rintro e w' ⟨rfl, ⟨nd, rfl⟩⟩; (try first | exact ⟨rfl, _, World.drewN_drewN _ _ _⟩ | exact ⟨rfl, _, Eq.trans (World.drewN_drewN _ _ _) (congrArg (World.drewN _) (Nat.add_assoc _ _ _))⟩))); try go_wp2_with (first | (go_at_call 26; (with_reducible refine (transeptref15_started.calls kj8 _ _ l0 0 t172 _ ?side1 ?side2 A24.out).mono ?_); (case side1 => repeat (first | exact (Kd.C_below HR0.out HB.out) | (with_reducible refine Kd.C_alloc ?_ _) | (with_reducible refine Kd.C_drewN ?_ _) | (with_reducible refine Kd.C_drew ?_))); (case side2 => exact HC0.out); rintro e w' ⟨rfl, ⟨nd, rfl⟩⟩; (try first | exact ⟨rfl, _, World.drewN_drewN _ _ _⟩ | exact ⟨rfl, _, Eq.trans (World.drewN_drewN _ _ _) (congrArg (World.drewN _) (Nat.add_assoc _ _ _))⟩))))
                    go_meet
                    case rel => exact ⟨_, (!t172), (by first | rfl | (simp; done) | (simp [*]; done)), H', ⟨by have := HJ8.out; first | omega | exact Nat.le_refl _⟩, ⟨by (with_reducible repeat (first | refine blk_drewN ?_ _ | refine blk_drew ?_ | refine blk_alloc ?_ _)); exact BK169.out⟩, ⟨by repeat (first | (with_reducible first | exact HB.out | apply below_alloc | apply pw_below_drewN | apply below_drew1 | refine below_set ?_ GE169.out) | exact HB.out)⟩⟩
                  · rw [if_neg c23] at H
                    have c23b0 : decide (0 < (l0.length : Int)) = false := decide_eq_false c23
                    have c23b1 : decide (0 < l0.length) = false := decide_eq_false (by omega)
                    clear c23
                    have H' := Aside0.mk H
                    clear H
                    go_wp2
                    repeat (go_quiet (fail); try go_wp2)
                    go_meet
                    case rel => exact ⟨_, (false), (by first | rfl | (simp; done) | (simp [*]; done)), H', ⟨by have := HJ8.out; first | omega | exact Nat.le_refl _⟩, ⟨by (with_reducible repeat (first | refine blk_drewN ?_ _ | refine blk_drew ?_ | refine blk_alloc ?_ _)); exact BK169.out⟩, ⟨by repeat (first | (with_reducible first | exact HB.out | apply below_alloc | apply pw_below_drewN | apply below_drew1 | refine below_set ?_ GE169.out) | exact HB.out)⟩⟩
                · rw [if_neg c22] at H
                  have c22b0 : (a1_0 == 2) = false := beq_eq_false_iff_ne.mpr c22
                  have c22b1 : (a1_0 != 2) = true := bne_iff_ne.mpr c22
                  by_cases c25 : a1_0 = 3
                  · rw [if_pos c25] at H
                    have c25b0 : (a1_0 == 3) = true := beq_iff_eq.mpr c25
                    have c25b1 : (a1_0 != 3) = false := bne_eq_false_iff_eq.mpr c25
                    clear c25
                    by_cases c26 : (l0.length : Int) > 0
                    · rw [if_pos c26] at H
                      have c26b0 : decide (0 < (l0.length : Int)) = true := decide_eq_true c26
                      have c26b1 : decide (0 < l0.length) = true := decide_eq_true (by omega)
                      clear c26
                      replace H := Option.bind_eq_some_iff.mp H
                      obtain ⟨t173, A270, H⟩ := H
                      replace H : (transeptref15_Feed.j2 kj8 l0 (!t173) a1_0 a1_1 a1_2 a1_3 a1_4 a1_5 a1_6 a1_7 a1_8 a1_9) = some r := H
                      have A27 := Aside0.mk A270
                      clear A270
                      have H' := Aside0.mk H
                      clear H
                      have hcz28_0 : wc.cell? ⟨gb169, 0, none⟩ = some (.int .i64 a1_0) := (blk_cell BK169.out 0).trans rfl
                      have hcz28_1 : wc.cell? ⟨gb169, 1, none⟩ = some (.int .u64 a1_1) := (blk_cell BK169.out 1).trans rfl
                      have hcz28_2 : wc.cell? ⟨gb169, 2, none⟩ = some (.int .u64 a1_2) := (blk_cell BK169.out 2).trans rfl
                      have hcz28_3 : wc.cell? ⟨gb169, 3, none⟩ = some (.string a1_3) := (blk_cell BK169.out 3).trans rfl
                      have hcz28_4 : wc.cell? ⟨gb169, 4, none⟩ = some (.string a1_4) := (blk_cell BK169.out 4).trans rfl
                      have hcz28_5 : wc.cell? ⟨gb169, 5, none⟩ = some (.string a1_5) := (blk_cell BK169.out 5).trans rfl
                      have hcz28_6 : wc.cell? ⟨gb169, 6, none⟩ = some (.string a1_6) := (blk_cell BK169.out 6).trans rfl
                      have hcz28_7 : wc.cell? ⟨gb169, 7, none⟩ = some (.int .i64 a1_7) := (blk_cell BK169.out 7).trans rfl
                      have hcz28_8 : wc.cell? ⟨gb169, 8, none⟩ = some (.int .i64 a1_8) := (blk_cell BK169.out 8).trans rfl
                      have hcz28_9 : wc.cell? ⟨gb169, 9, none⟩ = some (.int .i64 a1_9) := (blk_cell BK169.out 9).trans rfl
                      have hfz28_0 := blk_frozen BK169.out 0
                      have hfz28_1 := blk_frozen BK169.out 1
                      have hfz28_2 := blk_frozen BK169.out 2
                      have hfz28_3 := blk_frozen BK169.out 3
                      have hfz28_4 := blk_frozen BK169.out 4
                      have hfz28_5 := blk_frozen BK169.out 5
                      have hfz28_6 := blk_frozen BK169.out 6
                      have hfz28_7 := blk_frozen BK169.out 7
                      have hfz28_8 := blk_frozen BK169.out 8
                      have hfz28_9 := blk_frozen BK169.out 9
                      go_wp2_with (first | (go_at_call 26; (with_reducible refine (transeptref15_started.calls kj8 _ _ l0 a1_2 t173 _ ?side1 ?side2 A27.out).mono ?_); (case side1 => repeat (first | exact (Kd.C_below HR0.out HB.out) | (with_reducible refine Kd.C_alloc ?_ _) | (with_reducible refine Kd.C_drewN ?_ _) | (with_reducible refine Kd.C_drew ?_))); (case side2 => exact HC0.out); rintro e w' ⟨rfl, ⟨nd, rfl⟩⟩; (try first | exact ⟨rfl, _, World.drewN_drewN _ _ _⟩ | exact ⟨rfl, _, Eq.trans (World.drewN_drewN _ _ _) (congrArg (World.drewN _) (Nat.add_assoc _ _ _))⟩)))
                      repeat (go_quiet (first | (go_at_call 26; (with_reducible refine (transeptref15_started.calls kj8 _ _ l0 a1_2 t173 _ ?side1 ?side2 A27.out).mono ?_); (case side1 => repeat (first | exact (Kd.C_below HR0.out HB.out) | (with_reducible refine Kd.C_alloc ?_ _) | (with_reducible refine Kd.C_drewN ?_ _) | (with_reducible refine Kd.C_drew ?_))); (case side2 => exact HC0.out); rintro e w' ⟨rfl, ⟨nd, rfl⟩⟩; (try first | exact ⟨rfl, _, World.drewN_drewN _ _ _⟩ | exact ⟨rfl, _, Eq.trans (World.drewN_drewN _ _ _) (congrArg (World.drewN _) (Nat.add_assoc _ _ _))⟩))); try go_wp2_with (first | (go_at_call 26; (with_reducible refine (transeptref15_started.calls kj8 _ _ l0 a1_2 t173 _ ?side1 ?side2 A27.out).mono ?_); (case side1 => repeat (first | exact (Kd.C_below HR0.out HB.out) | (with_reducible refine Kd.C_alloc ?_ _) | (with_reducible refine Kd.C_drewN ?_ _) | (with_reducible refine Kd.C_drew ?_))); (case side2 => exact HC0.out); rintro e w' ⟨rfl, ⟨nd, rfl⟩⟩; (try first | exact ⟨rfl, _, World.drewN_drewN _ _ _⟩ | exact ⟨rfl, _, Eq.trans (World.drewN_drewN _ _ _) (congrArg (World.drewN _) (Nat.add_assoc _ _ _))⟩))))
                      go_meet
                      case rel => exact ⟨_, (!t173), (by first | rfl | (simp; done) | (simp [*]; done)), H', ⟨by have := HJ8.out; first | omega | exact Nat.le_refl _⟩, ⟨by (with_reducible repeat (first | refine blk_drewN ?_ _ | refine blk_drew ?_ | refine blk_alloc ?_ _)); exact BK169.out⟩, ⟨by repeat (first | (with_reducible first | exact HB.out | apply below_alloc | apply pw_below_drewN | apply below_drew1 | refine below_set ?_ GE169.out) | exact HB.out)⟩⟩
                    · rw [if_neg c26] at H
                      have c26b0 : decide (0 < (l0.length : Int)) = false := decide_eq_false c26
                      have c26b1 : decide (0 < l0.length) = false := decide_eq_false (by omega)
                      clear c26
                      have H' := Aside0.mk H
                      clear H
                      go_wp2
                      repeat (go_quiet (fail); try go_wp2)
                      go_meet
                      case rel => exact ⟨_, (false), (by first | rfl | (simp; done) | (simp [*]; done)), H', ⟨by have := HJ8.out; first | omega | exact Nat.le_refl _⟩, ⟨by (with_reducible repeat (first | refine blk_drewN ?_ _ | refine blk_drew ?_ | refine blk_alloc ?_ _)); exact BK169.out⟩, ⟨by repeat (first | (with_reducible first | exact HB.out | apply below_alloc | apply pw_below_drewN | apply below_drew1 | refine below_set ?_ GE169.out) | exact HB.out)⟩⟩
                  · rw [if_neg c25] at H
                    have c25b0 : (a1_0 == 3) = false := beq_eq_false_iff_ne.mpr c25
                    have c25b1 : (a1_0 != 3) = true := bne_iff_ne.mpr c25
                    replace H := Option.bind_eq_some_iff.mp H
                    obtain ⟨⟨t174, t175⟩, A290, H⟩ := H
                    replace H : ((transeptref15_State.f kj8 l0 a1_2).bind fun t178 => (transeptref15_Feed.l0 kj8 l0 false t174 t178 0 a1_0 a1_1 a1_2 a1_3 a1_4 a1_5 a1_6 a1_7 a1_8 a1_9)) = some r := H
                    have A29 := Aside0.mk A290
                    clear A290
                    replace H := Option.bind_eq_some_iff.mp H
                    obtain ⟨t178, A300, H⟩ := H
                    replace H : (transeptref15_Feed.l0 kj8 l0 false t174 t178 0 a1_0 a1_1 a1_2 a1_3 a1_4 a1_5 a1_6 a1_7 a1_8 a1_9) = some r := H
                    have A30 := Aside0.mk A300
                    clear A300
                    have H' := Aside0.mk H
                    clear H
                    have hcz31_0 : wc.cell? ⟨gb169, 0, none⟩ = some (.int .i64 a1_0) := (blk_cell BK169.out 0).trans rfl
                    have hcz31_1 : wc.cell? ⟨gb169, 1, none⟩ = some (.int .u64 a1_1) := (blk_cell BK169.out 1).trans rfl
                    have hcz31_2 : wc.cell? ⟨gb169, 2, none⟩ = some (.int .u64 a1_2) := (blk_cell BK169.out 2).trans rfl
                    have hcz31_3 : wc.cell? ⟨gb169, 3, none⟩ = some (.string a1_3) := (blk_cell BK169.out 3).trans rfl
                    have hcz31_4 : wc.cell? ⟨gb169, 4, none⟩ = some (.string a1_4) := (blk_cell BK169.out 4).trans rfl
                    have hcz31_5 : wc.cell? ⟨gb169, 5, none⟩ = some (.string a1_5) := (blk_cell BK169.out 5).trans rfl
                    have hcz31_6 : wc.cell? ⟨gb169, 6, none⟩ = some (.string a1_6) := (blk_cell BK169.out 6).trans rfl
                    have hcz31_7 : wc.cell? ⟨gb169, 7, none⟩ = some (.int .i64 a1_7) := (blk_cell BK169.out 7).trans rfl
                    have hcz31_8 : wc.cell? ⟨gb169, 8, none⟩ = some (.int .i64 a1_8) := (blk_cell BK169.out 8).trans rfl
                    have hcz31_9 : wc.cell? ⟨gb169, 9, none⟩ = some (.int .i64 a1_9) := (blk_cell BK169.out 9).trans rfl
                    have hfz31_0 := blk_frozen BK169.out 0
                    have hfz31_1 := blk_frozen BK169.out 1
                    have hfz31_2 := blk_frozen BK169.out 2
                    have hfz31_3 := blk_frozen BK169.out 3
                    have hfz31_4 := blk_frozen BK169.out 4
                    have hfz31_5 := blk_frozen BK169.out 5
                    have hfz31_6 := blk_frozen BK169.out 6
                    have hfz31_7 := blk_frozen BK169.out 7
                    have hfz31_8 := blk_frozen BK169.out 8
                    have hfz31_9 := blk_frozen BK169.out 9
                    go_wp2_with (first | (go_at_call 27; (with_reducible refine (transeptref15_goes.calls a1_0 t174 t175 _ A29.out).mono ?_); rintro e w32 ⟨v176, rfl, ho0, hb⟩; have n0_ := Aside0.mk (Kd.R_lower ho0 (below_size (by repeat (first | (with_reducible first | exact HB.out | apply below_alloc | apply pw_below_drewN | apply below_drew1 | refine below_set ?_ GE169.out) | exact HB.out)))); have n1_ := Aside0.mk (blk_below (g := gb169) (o := .cells #[.int .i64 a1_0, .int .u64 a1_1, .int .u64 a1_2, .string a1_3, .string a1_4, .string a1_5, .string a1_6, .int .i64 a1_7, .int .i64 a1_8, .int .i64 a1_9] 31 (0, 0)) (by (with_reducible repeat (first | refine blk_drewN ?_ _ | refine blk_drew ?_ | refine blk_alloc ?_ _)); exact BK169.out) hb); have n2_ := Aside0.mk (below_step (by repeat (first | (with_reducible first | exact HB.out | apply below_alloc | apply pw_below_drewN | apply below_drew1 | refine below_set ?_ GE169.out) | exact HB.out)) hb); clear BK169; clear HB; have HO177 := n0_; have BK169 := n1_; have HB := n2_; clear n0_ n1_ n2_; (try clear hb); (try clear hb2); (try clear hk); (try clear hi); (try clear ho0); have hcz33_0 : w32.cell? ⟨gb169, 0, none⟩ = some (.int .i64 a1_0) := (blk_cell BK169.out 0).trans rfl; have hcz33_1 : w32.cell? ⟨gb169, 1, none⟩ = some (.int .u64 a1_1) := (blk_cell BK169.out 1).trans rfl; have hcz33_2 : w32.cell? ⟨gb169, 2, none⟩ = some (.int .u64 a1_2) := (blk_cell BK169.out 2).trans rfl; have hcz33_3 : w32.cell? ⟨gb169, 3, none⟩ = some (.string a1_3) := (blk_cell BK169.out 3).trans rfl; have hcz33_4 : w32.cell? ⟨gb169, 4, none⟩ = some (.string a1_4) := (blk_cell BK169.out 4).trans rfl; have hcz33_5 : w32.cell? ⟨gb169, 5, none⟩ = some (.string a1_5) := (blk_cell BK169.out 5).trans rfl; have hcz33_6 : w32.cell? ⟨gb169, 6, none⟩ = some (.string a1_6) := (blk_cell BK169.out 6).trans rfl; have hcz33_7 : w32.cell? ⟨gb169, 7, none⟩ = some (.int .i64 a1_7) := (blk_cell BK169.out 7).trans rfl; have hcz33_8 : w32.cell? ⟨gb169, 8, none⟩ = some (.int .i64 a1_8) := (blk_cell BK169.out 8).trans rfl; have hcz33_9 : w32.cell? ⟨gb169, 9, none⟩ = some (.int .i64 a1_9) := (blk_cell BK169.out 9).trans rfl; have hfz33_0 := blk_frozen BK169.out 0; have hfz33_1 := blk_frozen BK169.out 1; have hfz33_2 := blk_frozen BK169.out 2; have hfz33_3 := blk_frozen BK169.out 3; have hfz33_4 := blk_frozen BK169.out 4; have hfz33_5 := blk_frozen BK169.out 5; have hfz33_6 := blk_frozen BK169.out 6; have hfz33_7 := blk_frozen BK169.out 7; have hfz33_8 := blk_frozen BK169.out 8; have hfz33_9 := blk_frozen BK169.out 9) | (go_at_call 19; (with_reducible refine (transeptref15_State.calls kj8 _ _ l0 a1_2 t178 _ ?side1 ?side2 A30.out).mono ?_); (case side1 => repeat (first | exact (Kd.C_below HR0.out HB.out) | (with_reducible refine Kd.C_alloc ?_ _) | (with_reducible refine Kd.C_drewN ?_ _) | (with_reducible refine Kd.C_drew ?_))); (case side2 => exact HC0.out); rintro e w34 ⟨rfl, hb⟩; have n0_ := Aside0.mk (Kd.R_below (by (with_reducible repeat (first | apply Kd.R_alloc | apply Kd.R_drewN | apply Kd.R_drew)); exact HO177.out) hb); have n1_ := Aside0.mk (blk_below (g := gb169) (o := .cells #[.int .i64 a1_0, .int .u64 a1_1, .int .u64 a1_2, .string a1_3, .string a1_4, .string a1_5, .string a1_6, .int .i64 a1_7, .int .i64 a1_8, .int .i64 a1_9] 31 (0, 0)) (by (with_reducible repeat (first | refine blk_drewN ?_ _ | refine blk_drew ?_ | refine blk_alloc ?_ _)); exact BK169.out) hb); have n2_ := Aside0.mk (below_step (by repeat (first | (with_reducible first | exact HB.out | apply below_alloc | apply pw_below_drewN | apply below_drew1 | refine below_set ?_ GE169.out) | exact HB.out)) hb); clear HO177; clear BK169; clear HB; have HO177 := n0_; have BK169 := n1_; have HB := n2_; clear n0_ n1_ n2_; (try clear hb); (try clear hb2); (try clear hk); (try clear hi)))
                    repeat (go_quiet (first | (go_at_call 27; (with_reducible refine (transeptref15_goes.calls a1_0 t174 t175 _ A29.out).mono ?_); rintro e w32 ⟨v176, rfl, ho0, hb⟩; have n0_ := Aside0.mk (Kd.R_lower ho0 (below_size (by repeat (first | (with_reducible first | exact HB.out | apply below_alloc | apply pw_below_drewN | apply below_drew1 | refine below_set ?_ GE169.out) | exact HB.out)))); have n1_ := Aside0.mk (blk_below (g := gb169) (o := .cells #[.int .i64 a1_0, .int .u64 a1_1, .int .u64 a1_2, .string a1_3, .string a1_4, .string a1_5, .string a1_6, .int .i64 a1_7, .int .i64 a1_8, .int .i64 a1_9] 31 (0, 0)) (by (with_reducible repeat (first | refine blk_drewN ?_ _ | refine blk_drew ?_ | refine blk_alloc ?_ _)); exact BK169.out) hb); have n2_ := Aside0.mk (below_step (by repeat (first | (with_reducible first | exact HB.out | apply below_alloc | apply pw_below_drewN | apply below_drew1 | refine below_set ?_ GE169.out) | exact HB.out)) hb); clear BK169; clear HB; have HO177 := n0_; have BK169 := n1_; have HB := n2_; clear n0_ n1_ n2_; (try clear hb); (try clear hb2); (try clear hk); (try clear hi); (try clear ho0); have hcz33_0 : w32.cell? ⟨gb169, 0, none⟩ = some (.int .i64 a1_0) := (blk_cell BK169.out 0).trans rfl; have hcz33_1 : w32.cell? ⟨gb169, 1, none⟩ = some (.int .u64 a1_1) := (blk_cell BK169.out 1).trans rfl; have hcz33_2 : w32.cell? ⟨gb169, 2, none⟩ = some (.int .u64 a1_2) := (blk_cell BK169.out 2).trans rfl; have hcz33_3 : w32.cell? ⟨gb169, 3, none⟩ = some (.string a1_3) := (blk_cell BK169.out 3).trans rfl; have hcz33_4 : w32.cell? ⟨gb169, 4, none⟩ = some (.string a1_4) := (blk_cell BK169.out 4).trans rfl; have hcz33_5 : w32.cell? ⟨gb169, 5, none⟩ = some (.string a1_5) := (blk_cell BK169.out 5).trans rfl; have hcz33_6 : w32.cell? ⟨gb169, 6, none⟩ = some (.string a1_6) := (blk_cell BK169.out 6).trans rfl; have hcz33_7 : w32.cell? ⟨gb169, 7, none⟩ = some (.int .i64 a1_7) := (blk_cell BK169.out 7).trans rfl; have hcz33_8 : w32.cell? ⟨gb169, 8, none⟩ = some (.int .i64 a1_8) := (blk_cell BK169.out 8).trans rfl; have hcz33_9 : w32.cell? ⟨gb169, 9, none⟩ = some (.int .i64 a1_9) := (blk_cell BK169.out 9).trans rfl; have hfz33_0 := blk_frozen BK169.out 0; have hfz33_1 := blk_frozen BK169.out 1; have hfz33_2 := blk_frozen BK169.out 2; have hfz33_3 := blk_frozen BK169.out 3; have hfz33_4 := blk_frozen BK169.out 4; have hfz33_5 := blk_frozen BK169.out 5; have hfz33_6 := blk_frozen BK169.out 6; have hfz33_7 := blk_frozen BK169.out 7; have hfz33_8 := blk_frozen BK169.out 8; have hfz33_9 := blk_frozen BK169.out 9) | (go_at_call 19; (with_reducible refine (transeptref15_State.calls kj8 _ _ l0 a1_2 t178 _ ?side1 ?side2 A30.out).mono ?_); (case side1 => repeat (first | exact (Kd.C_below HR0.out HB.out) | (with_reducible refine Kd.C_alloc ?_ _) | (with_reducible refine Kd.C_drewN ?_ _) | (with_reducible refine Kd.C_drew ?_))); (case side2 => exact HC0.out); rintro e w34 ⟨rfl, hb⟩; have n0_ := Aside0.mk (Kd.R_below (by (with_reducible repeat (first | apply Kd.R_alloc | apply Kd.R_drewN | apply Kd.R_drew)); exact HO177.out) hb); have n1_ := Aside0.mk (blk_below (g := gb169) (o := .cells #[.int .i64 a1_0, .int .u64 a1_1, .int .u64 a1_2, .string a1_3, .string a1_4, .string a1_5, .string a1_6, .int .i64 a1_7, .int .i64 a1_8, .int .i64 a1_9] 31 (0, 0)) (by (with_reducible repeat (first | refine blk_drewN ?_ _ | refine blk_drew ?_ | refine blk_alloc ?_ _)); exact BK169.out) hb); have n2_ := Aside0.mk (below_step (by repeat (first | (with_reducible first | exact HB.out | apply below_alloc | apply pw_below_drewN | apply below_drew1 | refine below_set ?_ GE169.out) | exact HB.out)) hb); clear HO177; clear BK169; clear HB; have HO177 := n0_; have BK169 := n1_; have HB := n2_; clear n0_ n1_ n2_; (try clear hb); (try clear hb2); (try clear hk); (try clear hi))); try go_wp2_with (first | (go_at_call 27; (with_reducible refine (transeptref15_goes.calls a1_0 t174 t175 _ A29.out).mono ?_); rintro e w32 ⟨v176, rfl, ho0, hb⟩; have n0_ := Aside0.mk (Kd.R_lower ho0 (below_size (by repeat (first | (with_reducible first | exact HB.out | apply below_alloc | apply pw_below_drewN | apply below_drew1 | refine below_set ?_ GE169.out) | exact HB.out)))); have n1_ := Aside0.mk (blk_below (g := gb169) (o := .cells #[.int .i64 a1_0, .int .u64 a1_1, .int .u64 a1_2, .string a1_3, .string a1_4, .string a1_5, .string a1_6, .int .i64 a1_7, .int .i64 a1_8, .int .i64 a1_9] 31 (0, 0)) (by (with_reducible repeat (first | refine blk_drewN ?_ _ | refine blk_drew ?_ | refine blk_alloc ?_ _)); exact BK169.out) hb); have n2_ := Aside0.mk (below_step (by repeat (first | (with_reducible first | exact HB.out | apply below_alloc | apply pw_below_drewN | apply below_drew1 | refine below_set ?_ GE169.out) | exact HB.out)) hb); clear BK169; clear HB; have HO177 := n0_; have BK169 := n1_; have HB := n2_; clear n0_ n1_ n2_; (try clear hb); (try clear hb2); (try clear hk); (try clear hi); (try clear ho0); have hcz33_0 : w32.cell? ⟨gb169, 0, none⟩ = some (.int .i64 a1_0) := (blk_cell BK169.out 0).trans rfl; have hcz33_1 : w32.cell? ⟨gb169, 1, none⟩ = some (.int .u64 a1_1) := (blk_cell BK169.out 1).trans rfl; have hcz33_2 : w32.cell? ⟨gb169, 2, none⟩ = some (.int .u64 a1_2) := (blk_cell BK169.out 2).trans rfl; have hcz33_3 : w32.cell? ⟨gb169, 3, none⟩ = some (.string a1_3) := (blk_cell BK169.out 3).trans rfl; have hcz33_4 : w32.cell? ⟨gb169, 4, none⟩ = some (.string a1_4) := (blk_cell BK169.out 4).trans rfl; have hcz33_5 : w32.cell? ⟨gb169, 5, none⟩ = some (.string a1_5) := (blk_cell BK169.out 5).trans rfl; have hcz33_6 : w32.cell? ⟨gb169, 6, none⟩ = some (.string a1_6) := (blk_cell BK169.out 6).trans rfl; have hcz33_7 : w32.cell? ⟨gb169, 7, none⟩ = some (.int .i64 a1_7) := (blk_cell BK169.out 7).trans rfl; have hcz33_8 : w32.cell? ⟨gb169, 8, none⟩ = some (.int .i64 a1_8) := (blk_cell BK169.out 8).trans rfl; have hcz33_9 : w32.cell? ⟨gb169, 9, none⟩ = some (.int .i64 a1_9) := (blk_cell BK169.out 9).trans rfl; have hfz33_0 := blk_frozen BK169.out 0; have hfz33_1 := blk_frozen BK169.out 1; have hfz33_2 := blk_frozen BK169.out 2; have hfz33_3 := blk_frozen BK169.out 3; have hfz33_4 := blk_frozen BK169.out 4; have hfz33_5 := blk_frozen BK169.out 5; have hfz33_6 := blk_frozen BK169.out 6; have hfz33_7 := blk_frozen BK169.out 7; have hfz33_8 := blk_frozen BK169.out 8; have hfz33_9 := blk_frozen BK169.out 9) | (go_at_call 19; (with_reducible refine (transeptref15_State.calls kj8 _ _ l0 a1_2 t178 _ ?side1 ?side2 A30.out).mono ?_); (case side1 => repeat (first | exact (Kd.C_below HR0.out HB.out) | (with_reducible refine Kd.C_alloc ?_ _) | (with_reducible refine Kd.C_drewN ?_ _) | (with_reducible refine Kd.C_drew ?_))); (case side2 => exact HC0.out); rintro e w34 ⟨rfl, hb⟩; have n0_ := Aside0.mk (Kd.R_below (by (with_reducible repeat (first | apply Kd.R_alloc | apply Kd.R_drewN | apply Kd.R_drew)); exact HO177.out) hb); have n1_ := Aside0.mk (blk_below (g := gb169) (o := .cells #[.int .i64 a1_0, .int .u64 a1_1, .int .u64 a1_2, .string a1_3, .string a1_4, .string a1_5, .string a1_6, .int .i64 a1_7, .int .i64 a1_8, .int .i64 a1_9] 31 (0, 0)) (by (with_reducible repeat (first | refine blk_drewN ?_ _ | refine blk_drew ?_ | refine blk_alloc ?_ _)); exact BK169.out) hb); have n2_ := Aside0.mk (below_step (by repeat (first | (with_reducible first | exact HB.out | apply below_alloc | apply pw_below_drewN | apply below_drew1 | refine below_set ?_ GE169.out) | exact HB.out)) hb); clear HO177; clear BK169; clear HB; have HO177 := n0_; have BK169 := n1_; have HB := n2_; clear n0_ n1_ n2_; (try clear hb); (try clear hb2); (try clear hk); (try clear hi))))
                    go_loopg [6, 10] kj8 (fun kq v6 v10 w' => ∃ (x6_2 : Bool) (x10_2 : Int), v6 = .bool x6_2 ∧ v10 = .int .i64 x10_2 ∧ Aside0 (transeptref15_Feed.l0 kq l0 x6_2 t174 t178 x10_2 a1_0 a1_1 a1_2 a1_3 a1_4 a1_5 a1_6 a1_7 a1_8 a1_9 = some r) ∧ Aside0 (kq ≤ kj8) ∧ Aside0 (Kd.R (Kd.int .i64) 3 w' w.heap.size (fun _ => True) v176 t174) ∧ Aside0 (w'.heap[gb169]? = some (.cells #[.int .i64 a1_0, .int .u64 a1_1, .int .u64 a1_2, .string a1_3, .string a1_4, .string a1_5, .string a1_6, .int .i64 a1_7, .int .i64 a1_8, .int .i64 a1_9] 31 (0, 0))) ∧ Aside0 (Below w.heap.size w w'))
                    case atStart => exact ⟨(false), (0), (by first | rfl | (simp; done) | (simp [*]; done)), (by first | rfl | (simp; done) | (simp [*]; done)), H', ⟨Nat.le_refl _⟩, ⟨by (with_reducible repeat (first | apply Kd.R_alloc | apply Kd.R_drewN | apply Kd.R_drew)); exact HO177.out⟩, ⟨by (with_reducible repeat (first | refine blk_drewN ?_ _ | refine blk_drew ?_ | refine blk_alloc ?_ _)); exact BK169.out⟩, ⟨by repeat (first | (with_reducible first | exact HB.out | apply below_alloc | apply pw_below_drewN | apply below_drew1 | refine below_set ?_ GE169.out) | exact HB.out)⟩⟩
                    case round =>
                      clear H'
                      try clear c1
                      try clear p1
                      try clear q1
                      try clear hx1
                      try clear c2
                      try clear p2
                      try clear c4
                      try clear c5
                      try clear c5b0
                      try clear c5b1
                      try clear p6
                      try clear c13
                      try clear c13b0
                      try clear c13b1
                      try clear c15
                      try clear c15b0
                      try clear c16
                      try clear c16b0
                      try clear p17
                      try clear q17
                      try clear hx17
                      try clear c18
                      try clear c21
                      try clear c21b0
                      try clear c21b1
                      try clear c22
                      try clear c22b0
                      try clear c22b1
                      try clear c23
                      try clear c23b0
                      try clear c23b1
                      try clear c25
                      try clear c25b0
                      try clear c25b1
                      try clear c26
                      try clear c26b0
                      try clear c26b1
                      try clear hcz11_0
                      try clear hcz11_1
                      try clear hcz11_2
                      try clear hcz11_3
                      try clear hcz11_4
                      try clear hcz11_5
                      try clear hcz11_6
                      try clear hcz11_7
                      try clear hcz11_8
                      try clear hcz11_9
                      try clear hcz17_0
                      try clear hcz17_1
                      try clear hcz17_2
                      try clear hcz17_3
                      try clear hcz17_4
                      try clear hcz17_5
                      try clear hcz17_6
                      try clear hcz17_7
                      try clear hcz17_8
                      try clear hcz17_9
                      try clear hcz20_0
                      try clear hcz20_1
                      try clear hcz20_2
                      try clear hcz20_3
                      try clear hcz20_4
                      try clear hcz20_5
                      try clear hcz20_6
                      try clear hcz20_7
                      try clear hcz20_8
                      try clear hcz20_9
                      try clear hcz28_0
                      try clear hcz28_1
                      try clear hcz28_2
                      try clear hcz28_3
                      try clear hcz28_4
                      try clear hcz28_5
                      try clear hcz28_6
                      try clear hcz28_7
                      try clear hcz28_8
                      try clear hcz28_9
                      try clear hcz31_0
                      try clear hcz31_1
                      try clear hcz31_2
                      try clear hcz31_3
                      try clear hcz31_4
                      try clear hcz31_5
                      try clear hcz31_6
                      try clear hcz31_7
                      try clear hcz31_8
                      try clear hcz31_9
                      try clear hcz33_0
                      try clear hcz33_1
                      try clear hcz33_2
                      try clear hcz33_3
                      try clear hcz33_4
                      try clear hcz33_5
                      try clear hcz33_6
                      try clear hcz33_7
                      try clear hcz33_8
                      try clear hcz33_9
                      try clear hcz7_0
                      try clear hcz7_1
                      try clear hcz7_2
                      try clear hcz7_3
                      try clear hcz7_4
                      try clear hcz7_5
                      try clear hcz7_6
                      try clear hcz7_7
                      try clear hcz7_8
                      try clear hcz7_9
                      try clear hfz11_0
                      try clear hfz11_1
                      try clear hfz11_2
                      try clear hfz11_3
                      try clear hfz11_4
                      try clear hfz11_5
                      try clear hfz11_6
                      try clear hfz11_7
                      try clear hfz11_8
                      try clear hfz11_9
                      try clear hfz17_0
                      try clear hfz17_1
                      try clear hfz17_2
                      try clear hfz17_3
                      try clear hfz17_4
                      try clear hfz17_5
                      try clear hfz17_6
                      try clear hfz17_7
                      try clear hfz17_8
                      try clear hfz17_9
                      try clear hfz20_0
                      try clear hfz20_1
                      try clear hfz20_2
                      try clear hfz20_3
                      try clear hfz20_4
                      try clear hfz20_5
                      try clear hfz20_6
                      try clear hfz20_7
                      try clear hfz20_8
                      try clear hfz20_9
                      try clear hfz28_0
                      try clear hfz28_1
                      try clear hfz28_2
                      try clear hfz28_3
                      try clear hfz28_4
                      try clear hfz28_5
                      try clear hfz28_6
                      try clear hfz28_7
                      try clear hfz28_8
                      try clear hfz28_9
                      try clear hfz31_0
                      try clear hfz31_1
                      try clear hfz31_2
                      try clear hfz31_3
                      try clear hfz31_4
                      try clear hfz31_5
                      try clear hfz31_6
                      try clear hfz31_7
                      try clear hfz31_8
                      try clear hfz31_9
                      try clear hfz33_0
                      try clear hfz33_1
                      try clear hfz33_2
                      try clear hfz33_3
                      try clear hfz33_4
                      try clear hfz33_5
                      try clear hfz33_6
                      try clear hfz33_7
                      try clear hfz33_8
                      try clear hfz33_9
                      try clear hfz7_0
                      try clear hfz7_1
                      try clear hfz7_2
                      try clear hfz7_3
                      try clear hfz7_4
                      try clear hfz7_5
                      try clear hfz7_6
                      try clear hfz7_7
                      try clear hfz7_8
                      try clear hfz7_9
                      try clear hx171_0
                      try clear hx171_1
                      try clear hx171_2
                      try clear hx171_3
                      try clear hx171_4
                      try clear hx171_5
                      try clear hx171_6
                      try clear hx171_7
                      try clear hx171_8
                      try clear hx171_9
                      try clear p1
                      try clear p17
                      try clear p171
                      try clear p2
                      try clear p6
                      try clear q1
                      try clear q17
                      try clear q171
                      obtain ⟨x6_2, x10_2, rfl, rfl, HA, HK2, HO_7, BK169, HB⟩ := hrel
                      cases gk with
                      | zero => exact absurd HA.out (by simp [transeptref15_Feed.l0])
                      | succ k2 =>
                        have H := HA.out
                        clear HA
                        simp only [transeptref15_Feed.l0] at H
                        by_cases c35 : x10_2 < (t174.length : Int)
                        · rw [if_pos c35] at H
                          have c35b0 : decide (x10_2 < (t174.length : Int)) = true := decide_eq_true c35
                          clear c35
                          by_cases c36 : (l0.length : Int) > 0
                          · rw [if_pos c36] at H
                            have c36b0 : decide (0 < (l0.length : Int)) = true := decide_eq_true c36
                            have c36b1 : decide (0 < l0.length) = true := decide_eq_true (by omega)
                            clear c36
                            by_cases c37 : x6_2 = true
                            · subst c37
                              have H1 : (transeptref15_Feed.l0 k2 l0 true t174 t178 (wrap64 (x10_2 + 1)) a1_0 a1_1 a1_2 a1_3 a1_4 a1_5 a1_6 a1_7 a1_8 a1_9) = some r := by rw [if_pos rfl] at H; exact H
                              clear H
                              have H := H1
                              clear H1
                              have H' := Aside0.mk H
                              clear H
                              obtain ⟨Ao38, co38, eo38⟩ := Kd.R_slice HO_7.out
                              subst eo38
                              go_wp2
                              repeat (go_quiet (fail); try go_wp2)
                              go_roundg k2
                              case measure => have := HJ8.out; have := HK2.out; omega
                              case rel => exact ⟨(true), (wrap64 (x10_2 + 1)), (by first | rfl | (simp; done) | (simp [*]; done)), (by first | rfl | (simp; done) | (simp [*]; done)), H', ⟨by have := HJ8.out; have := HK2.out; omega⟩, ⟨by (with_reducible repeat (first | apply Kd.R_alloc | apply Kd.R_drewN | apply Kd.R_drew)); exact HO_7.out⟩, ⟨by (with_reducible repeat (first | refine blk_drewN ?_ _ | refine blk_drew ?_ | refine blk_alloc ?_ _)); exact BK169.out⟩, ⟨by repeat (first | (with_reducible first | exact HB.out | apply below_alloc | apply pw_below_drewN | apply below_drew1 | refine below_set ?_ GE169.out) | exact HB.out)⟩⟩
                            · replace c37 := Bool.eq_false_iff.mpr c37
                              subst c37
                              have H1 : (if 0 ≤ x10_2 then (transeptref15_Feed.l0 k2 l0 ((rd t174 x10_2) == t178) t174 t178 (wrap64 (x10_2 + 1)) a1_0 a1_1 a1_2 a1_3 a1_4 a1_5 a1_6 a1_7 a1_8 a1_9) else (none)) = some r := by rw [if_neg (show ¬ (false = true) by decide)] at H; exact H
                              clear H
                              have H := H1
                              clear H1
                              by_cases c39 : 0 ≤ x10_2
                              · rw [if_pos c39] at H
                                have c39b0 : decide (0 ≤ x10_2) = true := decide_eq_true c39
                                clear c39
                                have H' := Aside0.mk H
                                clear H
                                obtain ⟨Ao40, co40, eo40⟩ := Kd.R_slice HO_7.out
                                subst eo40
                                have p179 : 0 ≤ (x10_2 : Int) := of_decide_eq_true (by first | (with_reducible assumption) | assumption)
                                have q179 : x10_2 < (t174.length : Int) := of_decide_eq_true (by first | (with_reducible assumption) | assumption)
                                obtain ⟨ad179, e179, hx179_0⟩ := Kd.at_int (Kd.R_reads' HO_7.out).2.2 x10_2 p179 q179
                                cases e179
                                replace p179 := eq_true p179
                                replace q179 := eq_true q179
                                try have q179m := eq_true (by have z_ := of_eq_true q179; simp only [ByteArray.size_extract, Nat.sub_zero] at z_; exact z_)
                                go_wp2
                                repeat (go_quiet (fail); try go_wp2)
                                go_roundg k2
                                case measure => have := HJ8.out; have := HK2.out; omega
                                case rel => exact ⟨(((rd t174 x10_2) == t178)), (wrap64 (x10_2 + 1)), (by first | rfl | (simp; done) | (simp [*]; done)), (by first | rfl | (simp; done) | (simp [*]; done)), H', ⟨by have := HJ8.out; have := HK2.out; omega⟩, ⟨by (with_reducible repeat (first | apply Kd.R_alloc | apply Kd.R_drewN | apply Kd.R_drew)); exact HO_7.out⟩, ⟨by (with_reducible repeat (first | refine blk_drewN ?_ _ | refine blk_drew ?_ | refine blk_alloc ?_ _)); exact BK169.out⟩, ⟨by repeat (first | (with_reducible first | exact HB.out | apply below_alloc | apply pw_below_drewN | apply below_drew1 | refine below_set ?_ GE169.out) | exact HB.out)⟩⟩
                              · rw [if_neg c39] at H
                                exact absurd H (by simp)
                          · rw [if_neg c36] at H
                            have c36b0 : decide (0 < (l0.length : Int)) = false := decide_eq_false c36
                            have c36b1 : decide (0 < l0.length) = false := decide_eq_false (by omega)
                            clear c36
                            have H' := Aside0.mk H
                            clear H
                            obtain ⟨Ao41, co41, eo41⟩ := Kd.R_slice HO_7.out
                            subst eo41
                            go_wp2
                            repeat (go_quiet (fail); try go_wp2)
                            go_meet
                            case rel => exact ⟨_, (x6_2), (by first | rfl | (simp; done) | (simp [*]; done)), H', ⟨by have := HJ8.out; have := HK2.out; first | omega | exact Nat.le_refl _⟩, ⟨by (with_reducible repeat (first | refine blk_drewN ?_ _ | refine blk_drew ?_ | refine blk_alloc ?_ _)); exact BK169.out⟩, ⟨by repeat (first | (with_reducible first | exact HB.out | apply below_alloc | apply pw_below_drewN | apply below_drew1 | refine below_set ?_ GE169.out) | exact HB.out)⟩⟩
                        · rw [if_neg c35] at H
                          have c35b0 : decide (x10_2 < (t174.length : Int)) = false := decide_eq_false c35
                          clear c35
                          have H' := Aside0.mk H
                          clear H
                          obtain ⟨Ao42, co42, eo42⟩ := Kd.R_slice HO_7.out
                          subst eo42
                          go_wp2
                          repeat (go_quiet (fail); try go_wp2)
                          go_meet
                          case rel => exact ⟨_, (x6_2), (by first | rfl | (simp; done) | (simp [*]; done)), H', ⟨by have := HJ8.out; have := HK2.out; first | omega | exact Nat.le_refl _⟩, ⟨by (with_reducible repeat (first | refine blk_drewN ?_ _ | refine blk_drew ?_ | refine blk_alloc ?_ _)); exact BK169.out⟩, ⟨by repeat (first | (with_reducible first | exact HB.out | apply below_alloc | apply pw_below_drewN | apply below_drew1 | refine below_set ?_ GE169.out) | exact HB.out)⟩⟩
            case rest =>
              clear HC19
              try clear c1
              try clear p1
              try clear q1
              try clear hx1
              try clear c2
              try clear p2
              try clear c3
              try clear c4
              try clear c5
              try clear c5b0
              try clear c5b1
              try clear p6
              try clear c13
              try clear c13b0
              try clear c13b1
              try clear c15
              try clear c15b0
              try clear c16
              try clear c16b0
              try clear p17
              try clear q17
              try clear hx17
              try clear c18
              try clear c21
              try clear c21b0
              try clear c21b1
              try clear c22
              try clear c22b0
              try clear c22b1
              try clear c23
              try clear c23b0
              try clear c23b1
              try clear c25
              try clear c25b0
              try clear c25b1
              try clear c26
              try clear c26b0
              try clear c26b1
              try clear c35
              try clear c35b0
              try clear c36
              try clear c36b0
              try clear c36b1
              try clear c37
              try clear c39
              try clear c39b0
              try clear hcz11_0
              try clear hcz11_1
              try clear hcz11_2
              try clear hcz11_3
              try clear hcz11_4
              try clear hcz11_5
              try clear hcz11_6
              try clear hcz11_7
              try clear hcz11_8
              try clear hcz11_9
              try clear hcz17_0
              try clear hcz17_1
              try clear hcz17_2
              try clear hcz17_3
              try clear hcz17_4
              try clear hcz17_5
              try clear hcz17_6
              try clear hcz17_7
              try clear hcz17_8
              try clear hcz17_9
              try clear hcz20_0
              try clear hcz20_1
              try clear hcz20_2
              try clear hcz20_3
              try clear hcz20_4
              try clear hcz20_5
              try clear hcz20_6
              try clear hcz20_7
              try clear hcz20_8
              try clear hcz20_9
              try clear hcz28_0
              try clear hcz28_1
              try clear hcz28_2
              try clear hcz28_3
              try clear hcz28_4
              try clear hcz28_5
              try clear hcz28_6
              try clear hcz28_7
              try clear hcz28_8
              try clear hcz28_9
              try clear hcz31_0
              try clear hcz31_1
              try clear hcz31_2
              try clear hcz31_3
              try clear hcz31_4
              try clear hcz31_5
              try clear hcz31_6
              try clear hcz31_7
              try clear hcz31_8
              try clear hcz31_9
              try clear hcz33_0
              try clear hcz33_1
              try clear hcz33_2
              try clear hcz33_3
              try clear hcz33_4
              try clear hcz33_5
              try clear hcz33_6
              try clear hcz33_7
              try clear hcz33_8
              try clear hcz33_9
              try clear hcz7_0
              try clear hcz7_1
              try clear hcz7_2
              try clear hcz7_3
              try clear hcz7_4
              try clear hcz7_5
              try clear hcz7_6
              try clear hcz7_7
              try clear hcz7_8
              try clear hcz7_9
              try clear hfz11_0
              try clear hfz11_1
              try clear hfz11_2
              try clear hfz11_3
              try clear hfz11_4
              try clear hfz11_5
              try clear hfz11_6
              try clear hfz11_7
              try clear hfz11_8
              try clear hfz11_9
              try clear hfz17_0
              try clear hfz17_1
              try clear hfz17_2
              try clear hfz17_3
              try clear hfz17_4
              try clear hfz17_5
              try clear hfz17_6
              try clear hfz17_7
              try clear hfz17_8
              try clear hfz17_9
              try clear hfz20_0
              try clear hfz20_1
              try clear hfz20_2
              try clear hfz20_3
              try clear hfz20_4
              try clear hfz20_5
              try clear hfz20_6
              try clear hfz20_7
              try clear hfz20_8
              try clear hfz20_9
              try clear hfz28_0
              try clear hfz28_1
              try clear hfz28_2
              try clear hfz28_3
              try clear hfz28_4
              try clear hfz28_5
              try clear hfz28_6
              try clear hfz28_7
              try clear hfz28_8
              try clear hfz28_9
              try clear hfz31_0
              try clear hfz31_1
              try clear hfz31_2
              try clear hfz31_3
              try clear hfz31_4
              try clear hfz31_5
              try clear hfz31_6
              try clear hfz31_7
              try clear hfz31_8
              try clear hfz31_9
              try clear hfz33_0
              try clear hfz33_1
              try clear hfz33_2
              try clear hfz33_3
              try clear hfz33_4
              try clear hfz33_5
              try clear hfz33_6
              try clear hfz33_7
              try clear hfz33_8
              try clear hfz33_9
              try clear hfz7_0
              try clear hfz7_1
              try clear hfz7_2
              try clear hfz7_3
              try clear hfz7_4
              try clear hfz7_5
              try clear hfz7_6
              try clear hfz7_7
              try clear hfz7_8
              try clear hfz7_9
              try clear hx171_0
              try clear hx171_1
              try clear hx171_2
              try clear hx171_3
              try clear hx171_4
              try clear hx171_5
              try clear hx171_6
              try clear hx171_7
              try clear hx171_8
              try clear hx171_9
              try clear hx179_0
              try clear p1
              try clear p17
              try clear p171
              try clear p179
              try clear p2
              try clear p6
              try clear q1
              try clear q17
              try clear q171
              try clear q179
              obtain ⟨kq, x6_18, rfl, HA, HJ18, BK169, HB⟩ := hcut
              cases kq with
              | zero => exact absurd HA.out (by simp [transeptref15_Feed.j2])
              | succ kj18 =>
                have H := HA.out
                clear HA
                simp only [transeptref15_Feed.j2] at H
                by_cases c43 : x6_18 = true
                · subst c43
                  have H1 : (if a1_0 = 3 then ((transeptref15_Open.f kj18 l0).bind fun t180 => (if t180 ≥ 64 then (some 5) else (some 0))) else (some 0)) = some r := by rw [if_pos rfl] at H; exact H
                  clear H
                  have H := H1
                  clear H1
                  by_cases c44 : a1_0 = 3
                  · rw [if_pos c44] at H
                    have c44b0 : (a1_0 == 3) = true := beq_iff_eq.mpr c44
                    have c44b1 : (a1_0 != 3) = false := bne_eq_false_iff_eq.mpr c44
                    clear c44
                    replace H := Option.bind_eq_some_iff.mp H
                    obtain ⟨t180, A450, H⟩ := H
                    replace H : (if t180 ≥ 64 then (some 5) else (some 0)) = some r := H
                    have A45 := Aside0.mk A450
                    clear A450
                    by_cases c46 : t180 ≥ 64
                    · rw [if_pos c46] at H
                      have c46b0 : decide (64 ≤ t180) = true := decide_eq_true c46
                      clear c46
                      obtain rfl := Option.some.inj H
                      have hcz47_0 : wc.cell? ⟨gb169, 0, none⟩ = some (.int .i64 a1_0) := (blk_cell BK169.out 0).trans rfl
                      have hcz47_1 : wc.cell? ⟨gb169, 1, none⟩ = some (.int .u64 a1_1) := (blk_cell BK169.out 1).trans rfl
                      have hcz47_2 : wc.cell? ⟨gb169, 2, none⟩ = some (.int .u64 a1_2) := (blk_cell BK169.out 2).trans rfl
                      have hcz47_3 : wc.cell? ⟨gb169, 3, none⟩ = some (.string a1_3) := (blk_cell BK169.out 3).trans rfl
                      have hcz47_4 : wc.cell? ⟨gb169, 4, none⟩ = some (.string a1_4) := (blk_cell BK169.out 4).trans rfl
                      have hcz47_5 : wc.cell? ⟨gb169, 5, none⟩ = some (.string a1_5) := (blk_cell BK169.out 5).trans rfl
                      have hcz47_6 : wc.cell? ⟨gb169, 6, none⟩ = some (.string a1_6) := (blk_cell BK169.out 6).trans rfl
                      have hcz47_7 : wc.cell? ⟨gb169, 7, none⟩ = some (.int .i64 a1_7) := (blk_cell BK169.out 7).trans rfl
                      have hcz47_8 : wc.cell? ⟨gb169, 8, none⟩ = some (.int .i64 a1_8) := (blk_cell BK169.out 8).trans rfl
                      have hcz47_9 : wc.cell? ⟨gb169, 9, none⟩ = some (.int .i64 a1_9) := (blk_cell BK169.out 9).trans rfl
                      have hfz47_0 := blk_frozen BK169.out 0
                      have hfz47_1 := blk_frozen BK169.out 1
                      have hfz47_2 := blk_frozen BK169.out 2
                      have hfz47_3 := blk_frozen BK169.out 3
                      have hfz47_4 := blk_frozen BK169.out 4
                      have hfz47_5 := blk_frozen BK169.out 5
                      have hfz47_6 := blk_frozen BK169.out 6
                      have hfz47_7 := blk_frozen BK169.out 7
                      have hfz47_8 := blk_frozen BK169.out 8
                      have hfz47_9 := blk_frozen BK169.out 9
                      go_wp2_with (first | (go_at_call 17; (with_reducible refine (transeptref15_Open.calls kj18 _ _ l0 t180 _ ?side1 ?side2 A45.out).mono ?_); (case side1 => repeat (first | exact (Kd.C_below HR0.out HB.out) | (with_reducible refine Kd.C_alloc ?_ _) | (with_reducible refine Kd.C_drewN ?_ _) | (with_reducible refine Kd.C_drew ?_))); (case side2 => exact HC0.out); rintro e w48 ⟨rfl, hb⟩; have n0_ := Aside0.mk (blk_below (g := gb169) (o := .cells #[.int .i64 a1_0, .int .u64 a1_1, .int .u64 a1_2, .string a1_3, .string a1_4, .string a1_5, .string a1_6, .int .i64 a1_7, .int .i64 a1_8, .int .i64 a1_9] 31 (0, 0)) (by (with_reducible repeat (first | refine blk_drewN ?_ _ | refine blk_drew ?_ | refine blk_alloc ?_ _)); exact BK169.out) hb); have n1_ := Aside0.mk (below_step (by repeat (first | (with_reducible first | exact HB.out | apply below_alloc | apply pw_below_drewN | apply below_drew1 | refine below_set ?_ GE169.out) | exact HB.out)) hb); clear BK169; clear HB; have BK169 := n0_; have HB := n1_; clear n0_ n1_; (try clear hb); (try clear hb2); (try clear hk); (try clear hi)))
                      repeat (go_quiet (first | (go_at_call 17; (with_reducible refine (transeptref15_Open.calls kj18 _ _ l0 t180 _ ?side1 ?side2 A45.out).mono ?_); (case side1 => repeat (first | exact (Kd.C_below HR0.out HB.out) | (with_reducible refine Kd.C_alloc ?_ _) | (with_reducible refine Kd.C_drewN ?_ _) | (with_reducible refine Kd.C_drew ?_))); (case side2 => exact HC0.out); rintro e w48 ⟨rfl, hb⟩; have n0_ := Aside0.mk (blk_below (g := gb169) (o := .cells #[.int .i64 a1_0, .int .u64 a1_1, .int .u64 a1_2, .string a1_3, .string a1_4, .string a1_5, .string a1_6, .int .i64 a1_7, .int .i64 a1_8, .int .i64 a1_9] 31 (0, 0)) (by (with_reducible repeat (first | refine blk_drewN ?_ _ | refine blk_drew ?_ | refine blk_alloc ?_ _)); exact BK169.out) hb); have n1_ := Aside0.mk (below_step (by repeat (first | (with_reducible first | exact HB.out | apply below_alloc | apply pw_below_drewN | apply below_drew1 | refine below_set ?_ GE169.out) | exact HB.out)) hb); clear BK169; clear HB; have BK169 := n0_; have HB := n1_; clear n0_ n1_; (try clear hb); (try clear hb2); (try clear hk); (try clear hi))); try go_wp2_with (first | (go_at_call 17; (with_reducible refine (transeptref15_Open.calls kj18 _ _ l0 t180 _ ?side1 ?side2 A45.out).mono ?_); (case side1 => repeat (first | exact (Kd.C_below HR0.out HB.out) | (with_reducible refine Kd.C_alloc ?_ _) | (with_reducible refine Kd.C_drewN ?_ _) | (with_reducible refine Kd.C_drew ?_))); (case side2 => exact HC0.out); rintro e w48 ⟨rfl, hb⟩; have n0_ := Aside0.mk (blk_below (g := gb169) (o := .cells #[.int .i64 a1_0, .int .u64 a1_1, .int .u64 a1_2, .string a1_3, .string a1_4, .string a1_5, .string a1_6, .int .i64 a1_7, .int .i64 a1_8, .int .i64 a1_9] 31 (0, 0)) (by (with_reducible repeat (first | refine blk_drewN ?_ _ | refine blk_drew ?_ | refine blk_alloc ?_ _)); exact BK169.out) hb); have n1_ := Aside0.mk (below_step (by repeat (first | (with_reducible first | exact HB.out | apply below_alloc | apply pw_below_drewN | apply below_drew1 | refine below_set ?_ GE169.out) | exact HB.out)) hb); clear BK169; clear HB; have BK169 := n0_; have HB := n1_; clear n0_ n1_; (try clear hb); (try clear hb2); (try clear hk); (try clear hi))))
                      go_ret
                      exact ⟨by first | rfl | (simp [errW_none, errW_some] <;> rfl) | (simp [*, errW_none, errW_some] <;> rfl), by repeat (first | (with_reducible first | exact HB.out | apply below_alloc | apply pw_below_drewN | apply below_drew1 | refine below_set ?_ GE169.out) | exact HB.out)⟩
                    · rw [if_neg c46] at H
                      have c46b0 : decide (64 ≤ t180) = false := decide_eq_false c46
                      clear c46
                      obtain rfl := Option.some.inj H
                      have hcz49_0 : wc.cell? ⟨gb169, 0, none⟩ = some (.int .i64 a1_0) := (blk_cell BK169.out 0).trans rfl
                      have hcz49_1 : wc.cell? ⟨gb169, 1, none⟩ = some (.int .u64 a1_1) := (blk_cell BK169.out 1).trans rfl
                      have hcz49_2 : wc.cell? ⟨gb169, 2, none⟩ = some (.int .u64 a1_2) := (blk_cell BK169.out 2).trans rfl
                      have hcz49_3 : wc.cell? ⟨gb169, 3, none⟩ = some (.string a1_3) := (blk_cell BK169.out 3).trans rfl
                      have hcz49_4 : wc.cell? ⟨gb169, 4, none⟩ = some (.string a1_4) := (blk_cell BK169.out 4).trans rfl
                      have hcz49_5 : wc.cell? ⟨gb169, 5, none⟩ = some (.string a1_5) := (blk_cell BK169.out 5).trans rfl
                      have hcz49_6 : wc.cell? ⟨gb169, 6, none⟩ = some (.string a1_6) := (blk_cell BK169.out 6).trans rfl
                      have hcz49_7 : wc.cell? ⟨gb169, 7, none⟩ = some (.int .i64 a1_7) := (blk_cell BK169.out 7).trans rfl
                      have hcz49_8 : wc.cell? ⟨gb169, 8, none⟩ = some (.int .i64 a1_8) := (blk_cell BK169.out 8).trans rfl
                      have hcz49_9 : wc.cell? ⟨gb169, 9, none⟩ = some (.int .i64 a1_9) := (blk_cell BK169.out 9).trans rfl
                      have hfz49_0 := blk_frozen BK169.out 0
                      have hfz49_1 := blk_frozen BK169.out 1
                      have hfz49_2 := blk_frozen BK169.out 2
                      have hfz49_3 := blk_frozen BK169.out 3
                      have hfz49_4 := blk_frozen BK169.out 4
                      have hfz49_5 := blk_frozen BK169.out 5
                      have hfz49_6 := blk_frozen BK169.out 6
                      have hfz49_7 := blk_frozen BK169.out 7
                      have hfz49_8 := blk_frozen BK169.out 8
                      have hfz49_9 := blk_frozen BK169.out 9
                      go_wp2_with (first | (go_at_call 17; (with_reducible refine (transeptref15_Open.calls kj18 _ _ l0 t180 _ ?side1 ?side2 A45.out).mono ?_); (case side1 => repeat (first | exact (Kd.C_below HR0.out HB.out) | (with_reducible refine Kd.C_alloc ?_ _) | (with_reducible refine Kd.C_drewN ?_ _) | (with_reducible refine Kd.C_drew ?_))); (case side2 => exact HC0.out); rintro e w50 ⟨rfl, hb⟩; have n0_ := Aside0.mk (blk_below (g := gb169) (o := .cells #[.int .i64 a1_0, .int .u64 a1_1, .int .u64 a1_2, .string a1_3, .string a1_4, .string a1_5, .string a1_6, .int .i64 a1_7, .int .i64 a1_8, .int .i64 a1_9] 31 (0, 0)) (by (with_reducible repeat (first | refine blk_drewN ?_ _ | refine blk_drew ?_ | refine blk_alloc ?_ _)); exact BK169.out) hb); have n1_ := Aside0.mk (below_step (by repeat (first | (with_reducible first | exact HB.out | apply below_alloc | apply pw_below_drewN | apply below_drew1 | refine below_set ?_ GE169.out) | exact HB.out)) hb); clear BK169; clear HB; have BK169 := n0_; have HB := n1_; clear n0_ n1_; (try clear hb); (try clear hb2); (try clear hk); (try clear hi)))
                      repeat (go_quiet (first | (go_at_call 17; (with_reducible refine (transeptref15_Open.calls kj18 _ _ l0 t180 _ ?side1 ?side2 A45.out).mono ?_); (case side1 => repeat (first | exact (Kd.C_below HR0.out HB.out) | (with_reducible refine Kd.C_alloc ?_ _) | (with_reducible refine Kd.C_drewN ?_ _) | (with_reducible refine Kd.C_drew ?_))); (case side2 => exact HC0.out); rintro e w50 ⟨rfl, hb⟩; have n0_ := Aside0.mk (blk_below (g := gb169) (o := .cells #[.int .i64 a1_0, .int .u64 a1_1, .int .u64 a1_2, .string a1_3, .string a1_4, .string a1_5, .string a1_6, .int .i64 a1_7, .int .i64 a1_8, .int .i64 a1_9] 31 (0, 0)) (by (with_reducible repeat (first | refine blk_drewN ?_ _ | refine blk_drew ?_ | refine blk_alloc ?_ _)); exact BK169.out) hb); have n1_ := Aside0.mk (below_step (by repeat (first | (with_reducible first | exact HB.out | apply below_alloc | apply pw_below_drewN | apply below_drew1 | refine below_set ?_ GE169.out) | exact HB.out)) hb); clear BK169; clear HB; have BK169 := n0_; have HB := n1_; clear n0_ n1_; (try clear hb); (try clear hb2); (try clear hk); (try clear hi))); try go_wp2_with (first | (go_at_call 17; (with_reducible refine (transeptref15_Open.calls kj18 _ _ l0 t180 _ ?side1 ?side2 A45.out).mono ?_); (case side1 => repeat (first | exact (Kd.C_below HR0.out HB.out) | (with_reducible refine Kd.C_alloc ?_ _) | (with_reducible refine Kd.C_drewN ?_ _) | (with_reducible refine Kd.C_drew ?_))); (case side2 => exact HC0.out); rintro e w50 ⟨rfl, hb⟩; have n0_ := Aside0.mk (blk_below (g := gb169) (o := .cells #[.int .i64 a1_0, .int .u64 a1_1, .int .u64 a1_2, .string a1_3, .string a1_4, .string a1_5, .string a1_6, .int .i64 a1_7, .int .i64 a1_8, .int .i64 a1_9] 31 (0, 0)) (by (with_reducible repeat (first | refine blk_drewN ?_ _ | refine blk_drew ?_ | refine blk_alloc ?_ _)); exact BK169.out) hb); have n1_ := Aside0.mk (below_step (by repeat (first | (with_reducible first | exact HB.out | apply below_alloc | apply pw_below_drewN | apply below_drew1 | refine below_set ?_ GE169.out) | exact HB.out)) hb); clear BK169; clear HB; have BK169 := n0_; have HB := n1_; clear n0_ n1_; (try clear hb); (try clear hb2); (try clear hk); (try clear hi))))
                      go_ret
                      exact ⟨by first | rfl | (simp [errW_none, errW_some] <;> rfl) | (simp [*, errW_none, errW_some] <;> rfl), by repeat (first | (with_reducible first | exact HB.out | apply below_alloc | apply pw_below_drewN | apply below_drew1 | refine below_set ?_ GE169.out) | exact HB.out)⟩
                  · rw [if_neg c44] at H
                    have c44b0 : (a1_0 == 3) = false := beq_eq_false_iff_ne.mpr c44
                    have c44b1 : (a1_0 != 3) = true := bne_iff_ne.mpr c44
                    obtain rfl := Option.some.inj H
                    have hcz51_0 : wc.cell? ⟨gb169, 0, none⟩ = some (.int .i64 a1_0) := (blk_cell BK169.out 0).trans rfl
                    have hcz51_1 : wc.cell? ⟨gb169, 1, none⟩ = some (.int .u64 a1_1) := (blk_cell BK169.out 1).trans rfl
                    have hcz51_2 : wc.cell? ⟨gb169, 2, none⟩ = some (.int .u64 a1_2) := (blk_cell BK169.out 2).trans rfl
                    have hcz51_3 : wc.cell? ⟨gb169, 3, none⟩ = some (.string a1_3) := (blk_cell BK169.out 3).trans rfl
                    have hcz51_4 : wc.cell? ⟨gb169, 4, none⟩ = some (.string a1_4) := (blk_cell BK169.out 4).trans rfl
                    have hcz51_5 : wc.cell? ⟨gb169, 5, none⟩ = some (.string a1_5) := (blk_cell BK169.out 5).trans rfl
                    have hcz51_6 : wc.cell? ⟨gb169, 6, none⟩ = some (.string a1_6) := (blk_cell BK169.out 6).trans rfl
                    have hcz51_7 : wc.cell? ⟨gb169, 7, none⟩ = some (.int .i64 a1_7) := (blk_cell BK169.out 7).trans rfl
                    have hcz51_8 : wc.cell? ⟨gb169, 8, none⟩ = some (.int .i64 a1_8) := (blk_cell BK169.out 8).trans rfl
                    have hcz51_9 : wc.cell? ⟨gb169, 9, none⟩ = some (.int .i64 a1_9) := (blk_cell BK169.out 9).trans rfl
                    have hfz51_0 := blk_frozen BK169.out 0
                    have hfz51_1 := blk_frozen BK169.out 1
                    have hfz51_2 := blk_frozen BK169.out 2
                    have hfz51_3 := blk_frozen BK169.out 3
                    have hfz51_4 := blk_frozen BK169.out 4
                    have hfz51_5 := blk_frozen BK169.out 5
                    have hfz51_6 := blk_frozen BK169.out 6
                    have hfz51_7 := blk_frozen BK169.out 7
                    have hfz51_8 := blk_frozen BK169.out 8
                    have hfz51_9 := blk_frozen BK169.out 9
                    go_wp2
                    repeat (go_quiet (fail); try go_wp2)
                    go_ret
                    exact ⟨by first | rfl | (simp [errW_none, errW_some] <;> rfl) | (simp [*, errW_none, errW_some] <;> rfl), by repeat (first | (with_reducible first | exact HB.out | apply below_alloc | apply pw_below_drewN | apply below_drew1 | refine below_set ?_ GE169.out) | exact HB.out)⟩
                · replace c43 := Bool.eq_false_iff.mpr c43
                  subst c43
                  have H1 : (some 6) = some r := by rw [if_neg (show ¬ (false = true) by decide)] at H; exact H
                  clear H
                  have H := H1
                  clear H1
                  obtain rfl := Option.some.inj H
                  go_wp2
                  repeat (go_quiet (fail); try go_wp2)
                  go_ret
                  exact ⟨by first | rfl | (simp [errW_none, errW_some] <;> rfl) | (simp [*, errW_none, errW_some] <;> rfl), by repeat (first | (with_reducible first | exact HB.out | apply below_alloc | apply pw_below_drewN | apply below_drew1 | refine below_set ?_ GE169.out) | exact HB.out)⟩
  · replace c4 := Bool.eq_false_iff.mpr c4
    subst c4
    have H1 : (some 1) = some r := by rw [if_neg (show ¬ (false = true) by decide)] at H; exact H
    clear H
    have H := H1
    clear H1
    obtain rfl := Option.some.inj H
    go_enter Tryd.func15, Tryd.ntmps15
    go_wp2_with (first | ((with_reducible refine gate_dst (N := 3) rfl ?_); (try (refine gate_guard (by rfl) ?_; dsimp only)); refine box_event ?hg (N := 3) ?hd (cs := #[.int .i64 a1_0, .int .u64 a1_1, .int .u64 a1_2, .string a1_3, .string a1_4, .string a1_5, .string a1_6, .int .i64 a1_7, .int .i64 a1_8, .int .i64 a1_9]) (t := 31) ?hr ?_; (case hd => rfl); (case hg => rfl); (case hr => first | (go_simp; done) | (go_simp; rfl)); intro gb169 hg w52 hbox hb; have n0_ := Aside0.mk (below_step (by repeat (first | (with_reducible first | exact HB.out | apply below_alloc | apply pw_below_drewN | apply below_drew1) | exact HB.out)) hb); have n1_ := Aside0.mk (hbox); have n2_ := Aside0.mk ((by rw [hg]; exact (below_size (by repeat (first | (with_reducible first | exact HB.out | apply below_alloc | apply pw_below_drewN | apply below_drew1) | exact HB.out))) : w.heap.size ≤ gb169)); have n3_ := Aside0.mk ((by rw [hg]; exact (below_size (by repeat (first | (with_reducible first | exact HB.out | apply below_alloc | apply pw_below_drewN | apply below_drew1) | exact HB.out))) : w.heap.size ≤ gb169)); clear HB; have HB := n0_; have BK169 := n1_; have GW169 := n2_; have GE169 := n3_; clear n0_ n1_ n2_ n3_; clear hb hbox hg; have hcz53_0 : w52.cell? ⟨gb169, 0, none⟩ = some (.int .i64 a1_0) := (blk_cell BK169.out 0).trans rfl; have hcz53_1 : w52.cell? ⟨gb169, 1, none⟩ = some (.int .u64 a1_1) := (blk_cell BK169.out 1).trans rfl; have hcz53_2 : w52.cell? ⟨gb169, 2, none⟩ = some (.int .u64 a1_2) := (blk_cell BK169.out 2).trans rfl; have hcz53_3 : w52.cell? ⟨gb169, 3, none⟩ = some (.string a1_3) := (blk_cell BK169.out 3).trans rfl; have hcz53_4 : w52.cell? ⟨gb169, 4, none⟩ = some (.string a1_4) := (blk_cell BK169.out 4).trans rfl; have hcz53_5 : w52.cell? ⟨gb169, 5, none⟩ = some (.string a1_5) := (blk_cell BK169.out 5).trans rfl; have hcz53_6 : w52.cell? ⟨gb169, 6, none⟩ = some (.string a1_6) := (blk_cell BK169.out 6).trans rfl; have hcz53_7 : w52.cell? ⟨gb169, 7, none⟩ = some (.int .i64 a1_7) := (blk_cell BK169.out 7).trans rfl; have hcz53_8 : w52.cell? ⟨gb169, 8, none⟩ = some (.int .i64 a1_8) := (blk_cell BK169.out 8).trans rfl; have hcz53_9 : w52.cell? ⟨gb169, 9, none⟩ = some (.int .i64 a1_9) := (blk_cell BK169.out 9).trans rfl; have hfz53_0 := blk_frozen BK169.out 0; have hfz53_1 := blk_frozen BK169.out 1; have hfz53_2 := blk_frozen BK169.out 2; have hfz53_3 := blk_frozen BK169.out 3; have hfz53_4 := blk_frozen BK169.out 4; have hfz53_5 := blk_frozen BK169.out 5; have hfz53_6 := blk_frozen BK169.out 6; have hfz53_7 := blk_frozen BK169.out 7; have hfz53_8 := blk_frozen BK169.out 8; have hfz53_9 := blk_frozen BK169.out 9) | (go_at_call 25; (with_reducible refine (transeptref05_Right.calls k a1_0 a1_1 a1_2 a1_3 a1_4 a1_5 a1_6 a1_7 a1_8 a1_9 false _ A3.out).mono ?_); rintro e w54 ⟨rfl, hb⟩; have n0_ := Aside0.mk (blk_below (g := gb169) (o := .cells #[.int .i64 a1_0, .int .u64 a1_1, .int .u64 a1_2, .string a1_3, .string a1_4, .string a1_5, .string a1_6, .int .i64 a1_7, .int .i64 a1_8, .int .i64 a1_9] 31 (0, 0)) (by (with_reducible repeat (first | refine blk_drewN ?_ _ | refine blk_drew ?_ | refine blk_alloc ?_ _)); exact BK169.out) hb); have n1_ := Aside0.mk (below_step (by repeat (first | (with_reducible first | exact HB.out | apply below_alloc | apply pw_below_drewN | apply below_drew1 | refine below_set ?_ GE169.out) | exact HB.out)) hb); clear BK169; clear HB; have BK169 := n0_; have HB := n1_; clear n0_ n1_; (try clear hb); (try clear hb2); (try clear hk); (try clear hi)))
    repeat (go_quiet (first | ((with_reducible refine gate_dst (N := 3) rfl ?_); (try (refine gate_guard (by rfl) ?_; dsimp only)); refine box_event ?hg (N := 3) ?hd (cs := #[.int .i64 a1_0, .int .u64 a1_1, .int .u64 a1_2, .string a1_3, .string a1_4, .string a1_5, .string a1_6, .int .i64 a1_7, .int .i64 a1_8, .int .i64 a1_9]) (t := 31) ?hr ?_; (case hd => rfl); (case hg => rfl); (case hr => first | (go_simp; done) | (go_simp; rfl)); intro gb169 hg w52 hbox hb; have n0_ := Aside0.mk (below_step (by repeat (first | (with_reducible first | exact HB.out | apply below_alloc | apply pw_below_drewN | apply below_drew1) | exact HB.out)) hb); have n1_ := Aside0.mk (hbox); have n2_ := Aside0.mk ((by rw [hg]; exact (below_size (by repeat (first | (with_reducible first | exact HB.out | apply below_alloc | apply pw_below_drewN | apply below_drew1) | exact HB.out))) : w.heap.size ≤ gb169)); have n3_ := Aside0.mk ((by rw [hg]; exact (below_size (by repeat (first | (with_reducible first | exact HB.out | apply below_alloc | apply pw_below_drewN | apply below_drew1) | exact HB.out))) : w.heap.size ≤ gb169)); clear HB; have HB := n0_; have BK169 := n1_; have GW169 := n2_; have GE169 := n3_; clear n0_ n1_ n2_ n3_; clear hb hbox hg; have hcz53_0 : w52.cell? ⟨gb169, 0, none⟩ = some (.int .i64 a1_0) := (blk_cell BK169.out 0).trans rfl; have hcz53_1 : w52.cell? ⟨gb169, 1, none⟩ = some (.int .u64 a1_1) := (blk_cell BK169.out 1).trans rfl; have hcz53_2 : w52.cell? ⟨gb169, 2, none⟩ = some (.int .u64 a1_2) := (blk_cell BK169.out 2).trans rfl; have hcz53_3 : w52.cell? ⟨gb169, 3, none⟩ = some (.string a1_3) := (blk_cell BK169.out 3).trans rfl; have hcz53_4 : w52.cell? ⟨gb169, 4, none⟩ = some (.string a1_4) := (blk_cell BK169.out 4).trans rfl; have hcz53_5 : w52.cell? ⟨gb169, 5, none⟩ = some (.string a1_5) := (blk_cell BK169.out 5).trans rfl; have hcz53_6 : w52.cell? ⟨gb169, 6, none⟩ = some (.string a1_6) := (blk_cell BK169.out 6).trans rfl; have hcz53_7 : w52.cell? ⟨gb169, 7, none⟩ = some (.int .i64 a1_7) := (blk_cell BK169.out 7).trans rfl; have hcz53_8 : w52.cell? ⟨gb169, 8, none⟩ = some (.int .i64 a1_8) := (blk_cell BK169.out 8).trans rfl; have hcz53_9 : w52.cell? ⟨gb169, 9, none⟩ = some (.int .i64 a1_9) := (blk_cell BK169.out 9).trans rfl; have hfz53_0 := blk_frozen BK169.out 0; have hfz53_1 := blk_frozen BK169.out 1; have hfz53_2 := blk_frozen BK169.out 2; have hfz53_3 := blk_frozen BK169.out 3; have hfz53_4 := blk_frozen BK169.out 4; have hfz53_5 := blk_frozen BK169.out 5; have hfz53_6 := blk_frozen BK169.out 6; have hfz53_7 := blk_frozen BK169.out 7; have hfz53_8 := blk_frozen BK169.out 8; have hfz53_9 := blk_frozen BK169.out 9) | (go_at_call 25; (with_reducible refine (transeptref05_Right.calls k a1_0 a1_1 a1_2 a1_3 a1_4 a1_5 a1_6 a1_7 a1_8 a1_9 false _ A3.out).mono ?_); rintro e w54 ⟨rfl, hb⟩; have n0_ := Aside0.mk (blk_below (g := gb169) (o := .cells #[.int .i64 a1_0, .int .u64 a1_1, .int .u64 a1_2, .string a1_3, .string a1_4, .string a1_5, .string a1_6, .int .i64 a1_7, .int .i64 a1_8, .int .i64 a1_9] 31 (0, 0)) (by (with_reducible repeat (first | refine blk_drewN ?_ _ | refine blk_drew ?_ | refine blk_alloc ?_ _)); exact BK169.out) hb); have n1_ := Aside0.mk (below_step (by repeat (first | (with_reducible first | exact HB.out | apply below_alloc | apply pw_below_drewN | apply below_drew1 | refine below_set ?_ GE169.out) | exact HB.out)) hb); clear BK169; clear HB; have BK169 := n0_; have HB := n1_; clear n0_ n1_; (try clear hb); (try clear hb2); (try clear hk); (try clear hi))); try go_wp2_with (first | ((with_reducible refine gate_dst (N := 3) rfl ?_); (try (refine gate_guard (by rfl) ?_; dsimp only)); refine box_event ?hg (N := 3) ?hd (cs := #[.int .i64 a1_0, .int .u64 a1_1, .int .u64 a1_2, .string a1_3, .string a1_4, .string a1_5, .string a1_6, .int .i64 a1_7, .int .i64 a1_8, .int .i64 a1_9]) (t := 31) ?hr ?_; (case hd => rfl); (case hg => rfl); (case hr => first | (go_simp; done) | (go_simp; rfl)); intro gb169 hg w52 hbox hb; have n0_ := Aside0.mk (below_step (by repeat (first | (with_reducible first | exact HB.out | apply below_alloc | apply pw_below_drewN | apply below_drew1) | exact HB.out)) hb); have n1_ := Aside0.mk (hbox); have n2_ := Aside0.mk ((by rw [hg]; exact (below_size (by repeat (first | (with_reducible first | exact HB.out | apply below_alloc | apply pw_below_drewN | apply below_drew1) | exact HB.out))) : w.heap.size ≤ gb169)); have n3_ := Aside0.mk ((by rw [hg]; exact (below_size (by repeat (first | (with_reducible first | exact HB.out | apply below_alloc | apply pw_below_drewN | apply below_drew1) | exact HB.out))) : w.heap.size ≤ gb169)); clear HB; have HB := n0_; have BK169 := n1_; have GW169 := n2_; have GE169 := n3_; clear n0_ n1_ n2_ n3_; clear hb hbox hg; have hcz53_0 : w52.cell? ⟨gb169, 0, none⟩ = some (.int .i64 a1_0) := (blk_cell BK169.out 0).trans rfl; have hcz53_1 : w52.cell? ⟨gb169, 1, none⟩ = some (.int .u64 a1_1) := (blk_cell BK169.out 1).trans rfl; have hcz53_2 : w52.cell? ⟨gb169, 2, none⟩ = some (.int .u64 a1_2) := (blk_cell BK169.out 2).trans rfl; have hcz53_3 : w52.cell? ⟨gb169, 3, none⟩ = some (.string a1_3) := (blk_cell BK169.out 3).trans rfl; have hcz53_4 : w52.cell? ⟨gb169, 4, none⟩ = some (.string a1_4) := (blk_cell BK169.out 4).trans rfl; have hcz53_5 : w52.cell? ⟨gb169, 5, none⟩ = some (.string a1_5) := (blk_cell BK169.out 5).trans rfl; have hcz53_6 : w52.cell? ⟨gb169, 6, none⟩ = some (.string a1_6) := (blk_cell BK169.out 6).trans rfl; have hcz53_7 : w52.cell? ⟨gb169, 7, none⟩ = some (.int .i64 a1_7) := (blk_cell BK169.out 7).trans rfl; have hcz53_8 : w52.cell? ⟨gb169, 8, none⟩ = some (.int .i64 a1_8) := (blk_cell BK169.out 8).trans rfl; have hcz53_9 : w52.cell? ⟨gb169, 9, none⟩ = some (.int .i64 a1_9) := (blk_cell BK169.out 9).trans rfl; have hfz53_0 := blk_frozen BK169.out 0; have hfz53_1 := blk_frozen BK169.out 1; have hfz53_2 := blk_frozen BK169.out 2; have hfz53_3 := blk_frozen BK169.out 3; have hfz53_4 := blk_frozen BK169.out 4; have hfz53_5 := blk_frozen BK169.out 5; have hfz53_6 := blk_frozen BK169.out 6; have hfz53_7 := blk_frozen BK169.out 7; have hfz53_8 := blk_frozen BK169.out 8; have hfz53_9 := blk_frozen BK169.out 9) | (go_at_call 25; (with_reducible refine (transeptref05_Right.calls k a1_0 a1_1 a1_2 a1_3 a1_4 a1_5 a1_6 a1_7 a1_8 a1_9 false _ A3.out).mono ?_); rintro e w54 ⟨rfl, hb⟩; have n0_ := Aside0.mk (blk_below (g := gb169) (o := .cells #[.int .i64 a1_0, .int .u64 a1_1, .int .u64 a1_2, .string a1_3, .string a1_4, .string a1_5, .string a1_6, .int .i64 a1_7, .int .i64 a1_8, .int .i64 a1_9] 31 (0, 0)) (by (with_reducible repeat (first | refine blk_drewN ?_ _ | refine blk_drew ?_ | refine blk_alloc ?_ _)); exact BK169.out) hb); have n1_ := Aside0.mk (below_step (by repeat (first | (with_reducible first | exact HB.out | apply below_alloc | apply pw_below_drewN | apply below_drew1 | refine below_set ?_ GE169.out) | exact HB.out)) hb); clear BK169; clear HB; have BK169 := n0_; have HB := n1_; clear n0_ n1_; (try clear hb); (try clear hb2); (try clear hk); (try clear hi))))
    go_ret
    exact ⟨by first | rfl | (simp [errW_none, errW_some] <;> rfl) | (simp [*, errW_none, errW_some] <;> rfl), by repeat (first | (with_reducible first | exact HB.out | apply below_alloc | apply pw_below_drewN | apply below_drew1 | refine below_set ?_ GE169.out) | exact HB.out)⟩

end Go.Proofs.YtjflbjlkcifpdaaDoor.Xa
