/- Printed functions of the references, one text. -/
import Derived.Test.YtmlhlcdamppbfaaDoorXax0
import Derived.Test.YtmlhlcdamppbfaaDoorXax8
import Derived.Test.YtmlhlcdamppbfaaDoorXax10
import Derived.Test.YtmlhlcdamppbfaaDoorExt

namespace Go.Proofs.YtmlhlcdamppbfaaDoor.Xa
open Go.RowKit Go.Proofs.YtmlhlcdamppbfaaDoor.Ext Go.Proofs.YtmlhlcdamppbfaaDoorW.PrintWords Go.Proofs.YtmlhlcdamppbfaaDoorW.PrintLast Go.Proofs.YtmlhlcdamppbfaaDoorW.PrintMore
attribute [local go_sem] max2_int min2_int max_two min_two max_three min_three max_four min_four   -- for this text's walks alone
set_option linter.unusedVariables false
set_option linter.unusedSimpArgs false

/-! ### transeptref05_Write: function 24 -/
mutual
def transeptref05_Write.l0 : Nat → ByteArray → Int → ByteArray → List ByteArray → Int → Int → Int → Int → ByteArray → ByteArray → ByteArray → ByteArray → Int → Int → Int → Option (ByteArray)
  | 0, _, _, _, _, _, _, _, _, _, _, _, _, _, _, _ => none
  | k + 1, x3, x4, x5, x6, x7, x129000, x129001, x129002, x129003, x129004, x129005, x129006, x129007, x129008, x129009 => if x7 < x4 then (if 0 ≤ x7 then (if x7 < (x6.length : Int) then ((transeptref01_PutText.f k (rdOf ByteArray.empty x6 x7)).bind fun t141 => (if x3.size + t141.size ≤ 9223372036854775807 then (transeptref05_Write.l0 k (x3 ++ t141) x4 x5 x6 (wrap64 (x7 + 1)) x129000 x129001 x129002 x129003 x129004 x129005 x129006 x129007 x129008 x129009) else (none))) else (none)) else (none)) else (transeptref05_Write.l1 k x3 x5 (([x129007, x129008, x129009] : List Int)) 0)
def transeptref05_Write.l1 : Nat → ByteArray → ByteArray → List Int → Int → Option (ByteArray)
  | 0, _, _, _, _ => none
  | k + 1, x3, x5, x8, x9 => if x9 < (x5.size : Int) then (if 0 ≤ x9 then (if (bt x5 x9) = 115 then (if x9 < (x8.length : Int) then ((some (([(wrap64 (Int.tdiv (rd x8 x9) 256)) % 256] : List Int) : List Int)).bind fun y146 => (if x3.size + (strOfNums y146).size ≤ 9223372036854775807 then ((some (([(Int.tmod (rd x8 x9) 256) % 256] : List Int) : List Int)).bind fun y150 => (if (x3 ++ (strOfNums y146)).size + (strOfNums y150).size ≤ 9223372036854775807 then (transeptref05_Write.l1 k ((x3 ++ (strOfNums y146)) ++ (strOfNums y150)) x5 x8 (wrap64 (x9 + 1))) else (none))) else (none))) else (none)) else (if x9 < (x8.length : Int) then ((some (([(Int.tmod (rd x8 x9) 256) % 256] : List Int) : List Int)).bind fun y154 => (if x3.size + (strOfNums y154).size ≤ 9223372036854775807 then (transeptref05_Write.l1 k (x3 ++ (strOfNums y154)) x5 x8 (wrap64 (x9 + 1))) else (none))) else (none))) else (none)) else (some x3)
end
def transeptref05_Write.f (k : Nat) (a0_0 : Int) (a0_1 : Int) (a0_2 : Int) (a0_3 : ByteArray) (a0_4 : ByteArray) (a0_5 : ByteArray) (a0_6 : ByteArray) (a0_7 : Int) (a0_8 : Int) (a0_9 : Int) : Option (ByteArray) := (some (([(a0_0) % 256] : List Int) : List Int)).bind fun y129 => ((transeptref01_Put.f k a0_1).bind fun t132 => (if (strOfNums y129).size + t132.size ≤ 9223372036854775807 then ((transeptref01_Put.f k a0_2).bind fun t133 => (if ((strOfNums y129) ++ t132).size + t133.size ≤ 9223372036854775807 then ((transeptref05_Shape.f k a0_0).bind fun t134 => ((transeptref05_split.f k t134).bind fun bt135 => (transeptref05_Write.l0 k (((strOfNums y129) ++ t132) ++ t133) bt135.1 bt135.2 (([a0_3, a0_4, a0_5, a0_6] : List ByteArray)) 0 a0_0 a0_1 a0_2 a0_3 a0_4 a0_5 a0_6 a0_7 a0_8 a0_9))) else (none))) else (none)))
theorem transeptref05_Write.mono_l : ∀ k, (∀ y0 y1 y2 y3 y4 y5 y6 y7 y8 y9 y10 y11 y12 y13 y14, LeO (transeptref05_Write.l0 k y0 y1 y2 y3 y4 y5 y6 y7 y8 y9 y10 y11 y12 y13 y14) (transeptref05_Write.l0 (k + 1) y0 y1 y2 y3 y4 y5 y6 y7 y8 y9 y10 y11 y12 y13 y14)) ∧ (∀ y0 y1 y2 y3, LeO (transeptref05_Write.l1 k y0 y1 y2 y3) (transeptref05_Write.l1 (k + 1) y0 y1 y2 y3))
  | 0 => ⟨fun _ _ _ _ _ _ _ _ _ _ _ _ _ _ _ r h => by simp [transeptref05_Write.l0] at h, fun _ _ _ _ r h => by simp [transeptref05_Write.l1] at h⟩
  | k + 1 => by
    obtain ⟨ih0, ih1⟩ := transeptref05_Write.mono_l k
    refine ⟨?_, ?_⟩
    · intro y0 y1 y2 y3 y4 y5 y6 y7 y8 y9 y10 y11 y12 y13 y14
      unfold transeptref05_Write.l0
      repeat' first
      | (with_reducible exact ih0 _ _ _ _ _ _ _ _ _ _ _ _ _ _ _)
      | (with_reducible exact ih1 _ _ _ _)
      | (with_reducible exact transeptref01_Put.mono _ _)
      | (with_reducible exact transeptref01_PutText.mono _ _)
      | (with_reducible exact transeptref05_Shape.mono _ _)
      | (with_reducible exact transeptref05_split.mono _ _)
      | (with_reducible exact LeO.refl _)
      | (with_reducible exact LeO.none _)
      | (with_reducible refine LeO.ite ?_ ?_)
      | (with_reducible refine LeO.bind ?_ (fun _ => ?_))
      | exact ih0 _ _ _ _ _ _ _ _ _ _ _ _ _ _ _
      | exact ih1 _ _ _ _
      | exact transeptref01_Put.mono _ _
      | exact transeptref01_PutText.mono _ _
      | exact transeptref05_Shape.mono _ _
      | exact transeptref05_split.mono _ _
      | exact LeO.none _
      | refine LeO.ite ?_ ?_
      | refine LeO.bind ?_ (fun _ => ?_)
    · intro y0 y1 y2 y3
      unfold transeptref05_Write.l1
      repeat' first
      | (with_reducible exact ih0 _ _ _ _ _ _ _ _ _ _ _ _ _ _ _)
      | (with_reducible exact ih1 _ _ _ _)
      | (with_reducible exact transeptref01_Put.mono _ _)
      | (with_reducible exact transeptref01_PutText.mono _ _)
      | (with_reducible exact transeptref05_Shape.mono _ _)
      | (with_reducible exact transeptref05_split.mono _ _)
      | (with_reducible exact LeO.refl _)
      | (with_reducible exact LeO.none _)
      | (with_reducible refine LeO.ite ?_ ?_)
      | (with_reducible refine LeO.bind ?_ (fun _ => ?_))
      | exact ih0 _ _ _ _ _ _ _ _ _ _ _ _ _ _ _
      | exact ih1 _ _ _ _
      | exact transeptref01_Put.mono _ _
      | exact transeptref01_PutText.mono _ _
      | exact transeptref05_Shape.mono _ _
      | exact transeptref05_split.mono _ _
      | exact LeO.none _
      | refine LeO.ite ?_ ?_
      | refine LeO.bind ?_ (fun _ => ?_)
theorem transeptref05_Write.mono : ∀ a0 a1 a2 a3 a4 a5 a6 a7 a8 a9 k, LeO (transeptref05_Write.f k a0 a1 a2 a3 a4 a5 a6 a7 a8 a9) (transeptref05_Write.f (k + 1) a0 a1 a2 a3 a4 a5 a6 a7 a8 a9) := by
  intro a0 a1 a2 a3 a4 a5 a6 a7 a8 a9 k
  obtain ⟨ih0, ih1⟩ := transeptref05_Write.mono_l k
  unfold transeptref05_Write.f
  repeat' first
      | (with_reducible exact ih0 _ _ _ _ _ _ _ _ _ _ _ _ _ _ _)
      | (with_reducible exact ih1 _ _ _ _)
      | (with_reducible exact transeptref01_Put.mono _ _)
      | (with_reducible exact transeptref01_PutText.mono _ _)
      | (with_reducible exact transeptref05_Shape.mono _ _)
      | (with_reducible exact transeptref05_split.mono _ _)
      | (with_reducible exact LeO.refl _)
      | (with_reducible exact LeO.none _)
      | (with_reducible refine LeO.ite ?_ ?_)
      | (with_reducible refine LeO.bind ?_ (fun _ => ?_))
      | exact ih0 _ _ _ _ _ _ _ _ _ _ _ _ _ _ _
      | exact ih1 _ _ _ _
      | exact transeptref01_Put.mono _ _
      | exact transeptref01_PutText.mono _ _
      | exact transeptref05_Shape.mono _ _
      | exact transeptref05_split.mono _ _
      | exact LeO.none _
      | refine LeO.ite ?_ ?_
      | refine LeO.bind ?_ (fun _ => ?_)
def transeptref05_Write.T1 : Bool × List (List Nat × List Nat) := (true, [([], []), ([0], [0]), ([1], [1]), ([2], [2]), ([3], [3]), ([], []), ([5], [5]), ([6], [6]), ([4, 7], [4, 7]), ([], []), ([9], [9]), ([10, 7], [10]), ([8, 11], [8, 11]), ([12, 11, 0, 1, 2, 3, 4, 5, 6, 7, 8, 9, 10, 11, 12], [12])])
def transeptref05_Write.B1 : List Nat := [0, 1, 3, 7, 15, 0, 32, 96, 255, 0, 512, 1760, 4095, 8191]
theorem transeptref05_Write.tab1 : rtab .any (opsOf Tryd.f24 1) = transeptref05_Write.T1 := by kernel_rfl
theorem transeptref05_Write.bits1 : waitsOk transeptref05_Write.T1.2 transeptref05_Write.B1 = true := by kernel_rfl
set_option maxHeartbeats 8000000 in
set_option maxRecDepth 100000 in
theorem transeptref05_Write.calls (k : Nat) (a0_0 : Int) (a0_1 : Int) (a0_2 : Int) (a0_3 : ByteArray) (a0_4 : ByteArray) (a0_5 : ByteArray) (a0_6 : ByteArray) (a0_7 : Int) (a0_8 : Int) (a0_9 : Int) (r : ByteArray) (w : World) (h : transeptref05_Write.f k a0_0 a0_1 a0_2 a0_3 a0_4 a0_5 a0_6 a0_7 a0_8 a0_9 = some r) :
    Calls Tryd.prog 24 #[.agg #[.int .i64 a0_0, .int .u64 a0_1, .int .u64 a0_2, .string a0_3, .string a0_4, .string a0_5, .string a0_6, .int .i64 a0_7, .int .i64 a0_8, .int .i64 a0_9]] w fun e w' => e = .returned (.string r) ∧ Below w.heap.size w w' := by
  have hu24 := Tryd.underlying24
  have HB := Aside0.mk (Below.refl w.heap.size w)
  have H : ((some (([(a0_0) % 256] : List Int) : List Int)).bind fun y129 => ((transeptref01_Put.f k a0_1).bind fun t132 => (if (strOfNums y129).size + t132.size ≤ 9223372036854775807 then ((transeptref01_Put.f k a0_2).bind fun t133 => (if ((strOfNums y129) ++ t132).size + t133.size ≤ 9223372036854775807 then ((transeptref05_Shape.f k a0_0).bind fun t134 => ((transeptref05_split.f k t134).bind fun bt135 => (transeptref05_Write.l0 k (((strOfNums y129) ++ t132) ++ t133) bt135.1 bt135.2 (([a0_3, a0_4, a0_5, a0_6] : List ByteArray)) 0 a0_0 a0_1 a0_2 a0_3 a0_4 a0_5 a0_6 a0_7 a0_8 a0_9))) else (none))) else (none)))) = some r := h
  clear h
  obtain ⟨y129, hy129⟩ : ∃ y_ : List Int, y_ = (([(a0_0) % 256] : List Int)) := ⟨_, rfl⟩
  replace H : ((transeptref01_Put.f k a0_1).bind fun t132 => (if (strOfNums y129).size + t132.size ≤ 9223372036854775807 then ((transeptref01_Put.f k a0_2).bind fun t133 => (if ((strOfNums y129) ++ t132).size + t133.size ≤ 9223372036854775807 then ((transeptref05_Shape.f k a0_0).bind fun t134 => ((transeptref05_split.f k t134).bind fun bt135 => (transeptref05_Write.l0 k (((strOfNums y129) ++ t132) ++ t133) bt135.1 bt135.2 (([a0_3, a0_4, a0_5, a0_6] : List ByteArray)) 0 a0_0 a0_1 a0_2 a0_3 a0_4 a0_5 a0_6 a0_7 a0_8 a0_9))) else (none))) else (none))) = some r := by first | (rw [hy129]; with_reducible exact H) | (have H2_ := (Option.bind_some _ _).symm.trans H; rw [hy129]; with_reducible exact H2_) | (have H2_ := (Option.bind_some _ _).symm.trans H; with_reducible exact H2_) | with_reducible exact H | (rw [hy129]; exact H) | exact H
  have Ny129 := Aside0.mk hy129
  clear hy129
  replace H := Option.bind_eq_some_iff.mp H
  obtain ⟨t132, A20, H⟩ := H
  replace H : (if (strOfNums y129).size + t132.size ≤ 9223372036854775807 then ((transeptref01_Put.f k a0_2).bind fun t133 => (if ((strOfNums y129) ++ t132).size + t133.size ≤ 9223372036854775807 then ((transeptref05_Shape.f k a0_0).bind fun t134 => ((transeptref05_split.f k t134).bind fun bt135 => (transeptref05_Write.l0 k (((strOfNums y129) ++ t132) ++ t133) bt135.1 bt135.2 (([a0_3, a0_4, a0_5, a0_6] : List ByteArray)) 0 a0_0 a0_1 a0_2 a0_3 a0_4 a0_5 a0_6 a0_7 a0_8 a0_9))) else (none))) else (none)) = some r := H
  have A2 := Aside0.mk A20
  clear A20
  by_cases c3 : (strOfNums y129).size + t132.size ≤ 9223372036854775807
  · rw [if_pos c3] at H
    have c3b0 := eq_true c3
    have c3b1 : decide ((strOfNums y129).size + t132.size ≤ 9223372036854775807) = true := decide_eq_true c3
    try have c3b2 : (9223372036854775807 < (strOfNums y129).size + t132.size) = False := eq_false (Nat.not_lt.2 c3)
    replace H := Option.bind_eq_some_iff.mp H
    obtain ⟨t133, A40, H⟩ := H
    replace H : (if ((strOfNums y129) ++ t132).size + t133.size ≤ 9223372036854775807 then ((transeptref05_Shape.f k a0_0).bind fun t134 => ((transeptref05_split.f k t134).bind fun bt135 => (transeptref05_Write.l0 k (((strOfNums y129) ++ t132) ++ t133) bt135.1 bt135.2 (([a0_3, a0_4, a0_5, a0_6] : List ByteArray)) 0 a0_0 a0_1 a0_2 a0_3 a0_4 a0_5 a0_6 a0_7 a0_8 a0_9))) else (none)) = some r := H
    have A4 := Aside0.mk A40
    clear A40
    by_cases c5 : ((strOfNums y129) ++ t132).size + t133.size ≤ 9223372036854775807
    · rw [if_pos c5] at H
      have c5b0 := eq_true c5
      have c5b1 : decide (((strOfNums y129) ++ t132).size + t133.size ≤ 9223372036854775807) = true := decide_eq_true c5
      try have c5b2 : (9223372036854775807 < ((strOfNums y129) ++ t132).size + t133.size) = False := eq_false (Nat.not_lt.2 c5)
      have c5b3 : (9223372036854775807 < (strOfNums y129).size + (t132).size + t133.size) = False := eq_false (by have h_ := Nat.not_lt.2 c5; rwa [ByteArray.size_append] at h_)
      replace H := Option.bind_eq_some_iff.mp H
      obtain ⟨t134, A60, H⟩ := H
      replace H : ((transeptref05_split.f k t134).bind fun bt135 => (transeptref05_Write.l0 k (((strOfNums y129) ++ t132) ++ t133) bt135.1 bt135.2 (([a0_3, a0_4, a0_5, a0_6] : List ByteArray)) 0 a0_0 a0_1 a0_2 a0_3 a0_4 a0_5 a0_6 a0_7 a0_8 a0_9)) = some r := H
      have A6 := Aside0.mk A60
      clear A60
      replace H := Option.bind_eq_some_iff.mp H
      obtain ⟨⟨t135, t136⟩, A70, H⟩ := H
      replace H : (transeptref05_Write.l0 k (((strOfNums y129) ++ t132) ++ t133) t135 t136 (([a0_3, a0_4, a0_5, a0_6] : List ByteArray)) 0 a0_0 a0_1 a0_2 a0_3 a0_4 a0_5 a0_6 a0_7 a0_8 a0_9) = some r := H
      have A7 := Aside0.mk A70
      clear A70
      obtain ⟨y137, hy137⟩ : ∃ y_ : List ByteArray, y_ = (([a0_3, a0_4, a0_5, a0_6] : List ByteArray)) := ⟨_, rfl⟩
      replace H : (transeptref05_Write.l0 k (((strOfNums y129) ++ t132) ++ t133) t135 t136 y137 0 a0_0 a0_1 a0_2 a0_3 a0_4 a0_5 a0_6 a0_7 a0_8 a0_9) = some r := by first | (rw [hy137]; with_reducible exact H) | (have H2_ := (Option.bind_some _ _).symm.trans H; rw [hy137]; with_reducible exact H2_) | (have H2_ := (Option.bind_some _ _).symm.trans H; with_reducible exact H2_) | with_reducible exact H | (rw [hy137]; exact H) | exact H
      have Ny137 := Aside0.mk hy137
      clear hy137
      have H' := Aside0.mk H
      clear H
      go_enter Tryd.func24, Tryd.ntmps24
      try go_wp2_with (first | ((with_reducible refine gate_dst (N := 1) rfl ?_); refine box_event ?hg (N := 1) ?hd (cs := #[.int .i64 a0_0, .int .u64 a0_1, .int .u64 a0_2, .string a0_3, .string a0_4, .string a0_5, .string a0_6, .int .i64 a0_7, .int .i64 a0_8, .int .i64 a0_9]) (t := 24) ?hr ?_; (case hd => rfl); (case hg => rfl); (case hr => first | (go_simp; done) | (go_simp; rfl)); intro gb128 hg w8 hbox hb; have n0_ := Aside0.mk (below_step (by repeat (first | (with_reducible first | exact HB.out | apply below_alloc | apply pw_below_drewN | apply below_drew1) | exact HB.out)) hb); have n1_ := Aside0.mk (hbox); have n2_ := Aside0.mk ((by rw [hg]; exact (below_size (by repeat (first | (with_reducible first | exact HB.out | apply below_alloc | apply pw_below_drewN | apply below_drew1) | exact HB.out))) : w.heap.size ≤ gb128)); have n3_ := Aside0.mk ((by rw [hg]; exact (below_size (by repeat (first | (with_reducible first | exact HB.out | apply below_alloc | apply pw_below_drewN | apply below_drew1) | exact HB.out))) : w.heap.size ≤ gb128)); clear HB; have HB := n0_; have BK128 := n1_; have GW128 := n2_; have GE128 := n3_; clear n0_ n1_ n2_ n3_; clear hb hbox hg))
      have n0_ := Aside0.mk (blk_drew BK128.out)
      have n1_ := Aside0.mk (below_drew1 HB.out)
      clear BK128
      clear HB
      have BK128 := n0_
      have HB := n1_
      clear n0_ n1_
      refine start_ (n := 14) (S := fun w' => w'.cell? ⟨gb128, 0, none⟩ = some (.int .i64 a0_0) ∧ w'.cell? ⟨gb128, 1, none⟩ = some (.int .u64 a0_1) ∧ w'.cell? ⟨gb128, 2, none⟩ = some (.int .u64 a0_2) ∧ w'.cell? ⟨gb128, 3, none⟩ = some (.string a0_3) ∧ w'.cell? ⟨gb128, 4, none⟩ = some (.string a0_4) ∧ w'.cell? ⟨gb128, 5, none⟩ = some (.string a0_5) ∧ w'.cell? ⟨gb128, 6, none⟩ = some (.string a0_6) ∧ w'.cell? ⟨gb128, 7, none⟩ = some (.int .i64 a0_7) ∧ w'.cell? ⟨gb128, 8, none⟩ = some (.int .i64 a0_8) ∧ w'.cell? ⟨gb128, 9, none⟩ = some (.int .i64 a0_9)) (ds := []) #[false, false, false, false, false, false, false, false, false, false, false, false, false, false] (by kernel_rfl) rfl rfl ⟨(blk_cell BK128.out 0).trans rfl, (blk_cell BK128.out 1).trans rfl, (blk_cell BK128.out 2).trans rfl, (blk_cell BK128.out 3).trans rfl, (blk_cell BK128.out 4).trans rfl, (blk_cell BK128.out 5).trans rfl, (blk_cell BK128.out 6).trans rfl, (blk_cell BK128.out 7).trans rfl, (blk_cell BK128.out 8).trans rfl, (blk_cell BK128.out 9).trans rfl⟩ (fun hHeld => ?_); refine with_tabW transeptref05_Write.tab1 transeptref05_Write.bits1 (fun HT_ HW_ => ?_)
      generalize w8.drew = w9 at BK128 HB hHeld ⊢
      refine pure_ (i := 0) (N := some 10) (v := ?_) (a' := ?_) #[true, false, false, false, false, false, false, false, false, false, false, false, false, false] rfl rfl (any_of HT_.out (by kernel_rfl)) (fun _ _ _ h => h) (Or.inl ⟨by rfl, ?_⟩) ?_ ?_
      rotate_left
      · intro w'
        go_simp
        with_reducible rfl
      rotate_left
      · simp only [Act.put, List.setIfInBounds_toArray, List.set_cons_zero, List.set_cons_succ, i64_w, i32_w]
        rfl
      refine pure_ (i := 5) (N := some 15) (v := ?_) (a' := ?_) #[true, false, false, false, false, true, false, false, false, false, false, false, false, false] rfl rfl (any_of HT_.out (by kernel_rfl)) (fun _ _ _ h => h) (Or.inl ⟨by rfl, ?_⟩) ?_ ?_
      rotate_left
      · intro w'
        go_simp
        with_reducible rfl
      rotate_left
      · simp only [Act.put, List.setIfInBounds_toArray, List.set_cons_zero, List.set_cons_succ, i64_w, i32_w]
        rfl
      refine pure_ (i := 9) (N := some 19) (v := ?_) (a' := ?_) #[true, false, false, false, false, true, false, false, false, true, false, false, false, false] rfl rfl (any_of HT_.out (by kernel_rfl)) (fun _ _ _ h => h) (Or.inl ⟨by rfl, ?_⟩) ?_ ?_
      rotate_left
      · intro w'
        go_simp
        with_reducible rfl
      rotate_left
      · simp only [Act.put, List.setIfInBounds_toArray, List.set_cons_zero, List.set_cons_succ, i64_w, i32_w]
        rfl
      refine take_ (i := 1) (N := some 11) (v := ?_) (a' := ?_) #[true, true, false, false, false, true, false, false, false, true, false, false, false, false] rfl rfl (take_ofW HT_.out HW_.out (by kernel_rfl)) (fun _ _ _ h => h) (Or.inl ⟨by rfl, ?_⟩) hHeld ?_ ?_
      rotate_left
      · rintro w' ⟨s0, s1, s2, s3, s4, s5, s6, s7, s8, s9⟩
        go_simp
        with_reducible rfl
      rotate_left
      · simp only [Act.put, List.setIfInBounds_toArray, List.set_cons_zero, List.set_cons_succ, i64_w, i32_w]
        rfl
      refine pure_ (i := 2) (N := some 12) (v := ?_) (a' := ?_) #[true, true, true, false, false, true, false, false, false, true, false, false, false, false] rfl rfl (any_of HT_.out (by kernel_rfl)) (fun _ _ _ h => h) (Or.inl ⟨by rfl, ?_⟩) ?_ ?_
      rotate_left
      · intro w'
        go_simp
        with_reducible rfl
      rotate_left
      · simp only [Act.put, List.setIfInBounds_toArray, List.set_cons_zero, List.set_cons_succ, i64_w, i32_w]
        rfl
      refine take_ (i := 6) (N := some 16) (v := ?_) (a' := ?_) #[true, true, true, false, false, true, true, false, false, true, false, false, false, false] rfl rfl (take_ofW HT_.out HW_.out (by kernel_rfl)) (fun _ _ _ h => h) (Or.inl ⟨by rfl, ?_⟩) hHeld ?_ ?_
      rotate_left
      · rintro w' ⟨s0, s1, s2, s3, s4, s5, s6, s7, s8, s9⟩
        go_simp
        with_reducible rfl
      rotate_left
      · simp only [Act.put, List.setIfInBounds_toArray, List.set_cons_zero, List.set_cons_succ, i64_w, i32_w]
        rfl
      refine take_ (i := 10) (N := some 20) (v := ?_) (a' := ?_) #[true, true, true, false, false, true, true, false, false, true, true, false, false, false] rfl rfl (take_ofW HT_.out HW_.out (by kernel_rfl)) (fun _ _ _ h => h) (Or.inl ⟨by rfl, ?_⟩) hHeld ?_ ?_
      rotate_left
      · rintro w' ⟨s0, s1, s2, s3, s4, s5, s6, s7, s8, s9⟩
        go_simp
        with_reducible rfl
      rotate_left
      · simp only [Act.put, List.setIfInBounds_toArray, List.set_cons_zero, List.set_cons_succ, i64_w, i32_w]
        rfl
      refine join_ (σ := Value) 2 #[true, true, true, true, true, true, true, true, true, true, true, true, false, false] (fun s_ => [(13, s_), (14, .string (strOfNums y129)), (17, .string t132), (21, .string t133), (18, .string ((strOfNums y129) ++ t132))]) (fun s_ w' => (w'.cell? ⟨gb128, 0, none⟩ = some (.int .i64 a0_0) ∧ w'.cell? ⟨gb128, 1, none⟩ = some (.int .u64 a0_1) ∧ w'.cell? ⟨gb128, 2, none⟩ = some (.int .u64 a0_2) ∧ w'.cell? ⟨gb128, 3, none⟩ = some (.string a0_3) ∧ w'.cell? ⟨gb128, 4, none⟩ = some (.string a0_4) ∧ w'.cell? ⟨gb128, 5, none⟩ = some (.string a0_5) ∧ w'.cell? ⟨gb128, 6, none⟩ = some (.string a0_6) ∧ w'.cell? ⟨gb128, 7, none⟩ = some (.int .i64 a0_7) ∧ w'.cell? ⟨gb128, 8, none⟩ = some (.int .i64 a0_8) ∧ w'.cell? ⟨gb128, 9, none⟩ = some (.int .i64 a0_9)) ∧ (Kd.R (Kd.int .u8) 5 w' w.heap.size (fun _ => True) s_ y129) ∧ (w'.heap[gb128]? = some (.cells #[.int .i64 a0_0, .int .u64 a0_1, .int .u64 a0_2, .string a0_3, .string a0_4, .string a0_5, .string a0_6, .int .i64 a0_7, .int .i64 a0_8, .int .i64 a0_9] 24 (0, 0))) ∧ (Below w.heap.size w w')) ?_ ?_
      rotate_left
      · intro hJ3_4_7_11
        refine join_ (σ := Value) 3 #[true, true, true, true, true, true, true, true, true, true, true, false, false, false] (fun s_ => [(13, s_), (14, .string (strOfNums y129)), (17, .string t132), (18, .string ((strOfNums y129) ++ t132))]) (fun s_ w' => (w'.cell? ⟨gb128, 0, none⟩ = some (.int .i64 a0_0) ∧ w'.cell? ⟨gb128, 1, none⟩ = some (.int .u64 a0_1) ∧ w'.cell? ⟨gb128, 2, none⟩ = some (.int .u64 a0_2) ∧ w'.cell? ⟨gb128, 3, none⟩ = some (.string a0_3) ∧ w'.cell? ⟨gb128, 4, none⟩ = some (.string a0_4) ∧ w'.cell? ⟨gb128, 5, none⟩ = some (.string a0_5) ∧ w'.cell? ⟨gb128, 6, none⟩ = some (.string a0_6) ∧ w'.cell? ⟨gb128, 7, none⟩ = some (.int .i64 a0_7) ∧ w'.cell? ⟨gb128, 8, none⟩ = some (.int .i64 a0_8) ∧ w'.cell? ⟨gb128, 9, none⟩ = some (.int .i64 a0_9)) ∧ (Kd.R (Kd.int .u8) 5 w' w.heap.size (fun _ => True) s_ y129) ∧ (w'.heap[gb128]? = some (.cells #[.int .i64 a0_0, .int .u64 a0_1, .int .u64 a0_2, .string a0_3, .string a0_4, .string a0_5, .string a0_6, .int .i64 a0_7, .int .i64 a0_8, .int .i64 a0_9] 24 (0, 0))) ∧ (Below w.heap.size w w')) ?_ ?_
        rotate_left
        · intro hJ3_4_7
          refine join_ (σ := Value) 4 #[true, true, true, true, false, true, true, true, false, true, true, true, false, false] (fun s_ => [(13, s_), (17, .string t132), (21, .string t133)]) (fun s_ w' => (w'.cell? ⟨gb128, 0, none⟩ = some (.int .i64 a0_0) ∧ w'.cell? ⟨gb128, 1, none⟩ = some (.int .u64 a0_1) ∧ w'.cell? ⟨gb128, 2, none⟩ = some (.int .u64 a0_2) ∧ w'.cell? ⟨gb128, 3, none⟩ = some (.string a0_3) ∧ w'.cell? ⟨gb128, 4, none⟩ = some (.string a0_4) ∧ w'.cell? ⟨gb128, 5, none⟩ = some (.string a0_5) ∧ w'.cell? ⟨gb128, 6, none⟩ = some (.string a0_6) ∧ w'.cell? ⟨gb128, 7, none⟩ = some (.int .i64 a0_7) ∧ w'.cell? ⟨gb128, 8, none⟩ = some (.int .i64 a0_8) ∧ w'.cell? ⟨gb128, 9, none⟩ = some (.int .i64 a0_9)) ∧ (Kd.R (Kd.int .u8) 5 w' w.heap.size (fun _ => True) s_ y129) ∧ (w'.heap[gb128]? = some (.cells #[.int .i64 a0_0, .int .u64 a0_1, .int .u64 a0_2, .string a0_3, .string a0_4, .string a0_5, .string a0_6, .int .i64 a0_7, .int .i64 a0_8, .int .i64 a0_9] 24 (0, 0))) ∧ (Below w.heap.size w w')) ?_ ?_
          rotate_left
          · intro hJ3_7_11
            refine join_ (σ := Value) 5 #[true, true, true, true, true, true, true, false, false, true, true, false, false, false] (fun s_ => [(13, s_), (14, .string (strOfNums y129))]) (fun s_ w' => (w'.cell? ⟨gb128, 0, none⟩ = some (.int .i64 a0_0) ∧ w'.cell? ⟨gb128, 1, none⟩ = some (.int .u64 a0_1) ∧ w'.cell? ⟨gb128, 2, none⟩ = some (.int .u64 a0_2) ∧ w'.cell? ⟨gb128, 3, none⟩ = some (.string a0_3) ∧ w'.cell? ⟨gb128, 4, none⟩ = some (.string a0_4) ∧ w'.cell? ⟨gb128, 5, none⟩ = some (.string a0_5) ∧ w'.cell? ⟨gb128, 6, none⟩ = some (.string a0_6) ∧ w'.cell? ⟨gb128, 7, none⟩ = some (.int .i64 a0_7) ∧ w'.cell? ⟨gb128, 8, none⟩ = some (.int .i64 a0_8) ∧ w'.cell? ⟨gb128, 9, none⟩ = some (.int .i64 a0_9)) ∧ (Kd.R (Kd.int .u8) 5 w' w.heap.size (fun _ => True) s_ y129) ∧ (w'.heap[gb128]? = some (.cells #[.int .i64 a0_0, .int .u64 a0_1, .int .u64 a0_2, .string a0_3, .string a0_4, .string a0_5, .string a0_6, .int .i64 a0_7, .int .i64 a0_8, .int .i64 a0_9] 24 (0, 0))) ∧ (Below w.heap.size w w')) ?_ ?_
            rotate_left
            · intro hJ3_4
              refine join_ (σ := Value) 5 #[true, true, true, true, false, true, true, true, false, true, true, false, false, false] (fun s_ => [(13, s_), (17, .string t132)]) (fun s_ w' => (w'.cell? ⟨gb128, 0, none⟩ = some (.int .i64 a0_0) ∧ w'.cell? ⟨gb128, 1, none⟩ = some (.int .u64 a0_1) ∧ w'.cell? ⟨gb128, 2, none⟩ = some (.int .u64 a0_2) ∧ w'.cell? ⟨gb128, 3, none⟩ = some (.string a0_3) ∧ w'.cell? ⟨gb128, 4, none⟩ = some (.string a0_4) ∧ w'.cell? ⟨gb128, 5, none⟩ = some (.string a0_5) ∧ w'.cell? ⟨gb128, 6, none⟩ = some (.string a0_6) ∧ w'.cell? ⟨gb128, 7, none⟩ = some (.int .i64 a0_7) ∧ w'.cell? ⟨gb128, 8, none⟩ = some (.int .i64 a0_8) ∧ w'.cell? ⟨gb128, 9, none⟩ = some (.int .i64 a0_9)) ∧ (Kd.R (Kd.int .u8) 5 w' w.heap.size (fun _ => True) s_ y129) ∧ (w'.heap[gb128]? = some (.cells #[.int .i64 a0_0, .int .u64 a0_1, .int .u64 a0_2, .string a0_3, .string a0_4, .string a0_5, .string a0_6, .int .i64 a0_7, .int .i64 a0_8, .int .i64 a0_9] 24 (0, 0))) ∧ (Below w.heap.size w w')) ?_ ?_
              rotate_left
              · intro hJ3_7
                refine join_ (σ := Unit) 5 #[true, true, true, false, false, true, true, true, false, true, true, true, false, false] (fun s_ => [(17, .string t132), (21, .string t133)]) (fun s_ w' => (w'.cell? ⟨gb128, 0, none⟩ = some (.int .i64 a0_0) ∧ w'.cell? ⟨gb128, 1, none⟩ = some (.int .u64 a0_1) ∧ w'.cell? ⟨gb128, 2, none⟩ = some (.int .u64 a0_2) ∧ w'.cell? ⟨gb128, 3, none⟩ = some (.string a0_3) ∧ w'.cell? ⟨gb128, 4, none⟩ = some (.string a0_4) ∧ w'.cell? ⟨gb128, 5, none⟩ = some (.string a0_5) ∧ w'.cell? ⟨gb128, 6, none⟩ = some (.string a0_6) ∧ w'.cell? ⟨gb128, 7, none⟩ = some (.int .i64 a0_7) ∧ w'.cell? ⟨gb128, 8, none⟩ = some (.int .i64 a0_8) ∧ w'.cell? ⟨gb128, 9, none⟩ = some (.int .i64 a0_9)) ∧ (w'.heap[gb128]? = some (.cells #[.int .i64 a0_0, .int .u64 a0_1, .int .u64 a0_2, .string a0_3, .string a0_4, .string a0_5, .string a0_6, .int .i64 a0_7, .int .i64 a0_8, .int .i64 a0_9] 24 (0, 0))) ∧ (Below w.heap.size w w')) ?_ ?_
                rotate_left
                · intro hJ7_11
                  refine join_ (σ := Value) 6 #[true, true, true, true, false, true, true, false, false, true, true, false, false, false] (fun s_ => [(13, s_)]) (fun s_ w' => (w'.cell? ⟨gb128, 0, none⟩ = some (.int .i64 a0_0) ∧ w'.cell? ⟨gb128, 1, none⟩ = some (.int .u64 a0_1) ∧ w'.cell? ⟨gb128, 2, none⟩ = some (.int .u64 a0_2) ∧ w'.cell? ⟨gb128, 3, none⟩ = some (.string a0_3) ∧ w'.cell? ⟨gb128, 4, none⟩ = some (.string a0_4) ∧ w'.cell? ⟨gb128, 5, none⟩ = some (.string a0_5) ∧ w'.cell? ⟨gb128, 6, none⟩ = some (.string a0_6) ∧ w'.cell? ⟨gb128, 7, none⟩ = some (.int .i64 a0_7) ∧ w'.cell? ⟨gb128, 8, none⟩ = some (.int .i64 a0_8) ∧ w'.cell? ⟨gb128, 9, none⟩ = some (.int .i64 a0_9)) ∧ (Kd.R (Kd.int .u8) 5 w' w.heap.size (fun _ => True) s_ y129) ∧ (w'.heap[gb128]? = some (.cells #[.int .i64 a0_0, .int .u64 a0_1, .int .u64 a0_2, .string a0_3, .string a0_4, .string a0_5, .string a0_6, .int .i64 a0_7, .int .i64 a0_8, .int .i64 a0_9] 24 (0, 0))) ∧ (Below w.heap.size w w')) ?_ ?_
                  rotate_left
                  · intro hJ3
                    refine join_ (σ := Unit) 6 #[true, true, true, false, false, true, true, true, false, true, true, false, false, false] (fun s_ => [(17, .string t132)]) (fun s_ w' => (w'.cell? ⟨gb128, 0, none⟩ = some (.int .i64 a0_0) ∧ w'.cell? ⟨gb128, 1, none⟩ = some (.int .u64 a0_1) ∧ w'.cell? ⟨gb128, 2, none⟩ = some (.int .u64 a0_2) ∧ w'.cell? ⟨gb128, 3, none⟩ = some (.string a0_3) ∧ w'.cell? ⟨gb128, 4, none⟩ = some (.string a0_4) ∧ w'.cell? ⟨gb128, 5, none⟩ = some (.string a0_5) ∧ w'.cell? ⟨gb128, 6, none⟩ = some (.string a0_6) ∧ w'.cell? ⟨gb128, 7, none⟩ = some (.int .i64 a0_7) ∧ w'.cell? ⟨gb128, 8, none⟩ = some (.int .i64 a0_8) ∧ w'.cell? ⟨gb128, 9, none⟩ = some (.int .i64 a0_9)) ∧ (w'.heap[gb128]? = some (.cells #[.int .i64 a0_0, .int .u64 a0_1, .int .u64 a0_2, .string a0_3, .string a0_4, .string a0_5, .string a0_6, .int .i64 a0_7, .int .i64 a0_8, .int .i64 a0_9] 24 (0, 0))) ∧ (Below w.heap.size w w')) ?_ ?_
                    rotate_left
                    · intro hJ7
                      refine two_ (i := 3) (j := 7) (Ni := some 13) (Nj := some 17) #[true, true, true, true, false, true, true, false, false, true, true, false, false, false] #[true, true, true, false, false, true, true, true, false, true, true, false, false, false] rfl rfl rfl rfl (two_of HT_.out (by kernel_rfl)) (by decide) (by decide) (fun K hK => ?_) (fun K hK => ?_)
                      · skip
                        refine Kd.R_lit_step (Kd.int .u8) _ 5 ?hg (N := 13) ?hd (xs := ([(a0_0) % 256] : List Int)) (inner := [.int .u8 ((a0_0) % 256)]) (ok := fun _ => True) (okp := fun _ => True) ?hr ?hp (fun _ hk => hk) trivial (Below.refl _ _) (Nat.le_refl _) (by simp) ?_; (case hd => rfl); (case hg => rfl); (case hr => first | (go_simp; done) | (go_simp; rfl)); (case hp => exact (Reps.one (show Kd.M (Kd.int .u8) _ _ _ ((a0_0) % 256) [.int .u8 ((a0_0) % 256)] from rfl) (Reps.none _ _)))
                        intro v130 w10 ho11 hb hg_ hnew_
                        clear hg_ hnew_
                        (first | rw [← Ny129.out] at ho11 | (simp only [Int.reduceToNat] at ho11; rw [← Ny129.out] at ho11))
                        have n0_ := Aside0.mk (Kd.R_lower ho11 (below_size (by repeat (first | (with_reducible first | exact HB.out | apply below_alloc | apply pw_below_drewN | apply below_drew1 | refine below_set ?_ GE128.out) | exact HB.out))))
                        have n1_ := Aside0.mk (blk_below (g := gb128) (o := .cells #[.int .i64 a0_0, .int .u64 a0_1, .int .u64 a0_2, .string a0_3, .string a0_4, .string a0_5, .string a0_6, .int .i64 a0_7, .int .i64 a0_8, .int .i64 a0_9] 24 (0, 0)) (by (with_reducible repeat (first | refine blk_drewN ?_ _ | refine blk_drew ?_ | refine blk_alloc ?_ _)); exact BK128.out) hb)
                        have n2_ := Aside0.mk (below_step (by repeat (first | (with_reducible first | exact HB.out | apply below_alloc | apply pw_below_drewN | apply below_drew1 | refine below_set ?_ GE128.out) | exact HB.out)) hb)
                        clear BK128
                        clear HB
                        have HO131 := n0_
                        have BK128 := n1_
                        have HB := n2_
                        clear n0_ n1_ n2_
                        clear hb ho11
                        refine hK.out _ _ ⟨(blk_cell BK128.out 0).trans rfl, (blk_cell BK128.out 1).trans rfl, (blk_cell BK128.out 2).trans rfl, (blk_cell BK128.out 3).trans rfl, (blk_cell BK128.out 4).trans rfl, (blk_cell BK128.out 5).trans rfl, (blk_cell BK128.out 6).trans rfl, (blk_cell BK128.out 7).trans rfl, (blk_cell BK128.out 8).trans rfl, (blk_cell BK128.out 9).trans rfl⟩ (fun hHeld => ?_)
                        clear hK K
                        refine norm_ (a' := ?_) ?_ ?_
                        rotate_left
                        · show Act.put _ (some 13) _ = _
                          simp only [Act.put, List.setIfInBounds_toArray, List.set_cons_zero, List.set_cons_succ, i64_w, i32_w]
                          rfl
                        exact norm_ (by first | (simp only [putAll, Act.put, List.setIfInBounds_toArray, List.set_cons_zero, List.set_cons_succ]; done) | (simp only [putAll, Act.put, List.setIfInBounds_toArray, List.set_cons_zero, List.set_cons_succ]; rfl)) (hJ3 (v130) _ ⟨hHeld, (by (with_reducible repeat (first | apply Kd.R_alloc | apply Kd.R_drewN | apply Kd.R_drew)); exact HO131.out), (by (with_reducible repeat (first | refine blk_drewN ?_ _ | refine blk_drew ?_ | refine blk_alloc ?_ _)); exact BK128.out), (by repeat (first | (with_reducible first | exact HB.out | apply below_alloc | apply pw_below_drewN | apply below_drew1 | refine below_set ?_ GE128.out) | exact HB.out))⟩)
                      · skip
                        refine goes_ Tryd.func42 (by kernel_rfl) rfl #[.int .u64 a0_1] (by rfl) rfl rfl (by (try simp only [List.map_toArray, List.map_cons, List.map_nil]); first | done | rfl | (simp only [List.length_drop, List.length_take]; rfl)) ?_
                        with_reducible refine (transeptref01_Put.calls k a0_1 t132 _ A2.out).mono ?_
                        rintro e w10 ⟨rfl, hb⟩
                        refine ⟨_, rfl, ?_⟩
                        have n0_ := Aside0.mk (blk_below (g := gb128) (o := .cells #[.int .i64 a0_0, .int .u64 a0_1, .int .u64 a0_2, .string a0_3, .string a0_4, .string a0_5, .string a0_6, .int .i64 a0_7, .int .i64 a0_8, .int .i64 a0_9] 24 (0, 0)) (by (with_reducible repeat (first | refine blk_drewN ?_ _ | refine blk_drew ?_ | refine blk_alloc ?_ _)); exact BK128.out) hb)
                        have n1_ := Aside0.mk (below_step (by repeat (first | (with_reducible first | exact HB.out | apply below_alloc | apply pw_below_drewN | apply below_drew1 | refine below_set ?_ GE128.out) | exact HB.out)) hb)
                        clear BK128
                        clear HB
                        have BK128 := n0_
                        have HB := n1_
                        clear n0_ n1_
                        (try clear hb)
                        (try clear hb2)
                        (try clear hk)
                        (try clear hi)
                        refine hK.out _ _ ⟨(blk_cell BK128.out 0).trans rfl, (blk_cell BK128.out 1).trans rfl, (blk_cell BK128.out 2).trans rfl, (blk_cell BK128.out 3).trans rfl, (blk_cell BK128.out 4).trans rfl, (blk_cell BK128.out 5).trans rfl, (blk_cell BK128.out 6).trans rfl, (blk_cell BK128.out 7).trans rfl, (blk_cell BK128.out 8).trans rfl, (blk_cell BK128.out 9).trans rfl⟩ (fun hHeld => ?_)
                        clear hK K
                        refine norm_ (a' := ?_) ?_ ?_
                        rotate_left
                        · show Act.put _ (some 17) _ = _
                          simp only [Act.put, List.setIfInBounds_toArray, List.set_cons_zero, List.set_cons_succ, i64_w, i32_w]
                          rfl
                        exact norm_ (by first | (simp only [putAll, Act.put, List.setIfInBounds_toArray, List.set_cons_zero, List.set_cons_succ]; done) | (simp only [putAll, Act.put, List.setIfInBounds_toArray, List.set_cons_zero, List.set_cons_succ]; rfl)) (hJ7 () _ ⟨hHeld, (by (with_reducible repeat (first | refine blk_drewN ?_ _ | refine blk_drew ?_ | refine blk_alloc ?_ _)); exact BK128.out), (by repeat (first | (with_reducible first | exact HB.out | apply below_alloc | apply pw_below_drewN | apply below_drew1 | refine below_set ?_ GE128.out) | exact HB.out))⟩)
                    · skip
                      rintro _ w11 ⟨hS_, h0_, h1_⟩
                      have n0_ : Aside0 (w11.heap[gb128]? = some (.cells #[.int .i64 a0_0, .int .u64 a0_1, .int .u64 a0_2, .string a0_3, .string a0_4, .string a0_5, .string a0_6, .int .i64 a0_7, .int .i64 a0_8, .int .i64 a0_9] 24 (0, 0))) := ⟨h0_⟩
                      have n1_ : Aside0 (Below w.heap.size w w11) := ⟨h1_⟩
                      clear BK128
                      clear HB
                      clear h0_ h1_
                      have BK128 := n0_
                      have HB := n1_
                      clear n0_ n1_
                      have hHeld : w11.cell? ⟨gb128, 0, none⟩ = some (.int .i64 a0_0) ∧ w11.cell? ⟨gb128, 1, none⟩ = some (.int .u64 a0_1) ∧ w11.cell? ⟨gb128, 2, none⟩ = some (.int .u64 a0_2) ∧ w11.cell? ⟨gb128, 3, none⟩ = some (.string a0_3) ∧ w11.cell? ⟨gb128, 4, none⟩ = some (.string a0_4) ∧ w11.cell? ⟨gb128, 5, none⟩ = some (.string a0_5) ∧ w11.cell? ⟨gb128, 6, none⟩ = some (.string a0_6) ∧ w11.cell? ⟨gb128, 7, none⟩ = some (.int .i64 a0_7) ∧ w11.cell? ⟨gb128, 8, none⟩ = some (.int .i64 a0_8) ∧ w11.cell? ⟨gb128, 9, none⟩ = some (.int .i64 a0_9) := hS_
                      refine norm_ (a' := ?_) ?_ ?_
                      rotate_left
                      · simp only [putAll, Act.put, List.setIfInBounds_toArray, List.set_cons_zero, List.set_cons_succ, *]
                        rfl
                      refine two_ (i := 3) (j := 11) (Ni := some 13) (Nj := some 21) #[true, true, true, true, false, true, true, true, false, true, true, false, false, false] #[true, true, true, false, false, true, true, true, false, true, true, true, false, false] rfl rfl rfl rfl (two_of HT_.out (by kernel_rfl)) (by decide) (by decide) (fun K hK => ?_) (fun K hK => ?_)
                      · skip
                        refine Kd.R_lit_step (Kd.int .u8) _ 5 ?hg (N := 13) ?hd (xs := ([(a0_0) % 256] : List Int)) (inner := [.int .u8 ((a0_0) % 256)]) (ok := fun _ => True) (okp := fun _ => True) ?hr ?hp (fun _ hk => hk) trivial (Below.refl _ _) (Nat.le_refl _) (by simp) ?_; (case hd => rfl); (case hg => rfl); (case hr => first | (go_simp; done) | (go_simp; rfl)); (case hp => exact (Reps.one (show Kd.M (Kd.int .u8) _ _ _ ((a0_0) % 256) [.int .u8 ((a0_0) % 256)] from rfl) (Reps.none _ _)))
                        intro v130 w12 ho13 hb hg_ hnew_
                        clear hg_ hnew_
                        (first | rw [← Ny129.out] at ho13 | (simp only [Int.reduceToNat] at ho13; rw [← Ny129.out] at ho13))
                        have n0_ := Aside0.mk (Kd.R_lower ho13 (below_size (by repeat (first | (with_reducible first | exact HB.out | apply below_alloc | apply pw_below_drewN | apply below_drew1 | refine below_set ?_ GE128.out) | exact HB.out))))
                        have n1_ := Aside0.mk (blk_below (g := gb128) (o := .cells #[.int .i64 a0_0, .int .u64 a0_1, .int .u64 a0_2, .string a0_3, .string a0_4, .string a0_5, .string a0_6, .int .i64 a0_7, .int .i64 a0_8, .int .i64 a0_9] 24 (0, 0)) (by (with_reducible repeat (first | refine blk_drewN ?_ _ | refine blk_drew ?_ | refine blk_alloc ?_ _)); exact BK128.out) hb)
                        have n2_ := Aside0.mk (below_step (by repeat (first | (with_reducible first | exact HB.out | apply below_alloc | apply pw_below_drewN | apply below_drew1 | refine below_set ?_ GE128.out) | exact HB.out)) hb)
                        clear BK128
                        clear HB
                        have HO131 := n0_
                        have BK128 := n1_
                        have HB := n2_
                        clear n0_ n1_ n2_
                        clear hb ho13
                        refine hK.out _ _ ⟨(blk_cell BK128.out 0).trans rfl, (blk_cell BK128.out 1).trans rfl, (blk_cell BK128.out 2).trans rfl, (blk_cell BK128.out 3).trans rfl, (blk_cell BK128.out 4).trans rfl, (blk_cell BK128.out 5).trans rfl, (blk_cell BK128.out 6).trans rfl, (blk_cell BK128.out 7).trans rfl, (blk_cell BK128.out 8).trans rfl, (blk_cell BK128.out 9).trans rfl⟩ (fun hHeld => ?_)
                        clear hK K
                        refine norm_ (a' := ?_) ?_ ?_
                        rotate_left
                        · show Act.put _ (some 13) _ = _
                          simp only [Act.put, List.setIfInBounds_toArray, List.set_cons_zero, List.set_cons_succ, i64_w, i32_w]
                          rfl
                        exact norm_ (by first | (simp only [putAll, Act.put, List.setIfInBounds_toArray, List.set_cons_zero, List.set_cons_succ]; done) | (simp only [putAll, Act.put, List.setIfInBounds_toArray, List.set_cons_zero, List.set_cons_succ]; rfl)) (hJ3_7 (v130) _ ⟨hHeld, (by (with_reducible repeat (first | apply Kd.R_alloc | apply Kd.R_drewN | apply Kd.R_drew)); exact HO131.out), (by (with_reducible repeat (first | refine blk_drewN ?_ _ | refine blk_drew ?_ | refine blk_alloc ?_ _)); exact BK128.out), (by repeat (first | (with_reducible first | exact HB.out | apply below_alloc | apply pw_below_drewN | apply below_drew1 | refine below_set ?_ GE128.out) | exact HB.out))⟩)
                      · skip
                        refine goes_ Tryd.func42 (by kernel_rfl) rfl #[.int .u64 a0_2] (by rfl) rfl rfl (by (try simp only [List.map_toArray, List.map_cons, List.map_nil]); first | done | rfl | (simp only [List.length_drop, List.length_take]; rfl)) ?_
                        with_reducible refine (transeptref01_Put.calls k a0_2 t133 _ A4.out).mono ?_
                        rintro e w12 ⟨rfl, hb⟩
                        refine ⟨_, rfl, ?_⟩
                        have n0_ := Aside0.mk (blk_below (g := gb128) (o := .cells #[.int .i64 a0_0, .int .u64 a0_1, .int .u64 a0_2, .string a0_3, .string a0_4, .string a0_5, .string a0_6, .int .i64 a0_7, .int .i64 a0_8, .int .i64 a0_9] 24 (0, 0)) (by (with_reducible repeat (first | refine blk_drewN ?_ _ | refine blk_drew ?_ | refine blk_alloc ?_ _)); exact BK128.out) hb)
                        have n1_ := Aside0.mk (below_step (by repeat (first | (with_reducible first | exact HB.out | apply below_alloc | apply pw_below_drewN | apply below_drew1 | refine below_set ?_ GE128.out) | exact HB.out)) hb)
                        clear BK128
                        clear HB
                        have BK128 := n0_
                        have HB := n1_
                        clear n0_ n1_
                        (try clear hb)
                        (try clear hb2)
                        (try clear hk)
                        (try clear hi)
                        refine hK.out _ _ ⟨(blk_cell BK128.out 0).trans rfl, (blk_cell BK128.out 1).trans rfl, (blk_cell BK128.out 2).trans rfl, (blk_cell BK128.out 3).trans rfl, (blk_cell BK128.out 4).trans rfl, (blk_cell BK128.out 5).trans rfl, (blk_cell BK128.out 6).trans rfl, (blk_cell BK128.out 7).trans rfl, (blk_cell BK128.out 8).trans rfl, (blk_cell BK128.out 9).trans rfl⟩ (fun hHeld => ?_)
                        clear hK K
                        refine norm_ (a' := ?_) ?_ ?_
                        rotate_left
                        · show Act.put _ (some 21) _ = _
                          simp only [Act.put, List.setIfInBounds_toArray, List.set_cons_zero, List.set_cons_succ, i64_w, i32_w]
                          rfl
                        exact norm_ (by first | (simp only [putAll, Act.put, List.setIfInBounds_toArray, List.set_cons_zero, List.set_cons_succ]; done) | (simp only [putAll, Act.put, List.setIfInBounds_toArray, List.set_cons_zero, List.set_cons_succ]; rfl)) (hJ7_11 () _ ⟨hHeld, (by (with_reducible repeat (first | refine blk_drewN ?_ _ | refine blk_drew ?_ | refine blk_alloc ?_ _)); exact BK128.out), (by repeat (first | (with_reducible first | exact HB.out | apply below_alloc | apply pw_below_drewN | apply below_drew1 | refine below_set ?_ GE128.out) | exact HB.out))⟩)
                  · skip
                    rintro v130 w12 ⟨hS_, h0_, h1_, h2_⟩
                    have n0_ : Aside0 (Kd.R (Kd.int .u8) 5 w12 w.heap.size (fun _ => True) v130 y129) := ⟨h0_⟩
                    have n1_ : Aside0 (w12.heap[gb128]? = some (.cells #[.int .i64 a0_0, .int .u64 a0_1, .int .u64 a0_2, .string a0_3, .string a0_4, .string a0_5, .string a0_6, .int .i64 a0_7, .int .i64 a0_8, .int .i64 a0_9] 24 (0, 0))) := ⟨h1_⟩
                    have n2_ : Aside0 (Below w.heap.size w w12) := ⟨h2_⟩
                    clear BK128
                    clear HB
                    clear h0_ h1_ h2_
                    have HO131 := n0_
                    have BK128 := n1_
                    have HB := n2_
                    clear n0_ n1_ n2_
                    have hHeld : w12.cell? ⟨gb128, 0, none⟩ = some (.int .i64 a0_0) ∧ w12.cell? ⟨gb128, 1, none⟩ = some (.int .u64 a0_1) ∧ w12.cell? ⟨gb128, 2, none⟩ = some (.int .u64 a0_2) ∧ w12.cell? ⟨gb128, 3, none⟩ = some (.string a0_3) ∧ w12.cell? ⟨gb128, 4, none⟩ = some (.string a0_4) ∧ w12.cell? ⟨gb128, 5, none⟩ = some (.string a0_5) ∧ w12.cell? ⟨gb128, 6, none⟩ = some (.string a0_6) ∧ w12.cell? ⟨gb128, 7, none⟩ = some (.int .i64 a0_7) ∧ w12.cell? ⟨gb128, 8, none⟩ = some (.int .i64 a0_8) ∧ w12.cell? ⟨gb128, 9, none⟩ = some (.int .i64 a0_9) := hS_
                    refine norm_ (a' := ?_) ?_ ?_
                    rotate_left
                    · simp only [putAll, Act.put, List.setIfInBounds_toArray, List.set_cons_zero, List.set_cons_succ, *]
                      rfl
                    refine two_ (i := 4) (j := 7) (Ni := some 14) (Nj := some 17) #[true, true, true, true, true, true, true, false, false, true, true, false, false, false] #[true, true, true, true, false, true, true, true, false, true, true, false, false, false] rfl rfl rfl rfl (two_of HT_.out (by kernel_rfl)) (by decide) (by decide) (fun K hK => ?_) (fun K hK => ?_)
                    · skip
                      have hcv13 := own_string (P := Tryd.prog) Tryd.underlying27 Tryd.underlying5 Tryd.underlying9 (Kd.own_of_R HO131.out); (try have hcv13d := fun n_ : Nat => own_string (P := Tryd.prog) Tryd.underlying27 Tryd.underlying5 Tryd.underlying9 (Kd.own_of_R (Kd.R_drewN HO131.out n_)))
                      refine value_ (w1 := ?_) (v := ?_) (by rfl) rfl ?_ ?_
                      rotate_left 2
                      · go_simp
                        constructor
                        · rfl
                        · rfl
                      clear hcv13
                      refine hK.out _ _ ⟨(blk_cell BK128.out 0).trans rfl, (blk_cell BK128.out 1).trans rfl, (blk_cell BK128.out 2).trans rfl, (blk_cell BK128.out 3).trans rfl, (blk_cell BK128.out 4).trans rfl, (blk_cell BK128.out 5).trans rfl, (blk_cell BK128.out 6).trans rfl, (blk_cell BK128.out 7).trans rfl, (blk_cell BK128.out 8).trans rfl, (blk_cell BK128.out 9).trans rfl⟩ (fun hHeld => ?_)
                      clear hK K
                      refine norm_ (a' := ?_) ?_ ?_
                      rotate_left
                      · show Act.put _ (some 14) _ = _
                        simp only [Act.put, List.setIfInBounds_toArray, List.set_cons_zero, List.set_cons_succ, i64_w, i32_w]
                        rfl
                      exact norm_ (by first | (simp only [putAll, Act.put, List.setIfInBounds_toArray, List.set_cons_zero, List.set_cons_succ]; done) | (simp only [putAll, Act.put, List.setIfInBounds_toArray, List.set_cons_zero, List.set_cons_succ]; rfl)) (hJ3_4 (v130) _ ⟨hHeld, (by (with_reducible repeat (first | apply Kd.R_alloc | apply Kd.R_drewN | apply Kd.R_drew)); exact HO131.out), (by (with_reducible repeat (first | refine blk_drewN ?_ _ | refine blk_drew ?_ | refine blk_alloc ?_ _)); exact BK128.out), (by repeat (first | (with_reducible first | exact HB.out | apply below_alloc | apply pw_below_drewN | apply below_drew1 | refine below_set ?_ GE128.out) | exact HB.out))⟩)
                    · skip
                      refine goes_ Tryd.func42 (by kernel_rfl) rfl #[.int .u64 a0_1] (by rfl) rfl rfl (by (try simp only [List.map_toArray, List.map_cons, List.map_nil]); first | done | rfl | (simp only [List.length_drop, List.length_take]; rfl)) ?_
                      with_reducible refine (transeptref01_Put.calls k a0_1 t132 _ A2.out).mono ?_
                      rintro e w13 ⟨rfl, hb⟩
                      refine ⟨_, rfl, ?_⟩
                      have n0_ := Aside0.mk (Kd.R_below (by (with_reducible repeat (first | apply Kd.R_alloc | apply Kd.R_drewN | apply Kd.R_drew)); exact HO131.out) hb)
                      have n1_ := Aside0.mk (blk_below (g := gb128) (o := .cells #[.int .i64 a0_0, .int .u64 a0_1, .int .u64 a0_2, .string a0_3, .string a0_4, .string a0_5, .string a0_6, .int .i64 a0_7, .int .i64 a0_8, .int .i64 a0_9] 24 (0, 0)) (by (with_reducible repeat (first | refine blk_drewN ?_ _ | refine blk_drew ?_ | refine blk_alloc ?_ _)); exact BK128.out) hb)
                      have n2_ := Aside0.mk (below_step (by repeat (first | (with_reducible first | exact HB.out | apply below_alloc | apply pw_below_drewN | apply below_drew1 | refine below_set ?_ GE128.out) | exact HB.out)) hb)
                      clear HO131
                      clear BK128
                      clear HB
                      have HO131 := n0_
                      have BK128 := n1_
                      have HB := n2_
                      clear n0_ n1_ n2_
                      (try clear hb)
                      (try clear hb2)
                      (try clear hk)
                      (try clear hi)
                      refine hK.out _ _ ⟨(blk_cell BK128.out 0).trans rfl, (blk_cell BK128.out 1).trans rfl, (blk_cell BK128.out 2).trans rfl, (blk_cell BK128.out 3).trans rfl, (blk_cell BK128.out 4).trans rfl, (blk_cell BK128.out 5).trans rfl, (blk_cell BK128.out 6).trans rfl, (blk_cell BK128.out 7).trans rfl, (blk_cell BK128.out 8).trans rfl, (blk_cell BK128.out 9).trans rfl⟩ (fun hHeld => ?_)
                      clear hK K
                      refine norm_ (a' := ?_) ?_ ?_
                      rotate_left
                      · show Act.put _ (some 17) _ = _
                        simp only [Act.put, List.setIfInBounds_toArray, List.set_cons_zero, List.set_cons_succ, i64_w, i32_w]
                        rfl
                      exact norm_ (by first | (simp only [putAll, Act.put, List.setIfInBounds_toArray, List.set_cons_zero, List.set_cons_succ]; done) | (simp only [putAll, Act.put, List.setIfInBounds_toArray, List.set_cons_zero, List.set_cons_succ]; rfl)) (hJ3_7 (v130) _ ⟨hHeld, (by (with_reducible repeat (first | apply Kd.R_alloc | apply Kd.R_drewN | apply Kd.R_drew)); exact HO131.out), (by (with_reducible repeat (first | refine blk_drewN ?_ _ | refine blk_drew ?_ | refine blk_alloc ?_ _)); exact BK128.out), (by repeat (first | (with_reducible first | exact HB.out | apply below_alloc | apply pw_below_drewN | apply below_drew1 | refine below_set ?_ GE128.out) | exact HB.out))⟩)
                · skip
                  rintro _ w12 ⟨hS_, h0_, h1_⟩
                  have n0_ : Aside0 (w12.heap[gb128]? = some (.cells #[.int .i64 a0_0, .int .u64 a0_1, .int .u64 a0_2, .string a0_3, .string a0_4, .string a0_5, .string a0_6, .int .i64 a0_7, .int .i64 a0_8, .int .i64 a0_9] 24 (0, 0))) := ⟨h0_⟩
                  have n1_ : Aside0 (Below w.heap.size w w12) := ⟨h1_⟩
                  clear BK128
                  clear HB
                  clear h0_ h1_
                  have BK128 := n0_
                  have HB := n1_
                  clear n0_ n1_
                  have hHeld : w12.cell? ⟨gb128, 0, none⟩ = some (.int .i64 a0_0) ∧ w12.cell? ⟨gb128, 1, none⟩ = some (.int .u64 a0_1) ∧ w12.cell? ⟨gb128, 2, none⟩ = some (.int .u64 a0_2) ∧ w12.cell? ⟨gb128, 3, none⟩ = some (.string a0_3) ∧ w12.cell? ⟨gb128, 4, none⟩ = some (.string a0_4) ∧ w12.cell? ⟨gb128, 5, none⟩ = some (.string a0_5) ∧ w12.cell? ⟨gb128, 6, none⟩ = some (.string a0_6) ∧ w12.cell? ⟨gb128, 7, none⟩ = some (.int .i64 a0_7) ∧ w12.cell? ⟨gb128, 8, none⟩ = some (.int .i64 a0_8) ∧ w12.cell? ⟨gb128, 9, none⟩ = some (.int .i64 a0_9) := hS_
                  refine norm_ (a' := ?_) ?_ ?_
                  rotate_left
                  · simp only [putAll, Act.put, List.setIfInBounds_toArray, List.set_cons_zero, List.set_cons_succ, *]
                    rfl
                  refine one_ (i := 3) (N := some 13) #[true, true, true, true, false, true, true, true, false, true, true, true, false, false] rfl rfl (one_of HT_.out (by kernel_rfl)) (by decide) (fun K hK => ?_)
                  refine Kd.R_lit_step (Kd.int .u8) _ 5 ?hg (N := 13) ?hd (xs := ([(a0_0) % 256] : List Int)) (inner := [.int .u8 ((a0_0) % 256)]) (ok := fun _ => True) (okp := fun _ => True) ?hr ?hp (fun _ hk => hk) trivial (Below.refl _ _) (Nat.le_refl _) (by simp) ?_; (case hd => rfl); (case hg => rfl); (case hr => first | (go_simp; done) | (go_simp; rfl)); (case hp => exact (Reps.one (show Kd.M (Kd.int .u8) _ _ _ ((a0_0) % 256) [.int .u8 ((a0_0) % 256)] from rfl) (Reps.none _ _)))
                  intro v130 w13 ho14 hb hg_ hnew_
                  clear hg_ hnew_
                  (first | rw [← Ny129.out] at ho14 | (simp only [Int.reduceToNat] at ho14; rw [← Ny129.out] at ho14))
                  have n0_ := Aside0.mk (Kd.R_lower ho14 (below_size (by repeat (first | (with_reducible first | exact HB.out | apply below_alloc | apply pw_below_drewN | apply below_drew1 | refine below_set ?_ GE128.out) | exact HB.out))))
                  have n1_ := Aside0.mk (blk_below (g := gb128) (o := .cells #[.int .i64 a0_0, .int .u64 a0_1, .int .u64 a0_2, .string a0_3, .string a0_4, .string a0_5, .string a0_6, .int .i64 a0_7, .int .i64 a0_8, .int .i64 a0_9] 24 (0, 0)) (by (with_reducible repeat (first | refine blk_drewN ?_ _ | refine blk_drew ?_ | refine blk_alloc ?_ _)); exact BK128.out) hb)
                  have n2_ := Aside0.mk (below_step (by repeat (first | (with_reducible first | exact HB.out | apply below_alloc | apply pw_below_drewN | apply below_drew1 | refine below_set ?_ GE128.out) | exact HB.out)) hb)
                  clear BK128
                  clear HB
                  have HO131 := n0_
                  have BK128 := n1_
                  have HB := n2_
                  clear n0_ n1_ n2_
                  clear hb ho14
                  refine hK.out _ _ ⟨(blk_cell BK128.out 0).trans rfl, (blk_cell BK128.out 1).trans rfl, (blk_cell BK128.out 2).trans rfl, (blk_cell BK128.out 3).trans rfl, (blk_cell BK128.out 4).trans rfl, (blk_cell BK128.out 5).trans rfl, (blk_cell BK128.out 6).trans rfl, (blk_cell BK128.out 7).trans rfl, (blk_cell BK128.out 8).trans rfl, (blk_cell BK128.out 9).trans rfl⟩ (fun hHeld => ?_)
                  clear hK K
                  refine norm_ (a' := ?_) ?_ ?_
                  rotate_left
                  · show Act.put _ (some 13) _ = _
                    simp only [Act.put, List.setIfInBounds_toArray, List.set_cons_zero, List.set_cons_succ, i64_w, i32_w]
                    rfl
                  exact norm_ (by first | (simp only [putAll, Act.put, List.setIfInBounds_toArray, List.set_cons_zero, List.set_cons_succ]; done) | (simp only [putAll, Act.put, List.setIfInBounds_toArray, List.set_cons_zero, List.set_cons_succ]; rfl)) (hJ3_7_11 (v130) _ ⟨hHeld, (by (with_reducible repeat (first | apply Kd.R_alloc | apply Kd.R_drewN | apply Kd.R_drew)); exact HO131.out), (by (with_reducible repeat (first | refine blk_drewN ?_ _ | refine blk_drew ?_ | refine blk_alloc ?_ _)); exact BK128.out), (by repeat (first | (with_reducible first | exact HB.out | apply below_alloc | apply pw_below_drewN | apply below_drew1 | refine below_set ?_ GE128.out) | exact HB.out))⟩)
              · skip
                rintro v130 w13 ⟨hS_, h0_, h1_, h2_⟩
                have n0_ : Aside0 (Kd.R (Kd.int .u8) 5 w13 w.heap.size (fun _ => True) v130 y129) := ⟨h0_⟩
                have n1_ : Aside0 (w13.heap[gb128]? = some (.cells #[.int .i64 a0_0, .int .u64 a0_1, .int .u64 a0_2, .string a0_3, .string a0_4, .string a0_5, .string a0_6, .int .i64 a0_7, .int .i64 a0_8, .int .i64 a0_9] 24 (0, 0))) := ⟨h1_⟩
                have n2_ : Aside0 (Below w.heap.size w w13) := ⟨h2_⟩
                clear BK128
                clear HB
                clear h0_ h1_ h2_
                have HO131 := n0_
                have BK128 := n1_
                have HB := n2_
                clear n0_ n1_ n2_
                have hHeld : w13.cell? ⟨gb128, 0, none⟩ = some (.int .i64 a0_0) ∧ w13.cell? ⟨gb128, 1, none⟩ = some (.int .u64 a0_1) ∧ w13.cell? ⟨gb128, 2, none⟩ = some (.int .u64 a0_2) ∧ w13.cell? ⟨gb128, 3, none⟩ = some (.string a0_3) ∧ w13.cell? ⟨gb128, 4, none⟩ = some (.string a0_4) ∧ w13.cell? ⟨gb128, 5, none⟩ = some (.string a0_5) ∧ w13.cell? ⟨gb128, 6, none⟩ = some (.string a0_6) ∧ w13.cell? ⟨gb128, 7, none⟩ = some (.int .i64 a0_7) ∧ w13.cell? ⟨gb128, 8, none⟩ = some (.int .i64 a0_8) ∧ w13.cell? ⟨gb128, 9, none⟩ = some (.int .i64 a0_9) := hS_
                refine norm_ (a' := ?_) ?_ ?_
                rotate_left
                · simp only [putAll, Act.put, List.setIfInBounds_toArray, List.set_cons_zero, List.set_cons_succ, *]
                  rfl
                refine two_ (i := 4) (j := 11) (Ni := some 14) (Nj := some 21) #[true, true, true, true, true, true, true, true, false, true, true, false, false, false] #[true, true, true, true, false, true, true, true, false, true, true, true, false, false] rfl rfl rfl rfl (two_of HT_.out (by kernel_rfl)) (by decide) (by decide) (fun K hK => ?_) (fun K hK => ?_)
                · skip
                  have hcv14 := own_string (P := Tryd.prog) Tryd.underlying27 Tryd.underlying5 Tryd.underlying9 (Kd.own_of_R HO131.out); (try have hcv14d := fun n_ : Nat => own_string (P := Tryd.prog) Tryd.underlying27 Tryd.underlying5 Tryd.underlying9 (Kd.own_of_R (Kd.R_drewN HO131.out n_)))
                  refine value_ (w1 := ?_) (v := ?_) (by rfl) rfl ?_ ?_
                  rotate_left 2
                  · go_simp
                    constructor
                    · rfl
                    · rfl
                  clear hcv14
                  refine hK.out _ _ ⟨(blk_cell BK128.out 0).trans rfl, (blk_cell BK128.out 1).trans rfl, (blk_cell BK128.out 2).trans rfl, (blk_cell BK128.out 3).trans rfl, (blk_cell BK128.out 4).trans rfl, (blk_cell BK128.out 5).trans rfl, (blk_cell BK128.out 6).trans rfl, (blk_cell BK128.out 7).trans rfl, (blk_cell BK128.out 8).trans rfl, (blk_cell BK128.out 9).trans rfl⟩ (fun hHeld => ?_)
                  clear hK K
                  refine norm_ (a' := ?_) ?_ ?_
                  rotate_left
                  · show Act.put _ (some 14) _ = _
                    simp only [Act.put, List.setIfInBounds_toArray, List.set_cons_zero, List.set_cons_succ, i64_w, i32_w]
                    rfl
                  refine pure_ (i := 8) (N := some 18) (v := ?_) (a' := ?_) #[true, true, true, true, true, true, true, true, true, true, true, false, false, false] rfl rfl (any_of HT_.out (by kernel_rfl)) (fun _ _ _ h => h) (Or.inl ⟨by rfl, ?_⟩) ?_ ?_
                  rotate_left
                  · intro w'
                    go_simp
                    with_reducible rfl
                  rotate_left
                  · simp only [Act.put, List.setIfInBounds_toArray, List.set_cons_zero, List.set_cons_succ, i64_w, i32_w]
                    rfl
                  exact norm_ (by first | (simp only [putAll, Act.put, List.setIfInBounds_toArray, List.set_cons_zero, List.set_cons_succ]; done) | (simp only [putAll, Act.put, List.setIfInBounds_toArray, List.set_cons_zero, List.set_cons_succ]; rfl)) (hJ3_4_7 (v130) _ ⟨hHeld, (by (with_reducible repeat (first | apply Kd.R_alloc | apply Kd.R_drewN | apply Kd.R_drew)); exact HO131.out), (by (with_reducible repeat (first | refine blk_drewN ?_ _ | refine blk_drew ?_ | refine blk_alloc ?_ _)); exact BK128.out), (by repeat (first | (with_reducible first | exact HB.out | apply below_alloc | apply pw_below_drewN | apply below_drew1 | refine below_set ?_ GE128.out) | exact HB.out))⟩)
                · skip
                  refine goes_ Tryd.func42 (by kernel_rfl) rfl #[.int .u64 a0_2] (by rfl) rfl rfl (by (try simp only [List.map_toArray, List.map_cons, List.map_nil]); first | done | rfl | (simp only [List.length_drop, List.length_take]; rfl)) ?_
                  with_reducible refine (transeptref01_Put.calls k a0_2 t133 _ A4.out).mono ?_
                  rintro e w14 ⟨rfl, hb⟩
                  refine ⟨_, rfl, ?_⟩
                  have n0_ := Aside0.mk (Kd.R_below (by (with_reducible repeat (first | apply Kd.R_alloc | apply Kd.R_drewN | apply Kd.R_drew)); exact HO131.out) hb)
                  have n1_ := Aside0.mk (blk_below (g := gb128) (o := .cells #[.int .i64 a0_0, .int .u64 a0_1, .int .u64 a0_2, .string a0_3, .string a0_4, .string a0_5, .string a0_6, .int .i64 a0_7, .int .i64 a0_8, .int .i64 a0_9] 24 (0, 0)) (by (with_reducible repeat (first | refine blk_drewN ?_ _ | refine blk_drew ?_ | refine blk_alloc ?_ _)); exact BK128.out) hb)
                  have n2_ := Aside0.mk (below_step (by repeat (first | (with_reducible first | exact HB.out | apply below_alloc | apply pw_below_drewN | apply below_drew1 | refine below_set ?_ GE128.out) | exact HB.out)) hb)
                  clear HO131
                  clear BK128
                  clear HB
                  have HO131 := n0_
                  have BK128 := n1_
                  have HB := n2_
                  clear n0_ n1_ n2_
                  (try clear hb)
                  (try clear hb2)
                  (try clear hk)
                  (try clear hi)
                  refine hK.out _ _ ⟨(blk_cell BK128.out 0).trans rfl, (blk_cell BK128.out 1).trans rfl, (blk_cell BK128.out 2).trans rfl, (blk_cell BK128.out 3).trans rfl, (blk_cell BK128.out 4).trans rfl, (blk_cell BK128.out 5).trans rfl, (blk_cell BK128.out 6).trans rfl, (blk_cell BK128.out 7).trans rfl, (blk_cell BK128.out 8).trans rfl, (blk_cell BK128.out 9).trans rfl⟩ (fun hHeld => ?_)
                  clear hK K
                  refine norm_ (a' := ?_) ?_ ?_
                  rotate_left
                  · show Act.put _ (some 21) _ = _
                    simp only [Act.put, List.setIfInBounds_toArray, List.set_cons_zero, List.set_cons_succ, i64_w, i32_w]
                    rfl
                  exact norm_ (by first | (simp only [putAll, Act.put, List.setIfInBounds_toArray, List.set_cons_zero, List.set_cons_succ]; done) | (simp only [putAll, Act.put, List.setIfInBounds_toArray, List.set_cons_zero, List.set_cons_succ]; rfl)) (hJ3_7_11 (v130) _ ⟨hHeld, (by (with_reducible repeat (first | apply Kd.R_alloc | apply Kd.R_drewN | apply Kd.R_drew)); exact HO131.out), (by (with_reducible repeat (first | refine blk_drewN ?_ _ | refine blk_drew ?_ | refine blk_alloc ?_ _)); exact BK128.out), (by repeat (first | (with_reducible first | exact HB.out | apply below_alloc | apply pw_below_drewN | apply below_drew1 | refine below_set ?_ GE128.out) | exact HB.out))⟩)
            · skip
              rintro v130 w13 ⟨hS_, h0_, h1_, h2_⟩
              have n0_ : Aside0 (Kd.R (Kd.int .u8) 5 w13 w.heap.size (fun _ => True) v130 y129) := ⟨h0_⟩
              have n1_ : Aside0 (w13.heap[gb128]? = some (.cells #[.int .i64 a0_0, .int .u64 a0_1, .int .u64 a0_2, .string a0_3, .string a0_4, .string a0_5, .string a0_6, .int .i64 a0_7, .int .i64 a0_8, .int .i64 a0_9] 24 (0, 0))) := ⟨h1_⟩
              have n2_ : Aside0 (Below w.heap.size w w13) := ⟨h2_⟩
              clear BK128
              clear HB
              clear h0_ h1_ h2_
              have HO131 := n0_
              have BK128 := n1_
              have HB := n2_
              clear n0_ n1_ n2_
              have hHeld : w13.cell? ⟨gb128, 0, none⟩ = some (.int .i64 a0_0) ∧ w13.cell? ⟨gb128, 1, none⟩ = some (.int .u64 a0_1) ∧ w13.cell? ⟨gb128, 2, none⟩ = some (.int .u64 a0_2) ∧ w13.cell? ⟨gb128, 3, none⟩ = some (.string a0_3) ∧ w13.cell? ⟨gb128, 4, none⟩ = some (.string a0_4) ∧ w13.cell? ⟨gb128, 5, none⟩ = some (.string a0_5) ∧ w13.cell? ⟨gb128, 6, none⟩ = some (.string a0_6) ∧ w13.cell? ⟨gb128, 7, none⟩ = some (.int .i64 a0_7) ∧ w13.cell? ⟨gb128, 8, none⟩ = some (.int .i64 a0_8) ∧ w13.cell? ⟨gb128, 9, none⟩ = some (.int .i64 a0_9) := hS_
              refine norm_ (a' := ?_) ?_ ?_
              rotate_left
              · simp only [putAll, Act.put, List.setIfInBounds_toArray, List.set_cons_zero, List.set_cons_succ, *]
                rfl
              refine one_ (i := 7) (N := some 17) #[true, true, true, true, true, true, true, true, false, true, true, false, false, false] rfl rfl (one_of HT_.out (by kernel_rfl)) (by decide) (fun K hK => ?_)
              refine goes_ Tryd.func42 (by kernel_rfl) rfl #[.int .u64 a0_1] (by rfl) rfl rfl (by (try simp only [List.map_toArray, List.map_cons, List.map_nil]); first | done | rfl | (simp only [List.length_drop, List.length_take]; rfl)) ?_
              with_reducible refine (transeptref01_Put.calls k a0_1 t132 _ A2.out).mono ?_
              rintro e w14 ⟨rfl, hb⟩
              refine ⟨_, rfl, ?_⟩
              have n0_ := Aside0.mk (Kd.R_below (by (with_reducible repeat (first | apply Kd.R_alloc | apply Kd.R_drewN | apply Kd.R_drew)); exact HO131.out) hb)
              have n1_ := Aside0.mk (blk_below (g := gb128) (o := .cells #[.int .i64 a0_0, .int .u64 a0_1, .int .u64 a0_2, .string a0_3, .string a0_4, .string a0_5, .string a0_6, .int .i64 a0_7, .int .i64 a0_8, .int .i64 a0_9] 24 (0, 0)) (by (with_reducible repeat (first | refine blk_drewN ?_ _ | refine blk_drew ?_ | refine blk_alloc ?_ _)); exact BK128.out) hb)
              have n2_ := Aside0.mk (below_step (by repeat (first | (with_reducible first | exact HB.out | apply below_alloc | apply pw_below_drewN | apply below_drew1 | refine below_set ?_ GE128.out) | exact HB.out)) hb)
              clear HO131
              clear BK128
              clear HB
              have HO131 := n0_
              have BK128 := n1_
              have HB := n2_
              clear n0_ n1_ n2_
              (try clear hb)
              (try clear hb2)
              (try clear hk)
              (try clear hi)
              refine hK.out _ _ ⟨(blk_cell BK128.out 0).trans rfl, (blk_cell BK128.out 1).trans rfl, (blk_cell BK128.out 2).trans rfl, (blk_cell BK128.out 3).trans rfl, (blk_cell BK128.out 4).trans rfl, (blk_cell BK128.out 5).trans rfl, (blk_cell BK128.out 6).trans rfl, (blk_cell BK128.out 7).trans rfl, (blk_cell BK128.out 8).trans rfl, (blk_cell BK128.out 9).trans rfl⟩ (fun hHeld => ?_)
              clear hK K
              refine norm_ (a' := ?_) ?_ ?_
              rotate_left
              · show Act.put _ (some 17) _ = _
                simp only [Act.put, List.setIfInBounds_toArray, List.set_cons_zero, List.set_cons_succ, i64_w, i32_w]
                rfl
              refine pure_ (i := 8) (N := some 18) (v := ?_) (a' := ?_) #[true, true, true, true, true, true, true, true, true, true, true, false, false, false] rfl rfl (any_of HT_.out (by kernel_rfl)) (fun _ _ _ h => h) (Or.inl ⟨by rfl, ?_⟩) ?_ ?_
              rotate_left
              · intro w'
                go_simp
                with_reducible rfl
              rotate_left
              · simp only [Act.put, List.setIfInBounds_toArray, List.set_cons_zero, List.set_cons_succ, i64_w, i32_w]
                rfl
              exact norm_ (by first | (simp only [putAll, Act.put, List.setIfInBounds_toArray, List.set_cons_zero, List.set_cons_succ]; done) | (simp only [putAll, Act.put, List.setIfInBounds_toArray, List.set_cons_zero, List.set_cons_succ]; rfl)) (hJ3_4_7 (v130) _ ⟨hHeld, (by (with_reducible repeat (first | apply Kd.R_alloc | apply Kd.R_drewN | apply Kd.R_drew)); exact HO131.out), (by (with_reducible repeat (first | refine blk_drewN ?_ _ | refine blk_drew ?_ | refine blk_alloc ?_ _)); exact BK128.out), (by repeat (first | (with_reducible first | exact HB.out | apply below_alloc | apply pw_below_drewN | apply below_drew1 | refine below_set ?_ GE128.out) | exact HB.out))⟩)
          · skip
            rintro v130 w14 ⟨hS_, h0_, h1_, h2_⟩
            have n0_ : Aside0 (Kd.R (Kd.int .u8) 5 w14 w.heap.size (fun _ => True) v130 y129) := ⟨h0_⟩
            have n1_ : Aside0 (w14.heap[gb128]? = some (.cells #[.int .i64 a0_0, .int .u64 a0_1, .int .u64 a0_2, .string a0_3, .string a0_4, .string a0_5, .string a0_6, .int .i64 a0_7, .int .i64 a0_8, .int .i64 a0_9] 24 (0, 0))) := ⟨h1_⟩
            have n2_ : Aside0 (Below w.heap.size w w14) := ⟨h2_⟩
            clear BK128
            clear HB
            clear h0_ h1_ h2_
            have HO131 := n0_
            have BK128 := n1_
            have HB := n2_
            clear n0_ n1_ n2_
            have hHeld : w14.cell? ⟨gb128, 0, none⟩ = some (.int .i64 a0_0) ∧ w14.cell? ⟨gb128, 1, none⟩ = some (.int .u64 a0_1) ∧ w14.cell? ⟨gb128, 2, none⟩ = some (.int .u64 a0_2) ∧ w14.cell? ⟨gb128, 3, none⟩ = some (.string a0_3) ∧ w14.cell? ⟨gb128, 4, none⟩ = some (.string a0_4) ∧ w14.cell? ⟨gb128, 5, none⟩ = some (.string a0_5) ∧ w14.cell? ⟨gb128, 6, none⟩ = some (.string a0_6) ∧ w14.cell? ⟨gb128, 7, none⟩ = some (.int .i64 a0_7) ∧ w14.cell? ⟨gb128, 8, none⟩ = some (.int .i64 a0_8) ∧ w14.cell? ⟨gb128, 9, none⟩ = some (.int .i64 a0_9) := hS_
            refine norm_ (a' := ?_) ?_ ?_
            rotate_left
            · simp only [putAll, Act.put, List.setIfInBounds_toArray, List.set_cons_zero, List.set_cons_succ, *]
              rfl
            refine one_ (i := 4) (N := some 14) #[true, true, true, true, true, true, true, true, false, true, true, true, false, false] rfl rfl (one_of HT_.out (by kernel_rfl)) (by decide) (fun K hK => ?_)
            have hcv15 := own_string (P := Tryd.prog) Tryd.underlying27 Tryd.underlying5 Tryd.underlying9 (Kd.own_of_R HO131.out); (try have hcv15d := fun n_ : Nat => own_string (P := Tryd.prog) Tryd.underlying27 Tryd.underlying5 Tryd.underlying9 (Kd.own_of_R (Kd.R_drewN HO131.out n_)))
            refine value_ (w1 := ?_) (v := ?_) (by rfl) rfl ?_ ?_
            rotate_left 2
            · go_simp
              constructor
              · rfl
              · rfl
            clear hcv15
            refine hK.out _ _ ⟨(blk_cell BK128.out 0).trans rfl, (blk_cell BK128.out 1).trans rfl, (blk_cell BK128.out 2).trans rfl, (blk_cell BK128.out 3).trans rfl, (blk_cell BK128.out 4).trans rfl, (blk_cell BK128.out 5).trans rfl, (blk_cell BK128.out 6).trans rfl, (blk_cell BK128.out 7).trans rfl, (blk_cell BK128.out 8).trans rfl, (blk_cell BK128.out 9).trans rfl⟩ (fun hHeld => ?_)
            clear hK K
            refine norm_ (a' := ?_) ?_ ?_
            rotate_left
            · show Act.put _ (some 14) _ = _
              simp only [Act.put, List.setIfInBounds_toArray, List.set_cons_zero, List.set_cons_succ, i64_w, i32_w]
              rfl
            refine pure_ (i := 8) (N := some 18) (v := ?_) (a' := ?_) #[true, true, true, true, true, true, true, true, true, true, true, true, false, false] rfl rfl (any_of HT_.out (by kernel_rfl)) (fun _ _ _ h => h) (Or.inl ⟨by rfl, ?_⟩) ?_ ?_
            rotate_left
            · intro w'
              go_simp
              with_reducible rfl
            rotate_left
            · simp only [Act.put, List.setIfInBounds_toArray, List.set_cons_zero, List.set_cons_succ, i64_w, i32_w]
              rfl
            exact norm_ (by first | (simp only [putAll, Act.put, List.setIfInBounds_toArray, List.set_cons_zero, List.set_cons_succ]; done) | (simp only [putAll, Act.put, List.setIfInBounds_toArray, List.set_cons_zero, List.set_cons_succ]; rfl)) (hJ3_4_7_11 (v130) _ ⟨hHeld, (by (with_reducible repeat (first | apply Kd.R_alloc | apply Kd.R_drewN | apply Kd.R_drew)); exact HO131.out), (by (with_reducible repeat (first | refine blk_drewN ?_ _ | refine blk_drew ?_ | refine blk_alloc ?_ _)); exact BK128.out), (by repeat (first | (with_reducible first | exact HB.out | apply below_alloc | apply pw_below_drewN | apply below_drew1 | refine below_set ?_ GE128.out) | exact HB.out))⟩)
        · skip
          rintro v130 w14 ⟨hS_, h0_, h1_, h2_⟩
          have n0_ : Aside0 (Kd.R (Kd.int .u8) 5 w14 w.heap.size (fun _ => True) v130 y129) := ⟨h0_⟩
          have n1_ : Aside0 (w14.heap[gb128]? = some (.cells #[.int .i64 a0_0, .int .u64 a0_1, .int .u64 a0_2, .string a0_3, .string a0_4, .string a0_5, .string a0_6, .int .i64 a0_7, .int .i64 a0_8, .int .i64 a0_9] 24 (0, 0))) := ⟨h1_⟩
          have n2_ : Aside0 (Below w.heap.size w w14) := ⟨h2_⟩
          clear BK128
          clear HB
          clear h0_ h1_ h2_
          have HO131 := n0_
          have BK128 := n1_
          have HB := n2_
          clear n0_ n1_ n2_
          have hHeld : w14.cell? ⟨gb128, 0, none⟩ = some (.int .i64 a0_0) ∧ w14.cell? ⟨gb128, 1, none⟩ = some (.int .u64 a0_1) ∧ w14.cell? ⟨gb128, 2, none⟩ = some (.int .u64 a0_2) ∧ w14.cell? ⟨gb128, 3, none⟩ = some (.string a0_3) ∧ w14.cell? ⟨gb128, 4, none⟩ = some (.string a0_4) ∧ w14.cell? ⟨gb128, 5, none⟩ = some (.string a0_5) ∧ w14.cell? ⟨gb128, 6, none⟩ = some (.string a0_6) ∧ w14.cell? ⟨gb128, 7, none⟩ = some (.int .i64 a0_7) ∧ w14.cell? ⟨gb128, 8, none⟩ = some (.int .i64 a0_8) ∧ w14.cell? ⟨gb128, 9, none⟩ = some (.int .i64 a0_9) := hS_
          refine norm_ (a' := ?_) ?_ ?_
          rotate_left
          · simp only [putAll, Act.put, List.setIfInBounds_toArray, List.set_cons_zero, List.set_cons_succ, *]
            rfl
          refine one_ (i := 11) (N := some 21) #[true, true, true, true, true, true, true, true, true, true, true, true, false, false] rfl rfl (one_of HT_.out (by kernel_rfl)) (by decide) (fun K hK => ?_)
          refine goes_ Tryd.func42 (by kernel_rfl) rfl #[.int .u64 a0_2] (by rfl) rfl rfl (by (try simp only [List.map_toArray, List.map_cons, List.map_nil]); first | done | rfl | (simp only [List.length_drop, List.length_take]; rfl)) ?_
          with_reducible refine (transeptref01_Put.calls k a0_2 t133 _ A4.out).mono ?_
          rintro e w15 ⟨rfl, hb⟩
          refine ⟨_, rfl, ?_⟩
          have n0_ := Aside0.mk (Kd.R_below (by (with_reducible repeat (first | apply Kd.R_alloc | apply Kd.R_drewN | apply Kd.R_drew)); exact HO131.out) hb)
          have n1_ := Aside0.mk (blk_below (g := gb128) (o := .cells #[.int .i64 a0_0, .int .u64 a0_1, .int .u64 a0_2, .string a0_3, .string a0_4, .string a0_5, .string a0_6, .int .i64 a0_7, .int .i64 a0_8, .int .i64 a0_9] 24 (0, 0)) (by (with_reducible repeat (first | refine blk_drewN ?_ _ | refine blk_drew ?_ | refine blk_alloc ?_ _)); exact BK128.out) hb)
          have n2_ := Aside0.mk (below_step (by repeat (first | (with_reducible first | exact HB.out | apply below_alloc | apply pw_below_drewN | apply below_drew1 | refine below_set ?_ GE128.out) | exact HB.out)) hb)
          clear HO131
          clear BK128
          clear HB
          have HO131 := n0_
          have BK128 := n1_
          have HB := n2_
          clear n0_ n1_ n2_
          (try clear hb)
          (try clear hb2)
          (try clear hk)
          (try clear hi)
          refine hK.out _ _ ⟨(blk_cell BK128.out 0).trans rfl, (blk_cell BK128.out 1).trans rfl, (blk_cell BK128.out 2).trans rfl, (blk_cell BK128.out 3).trans rfl, (blk_cell BK128.out 4).trans rfl, (blk_cell BK128.out 5).trans rfl, (blk_cell BK128.out 6).trans rfl, (blk_cell BK128.out 7).trans rfl, (blk_cell BK128.out 8).trans rfl, (blk_cell BK128.out 9).trans rfl⟩ (fun hHeld => ?_)
          clear hK K
          refine norm_ (a' := ?_) ?_ ?_
          rotate_left
          · show Act.put _ (some 21) _ = _
            simp only [Act.put, List.setIfInBounds_toArray, List.set_cons_zero, List.set_cons_succ, i64_w, i32_w]
            rfl
          exact norm_ (by first | (simp only [putAll, Act.put, List.setIfInBounds_toArray, List.set_cons_zero, List.set_cons_succ]; done) | (simp only [putAll, Act.put, List.setIfInBounds_toArray, List.set_cons_zero, List.set_cons_succ]; rfl)) (hJ3_4_7_11 (v130) _ ⟨hHeld, (by (with_reducible repeat (first | apply Kd.R_alloc | apply Kd.R_drewN | apply Kd.R_drew)); exact HO131.out), (by (with_reducible repeat (first | refine blk_drewN ?_ _ | refine blk_drew ?_ | refine blk_alloc ?_ _)); exact BK128.out), (by repeat (first | (with_reducible first | exact HB.out | apply below_alloc | apply pw_below_drewN | apply below_drew1 | refine below_set ?_ GE128.out) | exact HB.out))⟩)
      rintro v130 w15 ⟨hS_, h0_, h1_, h2_⟩
      have n0_ : Aside0 (Kd.R (Kd.int .u8) 5 w15 w.heap.size (fun _ => True) v130 y129) := ⟨h0_⟩
      have n1_ : Aside0 (w15.heap[gb128]? = some (.cells #[.int .i64 a0_0, .int .u64 a0_1, .int .u64 a0_2, .string a0_3, .string a0_4, .string a0_5, .string a0_6, .int .i64 a0_7, .int .i64 a0_8, .int .i64 a0_9] 24 (0, 0))) := ⟨h1_⟩
      have n2_ : Aside0 (Below w.heap.size w w15) := ⟨h2_⟩
      clear BK128
      clear HB
      clear h0_ h1_ h2_
      have HO131 := n0_
      have BK128 := n1_
      have HB := n2_
      clear n0_ n1_ n2_
      have hHeld : w15.cell? ⟨gb128, 0, none⟩ = some (.int .i64 a0_0) ∧ w15.cell? ⟨gb128, 1, none⟩ = some (.int .u64 a0_1) ∧ w15.cell? ⟨gb128, 2, none⟩ = some (.int .u64 a0_2) ∧ w15.cell? ⟨gb128, 3, none⟩ = some (.string a0_3) ∧ w15.cell? ⟨gb128, 4, none⟩ = some (.string a0_4) ∧ w15.cell? ⟨gb128, 5, none⟩ = some (.string a0_5) ∧ w15.cell? ⟨gb128, 6, none⟩ = some (.string a0_6) ∧ w15.cell? ⟨gb128, 7, none⟩ = some (.int .i64 a0_7) ∧ w15.cell? ⟨gb128, 8, none⟩ = some (.int .i64 a0_8) ∧ w15.cell? ⟨gb128, 9, none⟩ = some (.int .i64 a0_9) := hS_
      refine norm_ (a' := ?_) ?_ ?_
      rotate_left
      · simp only [putAll, Act.put, List.setIfInBounds_toArray, List.set_cons_zero, List.set_cons_succ, *]
        rfl
      refine pure_ (i := 12) (N := some 22) (v := ?_) (a' := ?_) #[true, true, true, true, true, true, true, true, true, true, true, true, true, false] rfl rfl (any_of HT_.out (by kernel_rfl)) (fun _ _ _ h => h) (Or.inl ⟨by rfl, ?_⟩) ?_ ?_
      rotate_left
      · intro w'
        go_simp
        with_reducible rfl
      rotate_left
      · simp only [Act.put, List.setIfInBounds_toArray, List.set_cons_zero, List.set_cons_succ, i64_w, i32_w]
        rfl
      refine pure_ (i := 13) (N := some 3) (v := ?_) (a' := ?_) #[true, true, true, true, true, true, true, true, true, true, true, true, true, true] rfl rfl (any_of HT_.out (by kernel_rfl)) (fun _ _ _ h => h) (Or.inl ⟨by rfl, ?_⟩) ?_ ?_
      rotate_left
      · intro w'
        go_simp
        with_reducible rfl
      rotate_left
      · simp only [Act.put, List.setIfInBounds_toArray, List.set_cons_zero, List.set_cons_succ, i64_w, i32_w]
        rfl
      refine done_ (done_of HT_.out (by kernel_rfl)) ?_
      have hcz16_0 : w15.cell? ⟨gb128, 0, none⟩ = some (.int .i64 a0_0) := (blk_cell BK128.out 0).trans rfl
      have hcz16_1 : w15.cell? ⟨gb128, 1, none⟩ = some (.int .u64 a0_1) := (blk_cell BK128.out 1).trans rfl
      have hcz16_2 : w15.cell? ⟨gb128, 2, none⟩ = some (.int .u64 a0_2) := (blk_cell BK128.out 2).trans rfl
      have hcz16_3 : w15.cell? ⟨gb128, 3, none⟩ = some (.string a0_3) := (blk_cell BK128.out 3).trans rfl
      have hcz16_4 : w15.cell? ⟨gb128, 4, none⟩ = some (.string a0_4) := (blk_cell BK128.out 4).trans rfl
      have hcz16_5 : w15.cell? ⟨gb128, 5, none⟩ = some (.string a0_5) := (blk_cell BK128.out 5).trans rfl
      have hcz16_6 : w15.cell? ⟨gb128, 6, none⟩ = some (.string a0_6) := (blk_cell BK128.out 6).trans rfl
      have hcz16_7 : w15.cell? ⟨gb128, 7, none⟩ = some (.int .i64 a0_7) := (blk_cell BK128.out 7).trans rfl
      have hcz16_8 : w15.cell? ⟨gb128, 8, none⟩ = some (.int .i64 a0_8) := (blk_cell BK128.out 8).trans rfl
      have hcz16_9 : w15.cell? ⟨gb128, 9, none⟩ = some (.int .i64 a0_9) := (blk_cell BK128.out 9).trans rfl
      have hfz16_0 := blk_frozen BK128.out 0
      have hfz16_1 := blk_frozen BK128.out 1
      have hfz16_2 := blk_frozen BK128.out 2
      have hfz16_3 := blk_frozen BK128.out 3
      have hfz16_4 := blk_frozen BK128.out 4
      have hfz16_5 := blk_frozen BK128.out 5
      have hfz16_6 := blk_frozen BK128.out 6
      have hfz16_7 := blk_frozen BK128.out 7
      have hfz16_8 := blk_frozen BK128.out 8
      have hfz16_9 := blk_frozen BK128.out 9
      try go_wp2_with (first | ((with_reducible refine gate_callee (f := 27) rfl ?_); refine goesL_ (some 26) rfl rfl Tryd.func27 (by kernel_rfl) rfl #[.int .i64 a0_0] rfl (by (try simp only [List.map_toArray, List.map_cons, List.map_nil]); first | done | rfl | (simp only [List.length_drop, List.length_take]; rfl)) ?_; (with_reducible refine (transeptref05_Shape.calls k a0_0 t134 _ A6.out).mono ?_); rintro e w' ⟨rfl, ⟨nd, rfl⟩⟩; refine ⟨_, rfl, ?_⟩) | ((with_reducible refine gate_callee (f := 28) rfl ?_); refine goesL_ (some 27) rfl rfl Tryd.func28 (by kernel_rfl) rfl #[.string t134] rfl (by (try simp only [List.map_toArray, List.map_cons, List.map_nil]); first | done | rfl | (simp only [List.length_drop, List.length_take]; rfl)) ?_; (with_reducible refine (transeptref05_split.calls k t134 t135 t136 _ A7.out).mono ?_); rintro e w' ⟨rfl, ⟨nd, rfl⟩⟩; refine ⟨_, rfl, ?_⟩) | ((with_reducible refine gate_dst (N := 38) rfl ?_); refine Kd.R_lit Kd.string _ 9 ?hg (N := 38) ?hd (xs := ([a0_3, a0_4, a0_5, a0_6] : List ByteArray)) (inner := [.string a0_3, .string a0_4, .string a0_5, .string a0_6]) (ok := fun _ => True) (okp := fun _ => True) ?hr ?hp (fun _ hk => hk) trivial (Below.refl _ _) (Nat.le_refl _) (by simp) ?_; (case hd => rfl); (case hg => rfl); (case hr => first | (go_simp; done) | (go_simp; rfl)); (case hp => exact (Reps.one (show Kd.M Kd.string _ _ _ a0_3 [.string a0_3] from rfl) (Reps.one (show Kd.M Kd.string _ _ _ a0_4 [.string a0_4] from rfl) (Reps.one (show Kd.M Kd.string _ _ _ a0_5 [.string a0_5] from rfl) (Reps.one (show Kd.M Kd.string _ _ _ a0_6 [.string a0_6] from rfl) (Reps.none _ _)))))); intro v138 w17 ho18 hb hg_ hnew_; clear hg_ hnew_; (first | rw [← Ny137.out] at ho18 | (simp only [Int.reduceToNat] at ho18; rw [← Ny137.out] at ho18)); have n0_ := Aside0.mk (Kd.R_below (by (with_reducible repeat (first | apply Kd.R_alloc | apply Kd.R_drewN | apply Kd.R_drew)); exact HO131.out) hb); have n1_ := Aside0.mk (Kd.R_lower ho18 (below_size (by repeat (first | (with_reducible first | exact HB.out | apply below_alloc | apply pw_below_drewN | apply below_drew1 | refine below_set ?_ GE128.out) | exact HB.out)))); have n2_ := Aside0.mk (blk_below (g := gb128) (o := .cells #[.int .i64 a0_0, .int .u64 a0_1, .int .u64 a0_2, .string a0_3, .string a0_4, .string a0_5, .string a0_6, .int .i64 a0_7, .int .i64 a0_8, .int .i64 a0_9] 24 (0, 0)) (by (with_reducible repeat (first | refine blk_drewN ?_ _ | refine blk_drew ?_ | refine blk_alloc ?_ _)); exact BK128.out) hb); have n3_ := Aside0.mk (below_step (by repeat (first | (with_reducible first | exact HB.out | apply below_alloc | apply pw_below_drewN | apply below_drew1 | refine below_set ?_ GE128.out) | exact HB.out)) hb); clear HO131; clear BK128; clear HB; have HO131 := n0_; have HO139 := n1_; have BK128 := n2_; have HB := n3_; clear n0_ n1_ n2_ n3_; clear hb ho18))
      go_loopg [3, 7] k (fun kq v3 v7 w' => ∃ (x3_1 : ByteArray) (x7_1 : Int), v3 = .string x3_1 ∧ v7 = .int .i64 x7_1 ∧ Aside0 (transeptref05_Write.l0 kq x3_1 t135 t136 y137 x7_1 a0_0 a0_1 a0_2 a0_3 a0_4 a0_5 a0_6 a0_7 a0_8 a0_9 = some r) ∧ Aside0 (kq ≤ k) ∧ Aside0 (Kd.R Kd.string 9 w' w.heap.size (fun _ => True) v138 y137) ∧ Aside0 (w'.heap[gb128]? = some (.cells #[.int .i64 a0_0, .int .u64 a0_1, .int .u64 a0_2, .string a0_3, .string a0_4, .string a0_5, .string a0_6, .int .i64 a0_7, .int .i64 a0_8, .int .i64 a0_9] 24 (0, 0))) ∧ Aside0 (Below w.heap.size w w'))
      case atStart => exact ⟨(((strOfNums y129) ++ t132) ++ t133), (0), (by first | rfl | (simp; done) | (simp [*]; done)), (by first | rfl | (simp; done) | (simp [*]; done)), H', ⟨Nat.le_refl _⟩, ⟨by (with_reducible repeat (first | apply Kd.R_alloc | apply Kd.R_drewN | apply Kd.R_drew)); exact HO139.out⟩, ⟨by (with_reducible repeat (first | refine blk_drewN ?_ _ | refine blk_drew ?_ | refine blk_alloc ?_ _)); exact BK128.out⟩, ⟨by repeat (first | (with_reducible first | exact HB.out | apply below_alloc | apply pw_below_drewN | apply below_drew1 | refine below_set ?_ GE128.out) | exact HB.out)⟩⟩
      case round =>
        clear H'
        try clear hcv1
        try clear c2
        try clear p2
        try clear c3
        try clear c3b0
        try clear c3b1
        try clear c3b2
        try clear c4
        try clear c5
        try clear c5b0
        try clear c5b1
        try clear c5b2
        try clear hcv13
        try clear hcv14
        try clear hcv15
        try clear hcz16_0
        try clear hcz16_1
        try clear hcz16_2
        try clear hcz16_3
        try clear hcz16_4
        try clear hcz16_5
        try clear hcz16_6
        try clear hcz16_7
        try clear hcz16_8
        try clear hcz16_9
        try clear hfz16_0
        try clear hfz16_1
        try clear hfz16_2
        try clear hfz16_3
        try clear hfz16_4
        try clear hfz16_5
        try clear hfz16_6
        try clear hfz16_7
        try clear hfz16_8
        try clear hfz16_9
        obtain ⟨x3_1, x7_1, rfl, rfl, HA, HK1, HO_6, BK128, HB⟩ := hrel
        cases gk with
        | zero => exact absurd HA.out (by simp [transeptref05_Write.l0])
        | succ k1 =>
          have H := HA.out
          clear HA
          simp only [transeptref05_Write.l0] at H
          by_cases c19 : x7_1 < t135
          · rw [if_pos c19] at H
            have c19b0 : decide (x7_1 < t135) = true := decide_eq_true c19
            clear c19
            by_cases c20 : 0 ≤ x7_1
            · rw [if_pos c20] at H
              have c20b0 : decide (0 ≤ x7_1) = true := decide_eq_true c20
              clear c20
              by_cases c21 : x7_1 < (y137.length : Int)
              · rw [if_pos c21] at H
                have c21b0 : decide (x7_1 < (y137.length : Int)) = true := decide_eq_true c21
                clear c21
                replace H := Option.bind_eq_some_iff.mp H
                obtain ⟨t141, A220, H⟩ := H
                replace H : (if x3_1.size + t141.size ≤ 9223372036854775807 then (transeptref05_Write.l0 k1 (x3_1 ++ t141) t135 t136 y137 (wrap64 (x7_1 + 1)) a0_0 a0_1 a0_2 a0_3 a0_4 a0_5 a0_6 a0_7 a0_8 a0_9) else (none)) = some r := H
                have A22 := Aside0.mk A220
                clear A220
                by_cases c23 : x3_1.size + t141.size ≤ 9223372036854775807
                · rw [if_pos c23] at H
                  have c23b0 := eq_true c23
                  have c23b1 : decide (x3_1.size + t141.size ≤ 9223372036854775807) = true := decide_eq_true c23
                  try have c23b2 : (9223372036854775807 < x3_1.size + t141.size) = False := eq_false (Nat.not_lt.2 c23)
                  have H' := Aside0.mk H
                  clear H
                  obtain ⟨Ao24, co24, eo24⟩ := Kd.R_slice HO_6.out
                  subst eo24
                  have p140 : 0 ≤ (x7_1 : Int) := of_decide_eq_true (by first | (with_reducible assumption) | assumption)
                  have q140 : x7_1 < (y137.length : Int) := of_decide_eq_true (by first | (with_reducible assumption) | assumption)
                  obtain ⟨ad140, e140, hx140_0⟩ := Kd.at_string (Kd.R_reads' HO_6.out).2.2 x7_1 p140 q140
                  cases e140
                  replace p140 := eq_true p140
                  replace q140 := eq_true q140
                  try have q140m := eq_true (by have z_ := of_eq_true q140; simp only [ByteArray.size_extract, Nat.sub_zero] at z_; exact z_)
                  go_wp2_with (first | ((with_reducible refine gate_callee (f := 43) rfl ?_); refine goesL_ (some 49) rfl rfl Tryd.func43 (by kernel_rfl) rfl #[.string (rdOf ByteArray.empty y137 x7_1)] rfl (by (try simp only [List.map_toArray, List.map_cons, List.map_nil]); first | done | rfl | (simp only [List.length_drop, List.length_take]; rfl)) ?_; (with_reducible refine (transeptref01_PutText.calls k1 (rdOf ByteArray.empty y137 x7_1) t141 _ A22.out).mono ?_); rintro e w25 ⟨rfl, hb⟩; refine ⟨_, rfl, ?_⟩; have n0_ := Aside0.mk (Kd.R_below (by (with_reducible repeat (first | apply Kd.R_alloc | apply Kd.R_drewN | apply Kd.R_drew)); exact HO_6.out) hb); have n1_ := Aside0.mk (blk_below (g := gb128) (o := .cells #[.int .i64 a0_0, .int .u64 a0_1, .int .u64 a0_2, .string a0_3, .string a0_4, .string a0_5, .string a0_6, .int .i64 a0_7, .int .i64 a0_8, .int .i64 a0_9] 24 (0, 0)) (by (with_reducible repeat (first | refine blk_drewN ?_ _ | refine blk_drew ?_ | refine blk_alloc ?_ _)); exact BK128.out) hb); have n2_ := Aside0.mk (below_step (by repeat (first | (with_reducible first | exact HB.out | apply below_alloc | apply pw_below_drewN | apply below_drew1 | refine below_set ?_ GE128.out) | exact HB.out)) hb); clear HO_6; clear BK128; clear HB; have HO_6 := n0_; have BK128 := n1_; have HB := n2_; clear n0_ n1_ n2_; (try clear hb); (try clear hb2); (try clear hk); (try clear hi)))
                  go_roundg k1
                  case measure => have := HK1.out; omega
                  case rel => exact ⟨(x3_1 ++ t141), (wrap64 (x7_1 + 1)), (by first | rfl | (simp; done) | (simp [*]; done)), (by first | rfl | (simp; done) | (simp [*]; done)), H', ⟨by have := HK1.out; omega⟩, ⟨by (with_reducible repeat (first | apply Kd.R_alloc | apply Kd.R_drewN | apply Kd.R_drew)); exact HO_6.out⟩, ⟨by (with_reducible repeat (first | refine blk_drewN ?_ _ | refine blk_drew ?_ | refine blk_alloc ?_ _)); exact BK128.out⟩, ⟨by repeat (first | (with_reducible first | exact HB.out | apply below_alloc | apply pw_below_drewN | apply below_drew1 | refine below_set ?_ GE128.out) | exact HB.out)⟩⟩
                · rw [if_neg c23] at H
                  exact absurd H (by simp)
              · rw [if_neg c21] at H
                exact absurd H (by simp)
            · rw [if_neg c20] at H
              exact absurd H (by simp)
          · rw [if_neg c19] at H
            have c19b0 : decide (x7_1 < t135) = false := decide_eq_false c19
            clear c19
            obtain ⟨y142, hy142⟩ : ∃ y_ : List Int, y_ = (([a0_7, a0_8, a0_9] : List Int)) := ⟨_, rfl⟩
            replace H : (transeptref05_Write.l1 k1 x3_1 t136 y142 0) = some r := by first | (rw [hy142]; with_reducible exact H) | (have H2_ := (Option.bind_some _ _).symm.trans H; rw [hy142]; with_reducible exact H2_) | (have H2_ := (Option.bind_some _ _).symm.trans H; with_reducible exact H2_) | with_reducible exact H | (rw [hy142]; exact H) | exact H
            have Ny142 := Aside0.mk hy142
            clear hy142
            have H' := Aside0.mk H
            clear H
            have hcz26_0 : wr.cell? ⟨gb128, 0, none⟩ = some (.int .i64 a0_0) := (blk_cell BK128.out 0).trans rfl
            have hcz26_1 : wr.cell? ⟨gb128, 1, none⟩ = some (.int .u64 a0_1) := (blk_cell BK128.out 1).trans rfl
            have hcz26_2 : wr.cell? ⟨gb128, 2, none⟩ = some (.int .u64 a0_2) := (blk_cell BK128.out 2).trans rfl
            have hcz26_3 : wr.cell? ⟨gb128, 3, none⟩ = some (.string a0_3) := (blk_cell BK128.out 3).trans rfl
            have hcz26_4 : wr.cell? ⟨gb128, 4, none⟩ = some (.string a0_4) := (blk_cell BK128.out 4).trans rfl
            have hcz26_5 : wr.cell? ⟨gb128, 5, none⟩ = some (.string a0_5) := (blk_cell BK128.out 5).trans rfl
            have hcz26_6 : wr.cell? ⟨gb128, 6, none⟩ = some (.string a0_6) := (blk_cell BK128.out 6).trans rfl
            have hcz26_7 : wr.cell? ⟨gb128, 7, none⟩ = some (.int .i64 a0_7) := (blk_cell BK128.out 7).trans rfl
            have hcz26_8 : wr.cell? ⟨gb128, 8, none⟩ = some (.int .i64 a0_8) := (blk_cell BK128.out 8).trans rfl
            have hcz26_9 : wr.cell? ⟨gb128, 9, none⟩ = some (.int .i64 a0_9) := (blk_cell BK128.out 9).trans rfl
            have hfz26_0 := blk_frozen BK128.out 0
            have hfz26_1 := blk_frozen BK128.out 1
            have hfz26_2 := blk_frozen BK128.out 2
            have hfz26_3 := blk_frozen BK128.out 3
            have hfz26_4 := blk_frozen BK128.out 4
            have hfz26_5 := blk_frozen BK128.out 5
            have hfz26_6 := blk_frozen BK128.out 6
            have hfz26_7 := blk_frozen BK128.out 7
            have hfz26_8 := blk_frozen BK128.out 8
            have hfz26_9 := blk_frozen BK128.out 9
            go_wp2_with (first | ((with_reducible refine gate_dst (N := 57) rfl ?_); refine Kd.R_lit (Kd.int .i64) _ 3 ?hg (N := 57) ?hd (xs := ([a0_7, a0_8, a0_9] : List Int)) (inner := [.int .i64 a0_7, .int .i64 a0_8, .int .i64 a0_9]) (ok := fun _ => True) (okp := fun _ => True) ?hr ?hp (fun _ hk => hk) trivial (Below.refl _ _) (Nat.le_refl _) (by simp) ?_; (case hd => rfl); (case hg => rfl); (case hr => first | (go_simp; done) | (go_simp; rfl)); (case hp => exact (Reps.one (show Kd.M (Kd.int .i64) _ _ _ a0_7 [.int .i64 a0_7] from rfl) (Reps.one (show Kd.M (Kd.int .i64) _ _ _ a0_8 [.int .i64 a0_8] from rfl) (Reps.one (show Kd.M (Kd.int .i64) _ _ _ a0_9 [.int .i64 a0_9] from rfl) (Reps.none _ _))))); intro v143 w27 ho28 hb hg_ hnew_; clear hg_ hnew_; (first | rw [← Ny142.out] at ho28 | (simp only [Int.reduceToNat] at ho28; rw [← Ny142.out] at ho28)); have n0_ := Aside0.mk (Kd.R_below (by (with_reducible repeat (first | apply Kd.R_alloc | apply Kd.R_drewN | apply Kd.R_drew)); exact HO_6.out) hb); have n1_ := Aside0.mk (Kd.R_lower ho28 (below_size (by repeat (first | (with_reducible first | exact HB.out | apply below_alloc | apply pw_below_drewN | apply below_drew1 | refine below_set ?_ GE128.out) | exact HB.out)))); have n2_ := Aside0.mk (blk_below (g := gb128) (o := .cells #[.int .i64 a0_0, .int .u64 a0_1, .int .u64 a0_2, .string a0_3, .string a0_4, .string a0_5, .string a0_6, .int .i64 a0_7, .int .i64 a0_8, .int .i64 a0_9] 24 (0, 0)) (by (with_reducible repeat (first | refine blk_drewN ?_ _ | refine blk_drew ?_ | refine blk_alloc ?_ _)); exact BK128.out) hb); have n3_ := Aside0.mk (below_step (by repeat (first | (with_reducible first | exact HB.out | apply below_alloc | apply pw_below_drewN | apply below_drew1 | refine below_set ?_ GE128.out) | exact HB.out)) hb); clear HO_6; clear BK128; clear HB; have HO_6 := n0_; have HO144 := n1_; have BK128 := n2_; have HB := n3_; clear n0_ n1_ n2_ n3_; clear hb ho28))
            go_loopg [3, 9] k1 (fun kq v3 v9 w' => ∃ (x3_2 : ByteArray) (x9_2 : Int), v3 = .string x3_2 ∧ v9 = .int .i64 x9_2 ∧ Aside0 (transeptref05_Write.l1 kq x3_2 t136 y142 x9_2 = some r) ∧ Aside0 (kq ≤ k1) ∧ Aside0 (Kd.R (Kd.int .i64) 3 w' w.heap.size (fun _ => True) v143 y142) ∧ Aside0 (w'.heap[gb128]? = some (.cells #[.int .i64 a0_0, .int .u64 a0_1, .int .u64 a0_2, .string a0_3, .string a0_4, .string a0_5, .string a0_6, .int .i64 a0_7, .int .i64 a0_8, .int .i64 a0_9] 24 (0, 0))) ∧ Aside0 (Below w.heap.size w w'))
            case atStart => exact ⟨(x3_1), (0), (by first | rfl | (simp; done) | (simp [*]; done)), (by first | rfl | (simp; done) | (simp [*]; done)), H', ⟨Nat.le_refl _⟩, ⟨by (with_reducible repeat (first | apply Kd.R_alloc | apply Kd.R_drewN | apply Kd.R_drew)); exact HO144.out⟩, ⟨by (with_reducible repeat (first | refine blk_drewN ?_ _ | refine blk_drew ?_ | refine blk_alloc ?_ _)); exact BK128.out⟩, ⟨by repeat (first | (with_reducible first | exact HB.out | apply below_alloc | apply pw_below_drewN | apply below_drew1 | refine below_set ?_ GE128.out) | exact HB.out)⟩⟩
            case round =>
              clear H'
              try clear c1
              try clear p1
              try clear q1
              try clear hx1
              try clear hcv1
              try clear c2
              try clear p2
              try clear c3
              try clear c3b0
              try clear c3b1
              try clear c3b2
              try clear c4
              try clear c5
              try clear c5b0
              try clear c5b1
              try clear c5b2
              try clear p6
              try clear hcv13
              try clear p14
              try clear q14
              try clear hx14
              try clear hcv14
              try clear hcv15
              try clear c19
              try clear c19b0
              try clear c20
              try clear c20b0
              try clear c21
              try clear c21b0
              try clear c23
              try clear c23b0
              try clear c23b1
              try clear c23b2
              try clear c27
              try clear c28
              try clear hcz16_0
              try clear hcz16_1
              try clear hcz16_2
              try clear hcz16_3
              try clear hcz16_4
              try clear hcz16_5
              try clear hcz16_6
              try clear hcz16_7
              try clear hcz16_8
              try clear hcz16_9
              try clear hcz26_0
              try clear hcz26_1
              try clear hcz26_2
              try clear hcz26_3
              try clear hcz26_4
              try clear hcz26_5
              try clear hcz26_6
              try clear hcz26_7
              try clear hcz26_8
              try clear hcz26_9
              try clear hfz16_0
              try clear hfz16_1
              try clear hfz16_2
              try clear hfz16_3
              try clear hfz16_4
              try clear hfz16_5
              try clear hfz16_6
              try clear hfz16_7
              try clear hfz16_8
              try clear hfz16_9
              try clear hfz26_0
              try clear hfz26_1
              try clear hfz26_2
              try clear hfz26_3
              try clear hfz26_4
              try clear hfz26_5
              try clear hfz26_6
              try clear hfz26_7
              try clear hfz26_8
              try clear hfz26_9
              try clear hx140_0
              try clear p140
              try clear p2
              try clear q140
              obtain ⟨x3_2, x9_2, rfl, rfl, HA, HK2, HO_8, BK128, HB⟩ := hrel
              cases gk with
              | zero => exact absurd HA.out (by simp [transeptref05_Write.l1])
              | succ k2 =>
                have H := HA.out
                clear HA
                simp only [transeptref05_Write.l1] at H
                by_cases c29 : x9_2 < (t136.size : Int)
                · rw [if_pos c29] at H
                  have c29b0 : decide (x9_2 < (t136.size : Int)) = true := decide_eq_true c29
                  clear c29
                  by_cases c30 : 0 ≤ x9_2
                  · rw [if_pos c30] at H
                    have c30b0 : decide (0 ≤ x9_2) = true := decide_eq_true c30
                    clear c30
                    by_cases c32 : (bt t136 x9_2) = 115
                    · rw [if_pos c32] at H
                      have c32b0 : ((bt t136 x9_2) == 115) = true := beq_iff_eq.mpr c32
                      have c32b1 : ((bt t136 x9_2) != 115) = false := bne_eq_false_iff_eq.mpr c32
                      clear c32
                      by_cases c33 : x9_2 < (y142.length : Int)
                      · rw [if_pos c33] at H
                        have c33b0 : decide (x9_2 < (y142.length : Int)) = true := decide_eq_true c33
                        clear c33
                        obtain ⟨y146, hy146⟩ : ∃ y_ : List Int, y_ = (([(wrap64 (Int.tdiv (rd y142 x9_2) 256)) % 256] : List Int)) := ⟨_, rfl⟩
                        replace H : (if x3_2.size + (strOfNums y146).size ≤ 9223372036854775807 then ((some (([(Int.tmod (rd y142 x9_2) 256) % 256] : List Int) : List Int)).bind fun y150 => (if (x3_2 ++ (strOfNums y146)).size + (strOfNums y150).size ≤ 9223372036854775807 then (transeptref05_Write.l1 k2 ((x3_2 ++ (strOfNums y146)) ++ (strOfNums y150)) t136 y142 (wrap64 (x9_2 + 1))) else (none))) else (none)) = some r := by first | (rw [hy146]; with_reducible exact H) | (have H2_ := (Option.bind_some _ _).symm.trans H; rw [hy146]; with_reducible exact H2_) | (have H2_ := (Option.bind_some _ _).symm.trans H; with_reducible exact H2_) | with_reducible exact H | (rw [hy146]; exact H) | exact H
                        have Ny146 := Aside0.mk hy146
                        clear hy146
                        by_cases c34 : x3_2.size + (strOfNums y146).size ≤ 9223372036854775807
                        · rw [if_pos c34] at H
                          have c34b0 := eq_true c34
                          have c34b1 : decide (x3_2.size + (strOfNums y146).size ≤ 9223372036854775807) = true := decide_eq_true c34
                          try have c34b2 : (9223372036854775807 < x3_2.size + (strOfNums y146).size) = False := eq_false (Nat.not_lt.2 c34)
                          obtain ⟨y150, hy150⟩ : ∃ y_ : List Int, y_ = (([(Int.tmod (rd y142 x9_2) 256) % 256] : List Int)) := ⟨_, rfl⟩
                          replace H : (if (x3_2 ++ (strOfNums y146)).size + (strOfNums y150).size ≤ 9223372036854775807 then (transeptref05_Write.l1 k2 ((x3_2 ++ (strOfNums y146)) ++ (strOfNums y150)) t136 y142 (wrap64 (x9_2 + 1))) else (none)) = some r := by first | (rw [hy150]; with_reducible exact H) | (have H2_ := (Option.bind_some _ _).symm.trans H; rw [hy150]; with_reducible exact H2_) | (have H2_ := (Option.bind_some _ _).symm.trans H; with_reducible exact H2_) | with_reducible exact H | (rw [hy150]; exact H) | exact H
                          have Ny150 := Aside0.mk hy150
                          clear hy150
                          by_cases c35 : (x3_2 ++ (strOfNums y146)).size + (strOfNums y150).size ≤ 9223372036854775807
                          · rw [if_pos c35] at H
                            have c35b0 := eq_true c35
                            have c35b1 : decide ((x3_2 ++ (strOfNums y146)).size + (strOfNums y150).size ≤ 9223372036854775807) = true := decide_eq_true c35
                            try have c35b2 : (9223372036854775807 < (x3_2 ++ (strOfNums y146)).size + (strOfNums y150).size) = False := eq_false (Nat.not_lt.2 c35)
                            have c35b3 : (9223372036854775807 < (x3_2).size + ((strOfNums y146)).size + (strOfNums y150).size) = False := eq_false (by have h_ := Nat.not_lt.2 c35; rwa [ByteArray.size_append] at h_)
                            have H' := Aside0.mk H
                            clear H
                            have p31 : 0 ≤ (x9_2 : Int) := of_decide_eq_true (by first | (with_reducible assumption) | assumption)
                            have q31 : x9_2 < (t136.size : Int) := of_decide_eq_true (by first | (with_reducible assumption) | assumption)
                            have hx31 := bt_at t136 x9_2
                            replace p31 := eq_true p31
                            replace q31 := eq_true q31
                            try have q31m := eq_true (by have z_ := of_eq_true q31; simp only [ByteArray.size_extract, Nat.sub_zero] at z_; exact z_)
                            obtain ⟨Ao36, co36, eo36⟩ := Kd.R_slice HO_8.out
                            subst eo36
                            have p145 : 0 ≤ (x9_2 : Int) := of_decide_eq_true (by first | (with_reducible assumption) | assumption)
                            have q145 : x9_2 < (y142.length : Int) := of_decide_eq_true (by first | (with_reducible assumption) | assumption)
                            obtain ⟨ad145, e145, hx145_0⟩ := Kd.at_int (Kd.R_reads' HO_8.out).2.2 x9_2 p145 q145
                            cases e145
                            replace p145 := eq_true p145
                            replace q145 := eq_true q145
                            try have q145m := eq_true (by have z_ := of_eq_true q145; simp only [ByteArray.size_extract, Nat.sub_zero] at z_; exact z_)
                            go_wp2_with (first | ((with_reducible refine gate_dst (N := 75) rfl ?_); refine Kd.R_lit (Kd.int .u8) _ 5 ?hg (N := 75) ?hd (xs := ([(wrap64 (Int.tdiv (rd y142 x9_2) 256)) % 256] : List Int)) (inner := [.int .u8 ((wrap64 (Int.tdiv (rd y142 x9_2) 256)) % 256)]) (ok := fun _ => True) (okp := fun _ => True) ?hr ?hp (fun _ hk => hk) trivial (Below.refl _ _) (Nat.le_refl _) (by simp) ?_; (case hd => rfl); (case hg => rfl); (case hr => first | (go_simp; done) | (go_simp; rfl)); (case hp => exact (Reps.one (show Kd.M (Kd.int .u8) _ _ _ ((wrap64 (Int.tdiv (rd y142 x9_2) 256)) % 256) [.int .u8 ((wrap64 (Int.tdiv (rd y142 x9_2) 256)) % 256)] from rfl) (Reps.none _ _))); intro v147 w37 ho38 hb hg_ hnew_; clear hg_ hnew_; (first | rw [← Ny146.out] at ho38 | (simp only [Int.reduceToNat] at ho38; rw [← Ny146.out] at ho38)); have n0_ := Aside0.mk (Kd.R_below (by (with_reducible repeat (first | apply Kd.R_alloc | apply Kd.R_drewN | apply Kd.R_drew)); exact HO_8.out) hb); have n1_ := Aside0.mk (Kd.R_lower ho38 (below_size (by repeat (first | (with_reducible first | exact HB.out | apply below_alloc | apply pw_below_drewN | apply below_drew1 | refine below_set ?_ GE128.out) | exact HB.out)))); have n2_ := Aside0.mk (blk_below (g := gb128) (o := .cells #[.int .i64 a0_0, .int .u64 a0_1, .int .u64 a0_2, .string a0_3, .string a0_4, .string a0_5, .string a0_6, .int .i64 a0_7, .int .i64 a0_8, .int .i64 a0_9] 24 (0, 0)) (by (with_reducible repeat (first | refine blk_drewN ?_ _ | refine blk_drew ?_ | refine blk_alloc ?_ _)); exact BK128.out) hb); have n3_ := Aside0.mk (below_step (by repeat (first | (with_reducible first | exact HB.out | apply below_alloc | apply pw_below_drewN | apply below_drew1 | refine below_set ?_ GE128.out) | exact HB.out)) hb); clear HO_8; clear BK128; clear HB; have HO_8 := n0_; have HO148 := n1_; have BK128 := n2_; have HB := n3_; clear n0_ n1_ n2_ n3_; clear hb ho38; have hcv39 := own_string (P := Tryd.prog) Tryd.underlying27 Tryd.underlying5 Tryd.underlying9 (Kd.own_of_R HO148.out); (try have hcv39d := fun n_ : Nat => own_string (P := Tryd.prog) Tryd.underlying27 Tryd.underlying5 Tryd.underlying9 (Kd.own_of_R (Kd.R_drewN HO148.out n_))); have p149 : 0 ≤ (x9_2 : Int) := of_decide_eq_true (by first | (with_reducible assumption) | assumption); have q149 : x9_2 < (y142.length : Int) := of_decide_eq_true (by first | (with_reducible assumption) | assumption); obtain ⟨ad149, e149, hx149_0⟩ := Kd.at_int (Kd.R_reads' HO_8.out).2.2 x9_2 p149 q149; obtain rfl : ad145 = ad149 := (by injection e149); replace p149 := eq_true p149; replace q149 := eq_true q149) | ((with_reducible refine gate_dst (N := 85) rfl ?_); refine Kd.R_lit (Kd.int .u8) _ 5 ?hg (N := 85) ?hd (xs := ([(Int.tmod (rd y142 x9_2) 256) % 256] : List Int)) (inner := [.int .u8 ((Int.tmod (rd y142 x9_2) 256) % 256)]) (ok := fun _ => True) (okp := fun _ => True) ?hr ?hp (fun _ hk => hk) trivial (Below.refl _ _) (Nat.le_refl _) (by simp) ?_; (case hd => rfl); (case hg => rfl); (case hr => first | (go_simp; done) | (go_simp; rfl)); (case hp => exact (Reps.one (show Kd.M (Kd.int .u8) _ _ _ ((Int.tmod (rd y142 x9_2) 256) % 256) [.int .u8 ((Int.tmod (rd y142 x9_2) 256) % 256)] from rfl) (Reps.none _ _))); intro v151 w40 ho41 hb hg_ hnew_; clear hg_ hnew_; (first | rw [← Ny150.out] at ho41 | (simp only [Int.reduceToNat] at ho41; rw [← Ny150.out] at ho41)); have n0_ := Aside0.mk (Kd.R_below (by (with_reducible repeat (first | apply Kd.R_alloc | apply Kd.R_drewN | apply Kd.R_drew)); exact HO_8.out) hb); have n1_ := Aside0.mk (Kd.R_elder' (by (with_reducible repeat (first | apply Kd.R_alloc | apply Kd.R_drewN | apply Kd.R_drew)); exact HO148.out) (Kd.R_base ho41) hb); have n2_ := Aside0.mk (Kd.R_lower (Kd.R_new' ho41 (Kd.R_lt (by (with_reducible repeat (first | apply Kd.R_alloc | apply Kd.R_drewN | apply Kd.R_drew)); exact HO148.out))) (below_size (by repeat (first | (with_reducible first | exact HB.out | apply below_alloc | apply pw_below_drewN | apply below_drew1 | refine below_set ?_ GE128.out) | exact HB.out)))); have n3_ := Aside0.mk (blk_below (g := gb128) (o := .cells #[.int .i64 a0_0, .int .u64 a0_1, .int .u64 a0_2, .string a0_3, .string a0_4, .string a0_5, .string a0_6, .int .i64 a0_7, .int .i64 a0_8, .int .i64 a0_9] 24 (0, 0)) (by (with_reducible repeat (first | refine blk_drewN ?_ _ | refine blk_drew ?_ | refine blk_alloc ?_ _)); exact BK128.out) hb); have n4_ := Aside0.mk (below_step (by repeat (first | (with_reducible first | exact HB.out | apply below_alloc | apply pw_below_drewN | apply below_drew1 | refine below_set ?_ GE128.out) | exact HB.out)) hb); clear HO_8; clear HO148; clear BK128; clear HB; have HO_8 := n0_; have HO148 := n1_; have HO152 := n2_; have BK128 := n3_; have HB := n4_; clear n0_ n1_ n2_ n3_ n4_; clear hb ho41; have hcv42 := own_string (P := Tryd.prog) Tryd.underlying27 Tryd.underlying5 Tryd.underlying9 (Kd.own_of_R HO152.out); (try have hcv42d := fun n_ : Nat => own_string (P := Tryd.prog) Tryd.underlying27 Tryd.underlying5 Tryd.underlying9 (Kd.own_of_R (Kd.R_drewN HO152.out n_)))))
                            go_roundg k2
                            case measure => have := HK1.out; have := HK2.out; omega
                            case rel => exact ⟨((x3_2 ++ (strOfNums y146)) ++ (strOfNums y150)), (wrap64 (x9_2 + 1)), (by first | rfl | (simp; done) | (simp [*]; done)), (by first | rfl | (simp; done) | (simp [*]; done)), H', ⟨by have := HK1.out; have := HK2.out; omega⟩, ⟨by (with_reducible repeat (first | apply Kd.R_alloc | apply Kd.R_drewN | apply Kd.R_drew)); exact HO_8.out⟩, ⟨by (with_reducible repeat (first | refine blk_drewN ?_ _ | refine blk_drew ?_ | refine blk_alloc ?_ _)); exact BK128.out⟩, ⟨by repeat (first | (with_reducible first | exact HB.out | apply below_alloc | apply pw_below_drewN | apply below_drew1 | refine below_set ?_ GE128.out) | exact HB.out)⟩⟩
                          · rw [if_neg c35] at H
                            exact absurd H (by simp)
                        · rw [if_neg c34] at H
                          exact absurd H (by simp)
                      · rw [if_neg c33] at H
                        exact absurd H (by simp)
                    · rw [if_neg c32] at H
                      have c32b0 : ((bt t136 x9_2) == 115) = false := beq_eq_false_iff_ne.mpr c32
                      have c32b1 : ((bt t136 x9_2) != 115) = true := bne_iff_ne.mpr c32
                      by_cases c43 : x9_2 < (y142.length : Int)
                      · rw [if_pos c43] at H
                        have c43b0 : decide (x9_2 < (y142.length : Int)) = true := decide_eq_true c43
                        clear c43
                        obtain ⟨y154, hy154⟩ : ∃ y_ : List Int, y_ = (([(Int.tmod (rd y142 x9_2) 256) % 256] : List Int)) := ⟨_, rfl⟩
                        replace H : (if x3_2.size + (strOfNums y154).size ≤ 9223372036854775807 then (transeptref05_Write.l1 k2 (x3_2 ++ (strOfNums y154)) t136 y142 (wrap64 (x9_2 + 1))) else (none)) = some r := by first | (rw [hy154]; with_reducible exact H) | (have H2_ := (Option.bind_some _ _).symm.trans H; rw [hy154]; with_reducible exact H2_) | (have H2_ := (Option.bind_some _ _).symm.trans H; with_reducible exact H2_) | with_reducible exact H | (rw [hy154]; exact H) | exact H
                        have Ny154 := Aside0.mk hy154
                        clear hy154
                        by_cases c44 : x3_2.size + (strOfNums y154).size ≤ 9223372036854775807
                        · rw [if_pos c44] at H
                          have c44b0 := eq_true c44
                          have c44b1 : decide (x3_2.size + (strOfNums y154).size ≤ 9223372036854775807) = true := decide_eq_true c44
                          try have c44b2 : (9223372036854775807 < x3_2.size + (strOfNums y154).size) = False := eq_false (Nat.not_lt.2 c44)
                          have H' := Aside0.mk H
                          clear H
                          have p31 : 0 ≤ (x9_2 : Int) := of_decide_eq_true (by first | (with_reducible assumption) | assumption)
                          have q31 : x9_2 < (t136.size : Int) := of_decide_eq_true (by first | (with_reducible assumption) | assumption)
                          have hx31 := bt_at t136 x9_2
                          replace p31 := eq_true p31
                          replace q31 := eq_true q31
                          try have q31m := eq_true (by have z_ := of_eq_true q31; simp only [ByteArray.size_extract, Nat.sub_zero] at z_; exact z_)
                          obtain ⟨Ao45, co45, eo45⟩ := Kd.R_slice HO_8.out
                          subst eo45
                          have p153 : 0 ≤ (x9_2 : Int) := of_decide_eq_true (by first | (with_reducible assumption) | assumption)
                          have q153 : x9_2 < (y142.length : Int) := of_decide_eq_true (by first | (with_reducible assumption) | assumption)
                          obtain ⟨ad153, e153, hx153_0⟩ := Kd.at_int (Kd.R_reads' HO_8.out).2.2 x9_2 p153 q153
                          cases e153
                          replace p153 := eq_true p153
                          replace q153 := eq_true q153
                          try have q153m := eq_true (by have z_ := of_eq_true q153; simp only [ByteArray.size_extract, Nat.sub_zero] at z_; exact z_)
                          go_wp2_with (first | ((with_reducible refine gate_dst (N := 85) rfl ?_); refine Kd.R_lit (Kd.int .u8) _ 5 ?hg (N := 85) ?hd (xs := ([(Int.tmod (rd y142 x9_2) 256) % 256] : List Int)) (inner := [.int .u8 ((Int.tmod (rd y142 x9_2) 256) % 256)]) (ok := fun _ => True) (okp := fun _ => True) ?hr ?hp (fun _ hk => hk) trivial (Below.refl _ _) (Nat.le_refl _) (by simp) ?_; (case hd => rfl); (case hg => rfl); (case hr => first | (go_simp; done) | (go_simp; rfl)); (case hp => exact (Reps.one (show Kd.M (Kd.int .u8) _ _ _ ((Int.tmod (rd y142 x9_2) 256) % 256) [.int .u8 ((Int.tmod (rd y142 x9_2) 256) % 256)] from rfl) (Reps.none _ _))); intro v155 w46 ho47 hb hg_ hnew_; clear hg_ hnew_; (first | rw [← Ny154.out] at ho47 | (simp only [Int.reduceToNat] at ho47; rw [← Ny154.out] at ho47)); have n0_ := Aside0.mk (Kd.R_below (by (with_reducible repeat (first | apply Kd.R_alloc | apply Kd.R_drewN | apply Kd.R_drew)); exact HO_8.out) hb); have n1_ := Aside0.mk (Kd.R_lower ho47 (below_size (by repeat (first | (with_reducible first | exact HB.out | apply below_alloc | apply pw_below_drewN | apply below_drew1 | refine below_set ?_ GE128.out) | exact HB.out)))); have n2_ := Aside0.mk (blk_below (g := gb128) (o := .cells #[.int .i64 a0_0, .int .u64 a0_1, .int .u64 a0_2, .string a0_3, .string a0_4, .string a0_5, .string a0_6, .int .i64 a0_7, .int .i64 a0_8, .int .i64 a0_9] 24 (0, 0)) (by (with_reducible repeat (first | refine blk_drewN ?_ _ | refine blk_drew ?_ | refine blk_alloc ?_ _)); exact BK128.out) hb); have n3_ := Aside0.mk (below_step (by repeat (first | (with_reducible first | exact HB.out | apply below_alloc | apply pw_below_drewN | apply below_drew1 | refine below_set ?_ GE128.out) | exact HB.out)) hb); clear HO_8; clear BK128; clear HB; have HO_8 := n0_; have HO156 := n1_; have BK128 := n2_; have HB := n3_; clear n0_ n1_ n2_ n3_; clear hb ho47; have hcv48 := own_string (P := Tryd.prog) Tryd.underlying27 Tryd.underlying5 Tryd.underlying9 (Kd.own_of_R HO156.out); (try have hcv48d := fun n_ : Nat => own_string (P := Tryd.prog) Tryd.underlying27 Tryd.underlying5 Tryd.underlying9 (Kd.own_of_R (Kd.R_drewN HO156.out n_)))))
                          go_roundg k2
                          case measure => have := HK1.out; have := HK2.out; omega
                          case rel => exact ⟨(x3_2 ++ (strOfNums y154)), (wrap64 (x9_2 + 1)), (by first | rfl | (simp; done) | (simp [*]; done)), (by first | rfl | (simp; done) | (simp [*]; done)), H', ⟨by have := HK1.out; have := HK2.out; omega⟩, ⟨by (with_reducible repeat (first | apply Kd.R_alloc | apply Kd.R_drewN | apply Kd.R_drew)); exact HO_8.out⟩, ⟨by (with_reducible repeat (first | refine blk_drewN ?_ _ | refine blk_drew ?_ | refine blk_alloc ?_ _)); exact BK128.out⟩, ⟨by repeat (first | (with_reducible first | exact HB.out | apply below_alloc | apply pw_below_drewN | apply below_drew1 | refine below_set ?_ GE128.out) | exact HB.out)⟩⟩
                        · rw [if_neg c44] at H
                          exact absurd H (by simp)
                      · rw [if_neg c43] at H
                        exact absurd H (by simp)
                  · rw [if_neg c30] at H
                    exact absurd H (by simp)
                · rw [if_neg c29] at H
                  have c29b0 : decide (x9_2 < (t136.size : Int)) = false := decide_eq_false c29
                  clear c29
                  obtain rfl := Option.some.inj H
                  go_wp2
                  go_ret
                  exact ⟨by first | rfl | (simp [errW_none, errW_some] <;> rfl) | (simp [*, errW_none, errW_some] <;> rfl), by repeat (first | (with_reducible first | exact HB.out | apply below_alloc | apply pw_below_drewN | apply below_drew1 | refine below_set ?_ GE128.out) | exact HB.out)⟩
    · rw [if_neg c5] at H
      exact absurd H (by simp)
  · rw [if_neg c3] at H
    exact absurd H (by simp)

end Go.Proofs.YtmlhlcdamppbfaaDoor.Xa
namespace Go.Proofs.YtmlhlcdamppbfaaDoor.Xa
open Go.RowKit Go.Proofs.YtmlhlcdamppbfaaDoor.Ext Go.Proofs.YtmlhlcdamppbfaaDoorW.PrintWords Go.Proofs.YtmlhlcdamppbfaaDoorW.PrintLast Go.Proofs.YtmlhlcdamppbfaaDoorW.PrintMore
attribute [local go_sem] max2_int min2_int max_two min_two max_three min_three max_four min_four   -- for this text's walks alone
set_option linter.unusedVariables false
set_option linter.unusedSimpArgs false

/-! ### transeptref05_Encode: function 14 -/
def transeptref05_Encode.f (k : Nat) (a0_0 : Int) (a0_1 : Int) (a0_2 : Int) (a0_3 : ByteArray) (a0_4 : ByteArray) (a0_5 : ByteArray) (a0_6 : ByteArray) (a0_7 : Int) (a0_8 : Int) (a0_9 : Int) : Option (ByteArray × Int) := (transeptref05_Right.f k a0_0 a0_1 a0_2 a0_3 a0_4 a0_5 a0_6 a0_7 a0_8 a0_9).bind fun t158 => (if t158 = true then ((transeptref05_Write.f k a0_0 a0_1 a0_2 a0_3 a0_4 a0_5 a0_6 a0_7 a0_8 a0_9).bind fun t159 => (some (t159, 0))) else (some ((⟨#[]⟩ : ByteArray), 1)))
theorem transeptref05_Encode.mono : ∀ a0 a1 a2 a3 a4 a5 a6 a7 a8 a9 k, LeO (transeptref05_Encode.f k a0 a1 a2 a3 a4 a5 a6 a7 a8 a9) (transeptref05_Encode.f (k + 1) a0 a1 a2 a3 a4 a5 a6 a7 a8 a9) := by
  intro a0 a1 a2 a3 a4 a5 a6 a7 a8 a9 k
  unfold transeptref05_Encode.f
  repeat' first
      | (with_reducible exact transeptref05_Right.mono _ _ _ _ _ _ _ _ _ _ _)
      | (with_reducible exact transeptref05_Write.mono _ _ _ _ _ _ _ _ _ _ _)
      | (with_reducible exact LeO.refl _)
      | (with_reducible exact LeO.none _)
      | (with_reducible refine LeO.ite ?_ ?_)
      | (with_reducible refine LeO.bind ?_ (fun _ => ?_))
      | exact transeptref05_Right.mono _ _ _ _ _ _ _ _ _ _ _
      | exact transeptref05_Write.mono _ _ _ _ _ _ _ _ _ _ _
      | exact LeO.none _
      | refine LeO.ite ?_ ?_
      | refine LeO.bind ?_ (fun _ => ?_)
set_option maxHeartbeats 8000000 in
set_option maxRecDepth 100000 in
theorem transeptref05_Encode.calls (k : Nat) (a0_0 : Int) (a0_1 : Int) (a0_2 : Int) (a0_3 : ByteArray) (a0_4 : ByteArray) (a0_5 : ByteArray) (a0_6 : ByteArray) (a0_7 : Int) (a0_8 : Int) (a0_9 : Int) (r1 : ByteArray) (r2 : Int) (w : World) (h : transeptref05_Encode.f k a0_0 a0_1 a0_2 a0_3 a0_4 a0_5 a0_6 a0_7 a0_8 a0_9 = some (r1, r2)) :
    Calls Tryd.prog 14 #[.agg #[.int .i64 a0_0, .int .u64 a0_1, .int .u64 a0_2, .string a0_3, .string a0_4, .string a0_5, .string a0_6, .int .i64 a0_7, .int .i64 a0_8, .int .i64 a0_9]] w fun e w' => e = .returned (.tuple #[.string r1, .int .i64 r2]) ∧ Below w.heap.size w w' := by
  have hu24 := Tryd.underlying24
  have HB := Aside0.mk (Below.refl w.heap.size w)
  have H : ((transeptref05_Right.f k a0_0 a0_1 a0_2 a0_3 a0_4 a0_5 a0_6 a0_7 a0_8 a0_9).bind fun t158 => (if t158 = true then ((transeptref05_Write.f k a0_0 a0_1 a0_2 a0_3 a0_4 a0_5 a0_6 a0_7 a0_8 a0_9).bind fun t159 => (some (t159, 0))) else (some ((⟨#[]⟩ : ByteArray), 1)))) = some (r1, r2) := h
  clear h
  replace H := Option.bind_eq_some_iff.mp H
  obtain ⟨t158, A20, H⟩ := H
  replace H : (if t158 = true then ((transeptref05_Write.f k a0_0 a0_1 a0_2 a0_3 a0_4 a0_5 a0_6 a0_7 a0_8 a0_9).bind fun t159 => (some (t159, 0))) else (some ((⟨#[]⟩ : ByteArray), 1))) = some (r1, r2) := H
  have A2 := Aside0.mk A20
  clear A20
  by_cases c3 : t158 = true
  · subst c3
    have H1 : ((transeptref05_Write.f k a0_0 a0_1 a0_2 a0_3 a0_4 a0_5 a0_6 a0_7 a0_8 a0_9).bind fun t159 => (some (t159, 0))) = some (r1, r2) := by rw [if_pos rfl] at H; exact H
    clear H
    have H := H1
    clear H1
    replace H := Option.bind_eq_some_iff.mp H
    obtain ⟨t159, A40, H⟩ := H
    replace H : (some (t159, 0)) = some (r1, r2) := H
    have A4 := Aside0.mk A40
    clear A40
    simp only [Option.some.injEq, Prod.mk.injEq] at H
    obtain ⟨rfl, rfl⟩ := H
    go_enter Tryd.func14, Tryd.ntmps14
    go_wp2_with (first | ((with_reducible refine gate_dst (N := 1) rfl ?_); refine box_event ?hg (N := 1) ?hd (cs := #[.int .i64 a0_0, .int .u64 a0_1, .int .u64 a0_2, .string a0_3, .string a0_4, .string a0_5, .string a0_6, .int .i64 a0_7, .int .i64 a0_8, .int .i64 a0_9]) (t := 24) ?hr ?_; (case hd => rfl); (case hg => rfl); (case hr => first | (go_simp; done) | (go_simp; rfl)); intro gb157 hg w5 hbox hb; have n0_ := Aside0.mk (below_step (by repeat (first | (with_reducible first | exact HB.out | apply below_alloc | apply pw_below_drewN | apply below_drew1) | exact HB.out)) hb); have n1_ := Aside0.mk (hbox); have n2_ := Aside0.mk ((by rw [hg]; exact (below_size (by repeat (first | (with_reducible first | exact HB.out | apply below_alloc | apply pw_below_drewN | apply below_drew1) | exact HB.out))) : w.heap.size ≤ gb157)); have n3_ := Aside0.mk ((by rw [hg]; exact (below_size (by repeat (first | (with_reducible first | exact HB.out | apply below_alloc | apply pw_below_drewN | apply below_drew1) | exact HB.out))) : w.heap.size ≤ gb157)); clear HB; have HB := n0_; have BK157 := n1_; have GW157 := n2_; have GE157 := n3_; clear n0_ n1_ n2_ n3_; clear hb hbox hg; have hcz6_0 : w5.cell? ⟨gb157, 0, none⟩ = some (.int .i64 a0_0) := (blk_cell BK157.out 0).trans rfl; have hcz6_1 : w5.cell? ⟨gb157, 1, none⟩ = some (.int .u64 a0_1) := (blk_cell BK157.out 1).trans rfl; have hcz6_2 : w5.cell? ⟨gb157, 2, none⟩ = some (.int .u64 a0_2) := (blk_cell BK157.out 2).trans rfl; have hcz6_3 : w5.cell? ⟨gb157, 3, none⟩ = some (.string a0_3) := (blk_cell BK157.out 3).trans rfl; have hcz6_4 : w5.cell? ⟨gb157, 4, none⟩ = some (.string a0_4) := (blk_cell BK157.out 4).trans rfl; have hcz6_5 : w5.cell? ⟨gb157, 5, none⟩ = some (.string a0_5) := (blk_cell BK157.out 5).trans rfl; have hcz6_6 : w5.cell? ⟨gb157, 6, none⟩ = some (.string a0_6) := (blk_cell BK157.out 6).trans rfl; have hcz6_7 : w5.cell? ⟨gb157, 7, none⟩ = some (.int .i64 a0_7) := (blk_cell BK157.out 7).trans rfl; have hcz6_8 : w5.cell? ⟨gb157, 8, none⟩ = some (.int .i64 a0_8) := (blk_cell BK157.out 8).trans rfl; have hcz6_9 : w5.cell? ⟨gb157, 9, none⟩ = some (.int .i64 a0_9) := (blk_cell BK157.out 9).trans rfl; have hfz6_0 := blk_frozen BK157.out 0; have hfz6_1 := blk_frozen BK157.out 1; have hfz6_2 := blk_frozen BK157.out 2; have hfz6_3 := blk_frozen BK157.out 3; have hfz6_4 := blk_frozen BK157.out 4; have hfz6_5 := blk_frozen BK157.out 5; have hfz6_6 := blk_frozen BK157.out 6; have hfz6_7 := blk_frozen BK157.out 7; have hfz6_8 := blk_frozen BK157.out 8; have hfz6_9 := blk_frozen BK157.out 9) | ((with_reducible refine gate_callee (f := 16) rfl ?_); refine goesL_ (some 6) rfl rfl Tryd.func16 (by kernel_rfl) rfl #[.agg #[.int .i64 a0_0, .int .u64 a0_1, .int .u64 a0_2, .string a0_3, .string a0_4, .string a0_5, .string a0_6, .int .i64 a0_7, .int .i64 a0_8, .int .i64 a0_9]] rfl (by (try simp only [List.map_toArray, List.map_cons, List.map_nil]); first | done | rfl | (simp only [List.length_drop, List.length_take]; rfl)) ?_; (with_reducible refine (transeptref05_Right.calls k a0_0 a0_1 a0_2 a0_3 a0_4 a0_5 a0_6 a0_7 a0_8 a0_9 true _ A2.out).mono ?_); rintro e w7 ⟨rfl, hb⟩; refine ⟨_, rfl, ?_⟩; have n0_ := Aside0.mk (blk_below (g := gb157) (o := .cells #[.int .i64 a0_0, .int .u64 a0_1, .int .u64 a0_2, .string a0_3, .string a0_4, .string a0_5, .string a0_6, .int .i64 a0_7, .int .i64 a0_8, .int .i64 a0_9] 24 (0, 0)) (by (with_reducible repeat (first | refine blk_drewN ?_ _ | refine blk_drew ?_ | refine blk_alloc ?_ _)); exact BK157.out) hb); have n1_ := Aside0.mk (below_step (by repeat (first | (with_reducible first | exact HB.out | apply below_alloc | apply pw_below_drewN | apply below_drew1 | refine below_set ?_ GE157.out) | exact HB.out)) hb); clear BK157; clear HB; have BK157 := n0_; have HB := n1_; clear n0_ n1_; (try clear hb); (try clear hb2); (try clear hk); (try clear hi); have hcz8_0 : w7.cell? ⟨gb157, 0, none⟩ = some (.int .i64 a0_0) := (blk_cell BK157.out 0).trans rfl; have hcz8_1 : w7.cell? ⟨gb157, 1, none⟩ = some (.int .u64 a0_1) := (blk_cell BK157.out 1).trans rfl; have hcz8_2 : w7.cell? ⟨gb157, 2, none⟩ = some (.int .u64 a0_2) := (blk_cell BK157.out 2).trans rfl; have hcz8_3 : w7.cell? ⟨gb157, 3, none⟩ = some (.string a0_3) := (blk_cell BK157.out 3).trans rfl; have hcz8_4 : w7.cell? ⟨gb157, 4, none⟩ = some (.string a0_4) := (blk_cell BK157.out 4).trans rfl; have hcz8_5 : w7.cell? ⟨gb157, 5, none⟩ = some (.string a0_5) := (blk_cell BK157.out 5).trans rfl; have hcz8_6 : w7.cell? ⟨gb157, 6, none⟩ = some (.string a0_6) := (blk_cell BK157.out 6).trans rfl; have hcz8_7 : w7.cell? ⟨gb157, 7, none⟩ = some (.int .i64 a0_7) := (blk_cell BK157.out 7).trans rfl; have hcz8_8 : w7.cell? ⟨gb157, 8, none⟩ = some (.int .i64 a0_8) := (blk_cell BK157.out 8).trans rfl; have hcz8_9 : w7.cell? ⟨gb157, 9, none⟩ = some (.int .i64 a0_9) := (blk_cell BK157.out 9).trans rfl; have hfz8_0 := blk_frozen BK157.out 0; have hfz8_1 := blk_frozen BK157.out 1; have hfz8_2 := blk_frozen BK157.out 2; have hfz8_3 := blk_frozen BK157.out 3; have hfz8_4 := blk_frozen BK157.out 4; have hfz8_5 := blk_frozen BK157.out 5; have hfz8_6 := blk_frozen BK157.out 6; have hfz8_7 := blk_frozen BK157.out 7; have hfz8_8 := blk_frozen BK157.out 8; have hfz8_9 := blk_frozen BK157.out 9) | ((with_reducible refine gate_callee (f := 24) rfl ?_); refine goesL_ (some 10) rfl rfl Tryd.func24 (by kernel_rfl) rfl #[.agg #[.int .i64 a0_0, .int .u64 a0_1, .int .u64 a0_2, .string a0_3, .string a0_4, .string a0_5, .string a0_6, .int .i64 a0_7, .int .i64 a0_8, .int .i64 a0_9]] rfl (by (try simp only [List.map_toArray, List.map_cons, List.map_nil]); first | done | rfl | (simp only [List.length_drop, List.length_take]; rfl)) ?_; (with_reducible refine (transeptref05_Write.calls k a0_0 a0_1 a0_2 a0_3 a0_4 a0_5 a0_6 a0_7 a0_8 a0_9 t159 _ A4.out).mono ?_); rintro e w9 ⟨rfl, hb⟩; refine ⟨_, rfl, ?_⟩; have n0_ := Aside0.mk (blk_below (g := gb157) (o := .cells #[.int .i64 a0_0, .int .u64 a0_1, .int .u64 a0_2, .string a0_3, .string a0_4, .string a0_5, .string a0_6, .int .i64 a0_7, .int .i64 a0_8, .int .i64 a0_9] 24 (0, 0)) (by (with_reducible repeat (first | refine blk_drewN ?_ _ | refine blk_drew ?_ | refine blk_alloc ?_ _)); exact BK157.out) hb); have n1_ := Aside0.mk (below_step (by repeat (first | (with_reducible first | exact HB.out | apply below_alloc | apply pw_below_drewN | apply below_drew1 | refine below_set ?_ GE157.out) | exact HB.out)) hb); clear BK157; clear HB; have BK157 := n0_; have HB := n1_; clear n0_ n1_; (try clear hb); (try clear hb2); (try clear hk); (try clear hi)))
    go_ret2
    exact ⟨by first | rfl | (simp [errW_none, errW_some] <;> rfl) | (simp [*, errW_none, errW_some] <;> rfl), by repeat (first | (with_reducible first | exact HB.out | apply below_alloc | apply pw_below_drewN | apply below_drew1 | refine below_set ?_ GE157.out) | exact HB.out)⟩
  · replace c3 := Bool.eq_false_iff.mpr c3
    subst c3
    have H1 : (some ((⟨#[]⟩ : ByteArray), 1)) = some (r1, r2) := by rw [if_neg (show ¬ (false = true) by decide)] at H; exact H
    clear H
    have H := H1
    clear H1
    simp only [Option.some.injEq, Prod.mk.injEq] at H
    obtain ⟨rfl, rfl⟩ := H
    go_enter Tryd.func14, Tryd.ntmps14
    go_wp2_with (first | ((with_reducible refine gate_dst (N := 1) rfl ?_); refine box_event ?hg (N := 1) ?hd (cs := #[.int .i64 a0_0, .int .u64 a0_1, .int .u64 a0_2, .string a0_3, .string a0_4, .string a0_5, .string a0_6, .int .i64 a0_7, .int .i64 a0_8, .int .i64 a0_9]) (t := 24) ?hr ?_; (case hd => rfl); (case hg => rfl); (case hr => first | (go_simp; done) | (go_simp; rfl)); intro gb157 hg w10 hbox hb; have n0_ := Aside0.mk (below_step (by repeat (first | (with_reducible first | exact HB.out | apply below_alloc | apply pw_below_drewN | apply below_drew1) | exact HB.out)) hb); have n1_ := Aside0.mk (hbox); have n2_ := Aside0.mk ((by rw [hg]; exact (below_size (by repeat (first | (with_reducible first | exact HB.out | apply below_alloc | apply pw_below_drewN | apply below_drew1) | exact HB.out))) : w.heap.size ≤ gb157)); have n3_ := Aside0.mk ((by rw [hg]; exact (below_size (by repeat (first | (with_reducible first | exact HB.out | apply below_alloc | apply pw_below_drewN | apply below_drew1) | exact HB.out))) : w.heap.size ≤ gb157)); clear HB; have HB := n0_; have BK157 := n1_; have GW157 := n2_; have GE157 := n3_; clear n0_ n1_ n2_ n3_; clear hb hbox hg; have hcz11_0 : w10.cell? ⟨gb157, 0, none⟩ = some (.int .i64 a0_0) := (blk_cell BK157.out 0).trans rfl; have hcz11_1 : w10.cell? ⟨gb157, 1, none⟩ = some (.int .u64 a0_1) := (blk_cell BK157.out 1).trans rfl; have hcz11_2 : w10.cell? ⟨gb157, 2, none⟩ = some (.int .u64 a0_2) := (blk_cell BK157.out 2).trans rfl; have hcz11_3 : w10.cell? ⟨gb157, 3, none⟩ = some (.string a0_3) := (blk_cell BK157.out 3).trans rfl; have hcz11_4 : w10.cell? ⟨gb157, 4, none⟩ = some (.string a0_4) := (blk_cell BK157.out 4).trans rfl; have hcz11_5 : w10.cell? ⟨gb157, 5, none⟩ = some (.string a0_5) := (blk_cell BK157.out 5).trans rfl; have hcz11_6 : w10.cell? ⟨gb157, 6, none⟩ = some (.string a0_6) := (blk_cell BK157.out 6).trans rfl; have hcz11_7 : w10.cell? ⟨gb157, 7, none⟩ = some (.int .i64 a0_7) := (blk_cell BK157.out 7).trans rfl; have hcz11_8 : w10.cell? ⟨gb157, 8, none⟩ = some (.int .i64 a0_8) := (blk_cell BK157.out 8).trans rfl; have hcz11_9 : w10.cell? ⟨gb157, 9, none⟩ = some (.int .i64 a0_9) := (blk_cell BK157.out 9).trans rfl; have hfz11_0 := blk_frozen BK157.out 0; have hfz11_1 := blk_frozen BK157.out 1; have hfz11_2 := blk_frozen BK157.out 2; have hfz11_3 := blk_frozen BK157.out 3; have hfz11_4 := blk_frozen BK157.out 4; have hfz11_5 := blk_frozen BK157.out 5; have hfz11_6 := blk_frozen BK157.out 6; have hfz11_7 := blk_frozen BK157.out 7; have hfz11_8 := blk_frozen BK157.out 8; have hfz11_9 := blk_frozen BK157.out 9) | ((with_reducible refine gate_callee (f := 16) rfl ?_); refine goesL_ (some 6) rfl rfl Tryd.func16 (by kernel_rfl) rfl #[.agg #[.int .i64 a0_0, .int .u64 a0_1, .int .u64 a0_2, .string a0_3, .string a0_4, .string a0_5, .string a0_6, .int .i64 a0_7, .int .i64 a0_8, .int .i64 a0_9]] rfl (by (try simp only [List.map_toArray, List.map_cons, List.map_nil]); first | done | rfl | (simp only [List.length_drop, List.length_take]; rfl)) ?_; (with_reducible refine (transeptref05_Right.calls k a0_0 a0_1 a0_2 a0_3 a0_4 a0_5 a0_6 a0_7 a0_8 a0_9 false _ A2.out).mono ?_); rintro e w12 ⟨rfl, hb⟩; refine ⟨_, rfl, ?_⟩; have n0_ := Aside0.mk (blk_below (g := gb157) (o := .cells #[.int .i64 a0_0, .int .u64 a0_1, .int .u64 a0_2, .string a0_3, .string a0_4, .string a0_5, .string a0_6, .int .i64 a0_7, .int .i64 a0_8, .int .i64 a0_9] 24 (0, 0)) (by (with_reducible repeat (first | refine blk_drewN ?_ _ | refine blk_drew ?_ | refine blk_alloc ?_ _)); exact BK157.out) hb); have n1_ := Aside0.mk (below_step (by repeat (first | (with_reducible first | exact HB.out | apply below_alloc | apply pw_below_drewN | apply below_drew1 | refine below_set ?_ GE157.out) | exact HB.out)) hb); clear BK157; clear HB; have BK157 := n0_; have HB := n1_; clear n0_ n1_; (try clear hb); (try clear hb2); (try clear hk); (try clear hi)))
    go_ret2
    exact ⟨by first | rfl | (simp [errW_none, errW_some] <;> rfl) | (simp [*, errW_none, errW_some] <;> rfl), by repeat (first | (with_reducible first | exact HB.out | apply below_alloc | apply pw_below_drewN | apply below_drew1 | refine below_set ?_ GE157.out) | exact HB.out)⟩

end Go.Proofs.YtmlhlcdamppbfaaDoor.Xa
