/- The contracts of event.Right, Encode and Decode, in the print's shape. -/
import Derived.Test.YtmlhlcdamppbfaaDoorEvE
import Derived.Lib.SlBytesConst
namespace Go.Proofs.YtmlhlcdamppbfaaDoor.Ext
open Go.RowKit Go.Proofs.YtmlhlcdamppbfaaDoorW.PrintWords Go.Proofs.YtmlhlcdamppbfaaDoorW.PrintLast Go.Proofs.YtmlhlcdamppbfaaDoorW.PrintMore
set_option linter.unusedVariables false
def event_Right.f (a0 a1 a2 : Int) (a3 a4 a5 a6 : ByteArray) (a7 a8 a9 : Int) : Option Bool := some (rightF a0 a2 a3 a4 a5 a6 a7 a8 a9)
theorem event_Right.calls (a0 a1 a2 : Int) (a3 a4 a5 a6 : ByteArray) (a7 a8 a9 : Int) (r : Bool) (w : World) (hG : Glob w) (h : event_Right.f a0 a1 a2 a3 a4 a5 a6 a7 a8 a9 = some r) :
    Calls Tryd.prog 15 #[.agg #[.int .i64 a0, .int .u64 a1, .int .u64 a2, .string a3, .string a4, .string a5, .string a6, .int .i64 a7, .int .i64 a8, .int .i64 a9]] w fun e w' => e = .returned (.bool r) ∧ Below w.heap.size w w' := by
  obtain rfl := Option.some.inj h
  exact right_calls a0 a1 a2 a3 a4 a5 a6 a7 a8 a9 w hG
def event_Encode.f (a0 a1 a2 : Int) (a3 a4 a5 a6 : ByteArray) (a7 a8 a9 : Int) : Option (List Int × Int) :=
  if 0 ≤ a1 ∧ a1 < 18446744073709551616 ∧ 0 ≤ a2 ∧ a2 < 18446744073709551616 then
    some (if rightF a0 a2 a3 a4 a5 a6 a7 a8 a9 then encF a0 a1 a2 a3 a4 a5 a6 a7 a8 a9 else [], if rightF a0 a2 a3 a4 a5 a6 a7 a8 a9 then 0 else 1)
  else none
theorem event_Encode.calls (a0 a1 a2 : Int) (a3 a4 a5 a6 : ByteArray) (a7 a8 a9 : Int) (r1 : List Int) (r2 : Int) (w : World) (hG : Glob w) (h : event_Encode.f a0 a1 a2 a3 a4 a5 a6 a7 a8 a9 = some (r1, r2)) :
    Calls Tryd.prog 13 #[.agg #[.int .i64 a0, .int .u64 a1, .int .u64 a2, .string a3, .string a4, .string a5, .string a6, .int .i64 a7, .int .i64 a8, .int .i64 a9]] w fun e w' => ∃ v0_, e = .returned (.tuple #[v0_, .int .i64 r2]) ∧ Kd.R (Kd.int .u8) 5 w' w.heap.size (fun _ => True) v0_ r1 ∧ Below w.heap.size w w' := by
  unfold event_Encode.f at h
  split at h
  · rename_i hb
    obtain ⟨h1, h2, h3, h4⟩ := hb
    have h5 := Option.some.inj h
    obtain ⟨h6, h7⟩ := Prod.mk.inj h5
    rw [← h6, ← h7]
    exact encode_calls a0 a1 a2 a3 a4 a5 a6 a7 a8 a9 w hG h1 h2 h3 h4
  · simp at h
/-- An event and where it ends, side by side. -/
def flat (x : Ev × Int × Int) : Int × Int × Int × ByteArray × ByteArray × ByteArray × ByteArray × Int × Int × Int × Int × Int :=
  (x.1.1, x.1.2.1, x.1.2.2.1, x.1.2.2.2.1, x.1.2.2.2.2.1, x.1.2.2.2.2.2.1, x.1.2.2.2.2.2.2.1, x.1.2.2.2.2.2.2.2.1, x.1.2.2.2.2.2.2.2.2.1, x.1.2.2.2.2.2.2.2.2.2, x.2.1, x.2.2)
def event_Decode.f (l0 : List Int) : Option (Int × Int × Int × ByteArray × ByteArray × ByteArray × ByteArray × Int × Int × Int × Int × Int) :=
  if l0.all (fun x => decide (0 ≤ x) && decide (x < 256)) && decide (l0.length ≤ 140737488355328) then some (flat (decF l0)) else none
theorem event_Decode.calls (A0 : Option Addr) (c0 : Nat) (l0 : List Int) (r0 r1 r2 : Int) (r3 r4 r5 r6 : ByteArray) (r7 r8 r9 r10 r11 : Int) (w : World) (hG : Glob w) (hr0 : Kd.C (Kd.int .u8) w A0 l0.length l0) (hc0 : l0.length ≤ c0) (h : event_Decode.f l0 = some (r0, r1, r2, r3, r4, r5, r6, r7, r8, r9, r10, r11)) :
    Calls Tryd.prog 17 #[.slice A0 l0.length c0] w fun e w' => e = .returned (.tuple #[.agg #[.int .i64 r0, .int .u64 r1, .int .u64 r2, .string r3, .string r4, .string r5, .string r6, .int .i64 r7, .int .i64 r8, .int .i64 r9], .int .i64 r10, .int .i64 r11]) ∧ Below w.heap.size w w' := by
  unfold event_Decode.f at h
  split at h
  · rename_i hb
    simp only [Bool.and_eq_true, List.all_eq_true, decide_eq_true_eq] at hb
    have h5 := Option.some.inj h
    have hd := decode_calls l0 hb.1 hb.2 hG hr0 hc0
    rw [dec_is hb.1, stop_is hb.1] at hd
    simp only [flat, Prod.mk.injEq] at h5
    obtain ⟨e0, e1, e2, e3, e4, e5, e6, e7, e8, e9, e10, e11⟩ := h5
    rw [← e0, ← e1, ← e2, ← e3, ← e4, ← e5, ← e6, ← e7, ← e8, ← e9, ← e10, ← e11]
    exact hd
  · simp at h
theorem decode_f {l : List Int} (hl : Bytes l) (hn : l.length ≤ 140737488355328) : event_Decode.f l = some (flat (decF l)) := by
  unfold event_Decode.f
  rw [if_pos]
  simp only [Bool.and_eq_true, List.all_eq_true, decide_eq_true_eq]
  exact ⟨hl, hn⟩
end Go.Proofs.YtmlhlcdamppbfaaDoor.Ext
namespace Go.Proofs.YtmlhlcdamppbfaaDoor.Ext
open Go.RowKit Go.Proofs.YtmlhlcdamppbfaaDoorW.PrintWords Go.Proofs.YtmlhlcdamppbfaaDoorW.PrintLast Go.Proofs.YtmlhlcdamppbfaaDoorW.PrintMore
set_option linter.unusedVariables false
theorem shown_e : event_Encode.f 8 7 1 E0 E0 E0 E0 0 0 0 = some ([8, 7, 1], 0) := by
  have h : rightF 8 1 E0 E0 E0 E0 0 0 0 = true := by decide +kernel
  unfold event_Encode.f
  rw [if_pos (by omega), h]
  have p7 : put 7 = [7] := put_small (by omega)
  have p1 : put 1 = [1] := put_small (by omega)
  have t0 : T0 8 = 0 := by decide +kernel
  have n0 : TN 8 0 = 0 := by decide +kernel
  have n1 : TN 8 1 = 0 := by decide +kernel
  have n2 : TN 8 2 = 0 := by decide +kernel
  simp [encF, headB, p7, p1, t0, n0, n1, n2, textsB, numB]
theorem shown_d1 : event_Decode.f [10, 0, 1, 3, 231] = some (10, 0, 1, E0, E0, E0, E0, 999, 0, 0, 5, 0) := by kernel_rfl
theorem shown_d2 : event_Decode.f [10, 0, 1, 3, 232] = some (0, 0, 0, E0, E0, E0, E0, 0, 0, 0, 4, 3) := by kernel_rfl
theorem shown_d3 : event_Decode.f [8, 7, 1, 0] = some (0, 0, 0, E0, E0, E0, E0, 0, 0, 0, 3, 8) := by kernel_rfl
theorem shown_r : event_Right.f 10 0 1 E0 E0 E0 E0 999 0 0 = some true := by decide +kernel
/-- A row of constant bytes that was just laid reads so. -/
theorem reads_lit (w : World) (xs : List Int) (fr : Nat × Nat) (h : xs.length ≤ 9223372036854775807) : Kd.C (Kd.int .u8) (w.alloc (.cells (nums .u8 xs).toArray 5 fr)) (some ⟨w.heap.size, 0, none⟩) xs.length xs := by
  refine Kd.C_of_reads (d := (0 : Int)) (h1 := fun _ => rfl) ⟨rfl, h, fun hn => ⟨_, rfl, fun j hj => ?_⟩⟩
  rw [add_plain, cell_of_row _ _ _ _ _ _ (heap_alloc_new w _)]
  simp [nums, List.getElem?_eq_getElem hj, List.getD_eq_getElem?_getD]
set_option maxHeartbeats 2000000 in
set_option maxRecDepth 100000 in
theorem shown_calls (w : World) (hG : Glob w) : Calls Tryd.prog 11 #[] w fun e w' => e = .returned (.bool true) ∧ Below w.heap.size w w' := by
  have HG := Aside0.mk hG
  clear hG
  go_enter Tryd.func11, Tryd.ntmps11
  go_wp2_with (fail)
  refine (event_Encode.calls 8 7 1 E0 E0 E0 E0 0 0 0 _ _ w HG.out shown_e).mono ?_
  rintro e w1 ⟨v0, rfl, HR, hb⟩
  have HB1 := Aside0.mk hb
  have HR1 := Aside0.mk HR
  clear hb HR
  go_wp2_with (fail)
  refine (event_Decode.calls (some ⟨w1.heap.size, 0, none⟩) 5 [10, 0, 1, 3, 231] _ _ _ _ _ _ _ _ _ _ _ _ _ ((HG.out.below HB1.out).alloc _) (reads_lit w1 [10, 0, 1, 3, 231] (0, 0) (by decide)) (by decide) shown_d1).mono ?_
  rintro e w2 ⟨rfl, hd⟩
  have HB2 := Aside0.mk (below_step (below_alloc HB1.out _) hd)
  have HR2 := Aside0.mk (Kd.R_below (Kd.R_alloc HR1.out _) hd)
  clear hd
  go_wp2_with (fail)
  obtain ⟨g, hg⟩ : ∃ g, g = w2.heap.size := ⟨_, rfl⟩
  obtain ⟨W2, hW2⟩ : ∃ W, W = w2.alloc (Obj.cells #[Value.int IntKind.i64 10, Value.int IntKind.u64 0, Value.int IntKind.u64 1, Value.string E0, Value.string E0, Value.string E0, Value.string E0, Value.int IntKind.i64 999, Value.int IntKind.i64 0, Value.int IntKind.i64 0] 24) := ⟨_, rfl⟩
  have hs2 : w2.heap.size + 1 = W2.heap.size := by rw [hW2]; simp
  rw [← hW2, hs2, ← hg]
  have BK2 := Aside0.mk (show W2.heap[g]? = some (.cells #[Value.int IntKind.i64 10, Value.int IntKind.u64 0, Value.int IntKind.u64 1, Value.string E0, Value.string E0, Value.string E0, Value.string E0, Value.int IntKind.i64 999, Value.int IntKind.i64 0, Value.int IntKind.i64 0] 24 (0, 0)) by rw [hW2, hg]; exact blk_new _ _)
  have HB3 := Aside0.mk (show Below w.heap.size w W2 by rw [hW2]; exact below_alloc HB2.out _)
  have HR3 := Aside0.mk (show (Kd.int IntKind.u8).R 5 W2 w.heap.size (fun x => True) v0 [8, 7, 1] by rw [hW2]; exact Kd.R_alloc HR2.out _)
  clear hW2 hs2 HB2 HR2 hg HB1 HR1
  refine (event_Decode.calls (some ⟨W2.heap.size, 0, none⟩) 5 [10, 0, 1, 3, 232] _ _ _ _ _ _ _ _ _ _ _ _ _ ((HG.out.below HB3.out).alloc _) (reads_lit W2 [10, 0, 1, 3, 232] (0, 0) (by decide)) (by decide) shown_d2).mono ?_
  rintro e w4 ⟨rfl, hd⟩
  have HB4 := Aside0.mk (below_step (below_alloc HB3.out _) hd)
  have HR4 := Aside0.mk (Kd.R_below (Kd.R_alloc HR3.out _) hd)
  have BK4 := Aside0.mk (blk_below (blk_alloc BK2.out _) hd)
  clear hd HB3 HR3 BK2
  go_wp2_with (fail)
  obtain ⟨W4, hW4⟩ : ∃ W, W = w4.alloc (Obj.cells #[Value.int IntKind.i64 0, Value.int IntKind.u64 0, Value.int IntKind.u64 0, Value.string E0, Value.string E0, Value.string E0, Value.string E0, Value.int IntKind.i64 0, Value.int IntKind.i64 0, Value.int IntKind.i64 0] 24) := ⟨_, rfl⟩
  have hs4 : w4.heap.size + 1 = W4.heap.size := by rw [hW4]; simp
  rw [← hW4, hs4]
  have BK5 := Aside0.mk (show W4.heap[g]? = some (.cells #[Value.int IntKind.i64 10, Value.int IntKind.u64 0, Value.int IntKind.u64 1, Value.string E0, Value.string E0, Value.string E0, Value.string E0, Value.int IntKind.i64 999, Value.int IntKind.i64 0, Value.int IntKind.i64 0] 24 (0, 0)) by rw [hW4]; exact blk_alloc BK4.out _)
  have HB5 := Aside0.mk (show Below w.heap.size w W4 by rw [hW4]; exact below_alloc HB4.out _)
  have HR5 := Aside0.mk (show (Kd.int IntKind.u8).R 5 W4 w.heap.size (fun x => True) v0 [8, 7, 1] by rw [hW4]; exact Kd.R_alloc HR4.out _)
  clear hW4 hs4 HB4 HR4 BK4
  refine (event_Decode.calls (some ⟨W4.heap.size, 0, none⟩) 4 [8, 7, 1, 0] _ _ _ _ _ _ _ _ _ _ _ _ _ ((HG.out.below HB5.out).alloc _) (reads_lit W4 [8, 7, 1, 0] (0, 0) (by decide)) (by decide) shown_d3).mono ?_
  rintro e w6 ⟨rfl, hd⟩
  have HB6 := Aside0.mk (below_step (below_alloc HB5.out _) hd)
  have HR6 := Aside0.mk (Kd.R_below (Kd.R_alloc HR5.out _) hd)
  have BK6 := Aside0.mk (blk_below (blk_alloc BK5.out _) hd)
  clear hd HB5 HR5 BK5
  obtain ⟨A0, c0, hv, _, _⟩ := Kd.R_reads HR6.out
  subst hv
  obtain ⟨W6, hW6⟩ : ∃ W, W = w6.alloc (Obj.cells #[Value.int IntKind.i64 0, Value.int IntKind.u64 0, Value.int IntKind.u64 0, Value.string E0, Value.string E0, Value.string E0, Value.string E0, Value.int IntKind.i64 0, Value.int IntKind.i64 0, Value.int IntKind.i64 0] 24) := ⟨_, rfl⟩
  have BK7 := Aside0.mk (show W6.heap[g]? = some (.cells #[Value.int IntKind.i64 10, Value.int IntKind.u64 0, Value.int IntKind.u64 1, Value.string E0, Value.string E0, Value.string E0, Value.string E0, Value.int IntKind.i64 999, Value.int IntKind.i64 0, Value.int IntKind.i64 0] 24 (0, 0)) by rw [hW6]; exact blk_alloc BK6.out _)
  have HB7 := Aside0.mk (show Below w.heap.size w W6 by rw [hW6]; exact below_alloc HB6.out _)
  have hcv := Kd.C_string (P := Tryd.prog) (A := A0) (c := c0) Tryd.underlying27 Tryd.underlying5 Tryd.underlying9 (Kd.R_reads' (Kd.R_alloc (o := Obj.cells #[Value.int IntKind.i64 0, Value.int IntKind.u64 0, Value.int IntKind.u64 0, Value.string E0, Value.string E0, Value.string E0, Value.string E0, Value.int IntKind.i64 0, Value.int IntKind.i64 0, Value.int IntKind.i64 0] 24) HR6.out)).2.2
  rw [← hW6] at hcv
  rw [show strOfNums [8, 7, 1] = ⟨#[8, 7, 1]⟩ from by decide +kernel] at hcv
  have HCV := Aside0.mk hcv
  clear HB6 HR6 BK6 hcv
  have k0 : W6.cell? ⟨g, 0, none⟩ = some (.int .i64 10) := blk_cell BK7.out 0
  have k1 : W6.cell? ⟨g, 1, none⟩ = some (.int .u64 0) := blk_cell BK7.out 1
  have k2 : W6.cell? ⟨g, 2, none⟩ = some (.int .u64 1) := blk_cell BK7.out 2
  have k3 : W6.cell? ⟨g, 3, none⟩ = some (.string E0) := blk_cell BK7.out 3
  have k4 : W6.cell? ⟨g, 4, none⟩ = some (.string E0) := blk_cell BK7.out 4
  have k5 : W6.cell? ⟨g, 5, none⟩ = some (.string E0) := blk_cell BK7.out 5
  have k6 : W6.cell? ⟨g, 6, none⟩ = some (.string E0) := blk_cell BK7.out 6
  have k7 : W6.cell? ⟨g, 7, none⟩ = some (.int .i64 999) := blk_cell BK7.out 7
  have k8 : W6.cell? ⟨g, 8, none⟩ = some (.int .i64 0) := blk_cell BK7.out 8
  have k9 : W6.cell? ⟨g, 9, none⟩ = some (.int .i64 0) := blk_cell BK7.out 9
  rw [hW6] at k0 k1 k2 k3 k4 k5 k6 k7 k8 k9 HCV HB7
  have hcv := HCV.out
  simp only [List.length_cons, List.length_nil, Nat.reduceAdd, Nat.zero_add] at hcv
  clear hW6 BK7 HCV
  go_wp2_with (fail)
  refine (event_Right.calls 10 0 1 E0 E0 E0 E0 999 0 0 _ _ (HG.out.below HB7.out) shown_r).mono ?_
  rintro e w8 ⟨rfl, hd⟩
  have HB8 := Aside0.mk (below_step HB7.out hd)
  clear hd HB7 hcv k0 k1 k2 k3 k4 k5 k6 k7 k8 k9
  go_wp2
  go_ret
  exact ⟨rfl, HB8.out⟩
def transeptlaw05_shown.f : Option Bool := some true
theorem transeptlaw05_shown.calls (r : Bool) (w : World) (hG : Glob w) (h : transeptlaw05_shown.f = some r) : Calls Tryd.prog 11 #[] w fun e w' => e = .returned (.bool r) ∧ Below w.heap.size w w' := by
  obtain rfl := Option.some.inj h
  exact shown_calls w hG
end Go.Proofs.YtmlhlcdamppbfaaDoor.Ext
