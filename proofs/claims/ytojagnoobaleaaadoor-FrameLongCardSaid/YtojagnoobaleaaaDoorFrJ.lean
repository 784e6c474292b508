/- number.Put over a constant row, and frame.Join: contracts by hand. -/
import Derived.Test.YtojagnoobaleaaaDoorFrS
import Derived.Test.YtojagnoobaleaaaDoorXpm
import Derived.Test.YtojagnoobaleaaaDoorXpx0
namespace Go.Proofs.YtojagnoobaleaaaDoor.Ext
open Go.RowKit Go.Proofs.YtojagnoobaleaaaDoor.Xp Go.Proofs.YtojagnoobaleaaaDoorW.PrintWords Go.Proofs.YtojagnoobaleaaaDoorW.PrintLast Go.Proofs.YtojagnoobaleaaaDoorW.PrintMore
set_option linter.unusedVariables false
set_option linter.unusedSimpArgs false
attribute [local go_sem] max2_int min2_int max_two min_two
/-- A row of the call's own; or one that was made of a constant, full. -/
def JR (W : World) (base : Nat) (v : Value) (l : List Int) : Prop := Kd.R (Kd.int .u8) 5 W base (fun _ => True) v l ∨
  ∃ g, v = .slice (some ⟨g, 0, none⟩) l.length l.length ∧ base ≤ g ∧ 0 < l.length ∧ l.length ≤ 4 ∧ W.heap[g]? = some (.cells (nums .u8 l).toArray 5 (l.length, l.length + 1))
theorem JR.slice {W : World} {base : Nat} {v : Value} {l : List Int} (h : JR W base v l) : ∃ A c, v = .slice A l.length c := by
  rcases h with h | ⟨g, rfl, _⟩
  · exact Kd.R_slice h
  · exact ⟨_, _, rfl⟩
theorem JR.below {W W' : World} {base : Nat} {v : Value} {l : List Int} (h : JR W base v l) (hb : Below W.heap.size W W') : JR W' base v l := by
  rcases h with h | ⟨g, h1, h2, h3, h4, h5⟩
  · exact .inl (Kd.R_below h hb)
  · exact .inr ⟨g, h1, h2, h3, h4, blk_below h5 hb⟩
theorem JR.alloc {W : World} {base : Nat} {v : Value} {l : List Int} (h : JR W base v l) (o : Obj) : JR (W.alloc o) base v l := h.below (below_alloc (Below.refl _ _) o)
theorem JR.reads {W : World} {base : Nat} {v : Value} {l : List Int} (h : JR W base v l) : ∃ A c, v = .slice A l.length c ∧ l.length ≤ c ∧ Kd.C (Kd.int .u8) W A l.length l := by
  rcases h with h | ⟨g, rfl, h2, h3, h4, h5⟩
  · exact Kd.R_reads h
  · refine ⟨_, _, rfl, Nat.le_refl _, Kd.C_of_reads (d := (0 : Int)) (h1 := fun _ => rfl) ⟨rfl, by omega, fun hn => ⟨_, rfl, fun j hj => ?_⟩⟩⟩
    rw [add_plain, cell_of_row _ _ _ _ _ _ h5]
    simp [nums, List.getElem?_eq_getElem hj, List.getD_eq_getElem?_getD]
section
variable {ops : Array Oper} {rest : List Oper} {o : Oper} {a : Act} {Q : Exit → Act → World → Prop}
/-- append(v, x). -/
theorem JR.append1 {w0 W : World} (base : Nat) (hgd : o.guard = none) (s x : Operand) (ho : o.op = .call { callee := .builtin .append, args := #[s, x], argTypes := #[22, 22] }) (v : Value) (xs : List Int) (p : Int)
    (hs : a.eval s = v) (hx : a.eval x = .slice (some ⟨W.heap.size, 0, none⟩) 1 1) (HO : JR W base v xs) (HB : Below base w0 W) (hbase : base ≤ W.heap.size) (hl : xs.length + 1 ≤ 140737488355328)
    (h : ∀ v1 w1, Kd.R (Kd.int .u8) 5 w1 base (fun _ => True) v1 (xs ++ [p]) → Below base w0 w1 → wpList Tryd.prog ops Q rest (a.put o.dst v1) w1) :
    wpList Tryd.prog ops Q (o :: rest) a (W.alloc (.cells #[.int .u8 p] 5)) := by
  rcases HO with HO | ⟨g, rfl, h2, h3, h4, h5⟩
  · exact Kd.R_append (Kd.int .u8) (w0 := w0) base hgd s x 22 5 (.int .u8 0) 1 ho Tryd.underlying22 info5 rfl (by decide) (by omega) v xs p [.int .u8 p] (fun _ => True) (fun _ => False) hs hx rfl (fun _ hk => hk.elim) (fun _ _ => trivial) HO HB hbase (by omega) (fun v1 w1 h1 h2 _ _ => h v1 w1 h1 h2)
  · obtain ⟨i0, hi, hz0, hz1, hz2⟩ := info_parts info5
    obtain ⟨v1, w1, hr, hown, hg⟩ := run_append_arg_grows (P := Tryd.prog) (W.alloc (.cells #[.int .u8 p] 5)) 22 o.type 5 i0 (.int .u8 0) 1 1 Tryd.underlying22 hi hz0 hz1 hz2 rfl (by decide) ⟨g, 0, none⟩ xs.length xs.length (nums .u8 xs) (by simp [nums])
      (fun j u hu => by rw [add_plain, cell_of_row _ _ _ _ _ _ (blk_alloc h5 _)]; simpa using hu) ⟨W.heap.size, 0, none⟩ 1 1 [.int .u8 p] rfl (fun j u hu => by rw [add_plain, cell_of_row _ _ _ _ _ _ (blk_new W _)]; simpa using hu) (by omega) (by simp only [maxLen]; omega) (by omega)
    have hR : Kd.R (Kd.int .u8) 5 w1 base (fun _ => True) v1 (xs ++ [p]) := Kd.R_lower (Kd.R_of_own (h1 := fun _ => rfl) (by rw [List.length_append, List.length_singleton, show encs (Value.int .u8) (xs ++ [p]) = nums .u8 xs ++ [.int .u8 p] from by simp [encs, nums]]; exact hown) (fun _ _ => trivial)) (by simp; omega)
    have hB := (HB.alloc hbase (.cells #[.int .u8 p] 5)).grown hg (by simp; omega) (fun k e => by cases e)
    refine wpList_plain hgd fun K hK' => ?_
    unfold Oper.wp
    simp [execOp, ho, resolve, invoke, builtin, hs, hx, hr, Result.andThen]
    exact hK' _ _ (h _ _ hR hB)
end
set_option maxHeartbeats 1000000 in
/-- number.Put, over either row. -/
theorem putJ (v : Value) (l : List Int) (n : Nat) (w0 w : World) (hB : Below w0.heap.size w0 w) (hR : JR w w0.heap.size v l) (hl : l.length ≤ 2000000) (hn : n < 18446744073709551616) :
    Calls Tryd.prog 26 #[v, .int .u64 n] w fun e w' => ∃ v', e = .returned v' ∧ Kd.R (Kd.int .u8) 5 w' w0.heap.size (fun _ => True) v' (l ++ put n) ∧ Below w0.heap.size w0 w' := by
  have HB := Aside0.mk hB
  have HR := Aside0.mk hR
  have HP := Aside0.mk (put_len10 n hn)
  have HN := Aside0.mk hn
  clear hB hR hn
  go_enter Tryd.func26, Tryd.ntmps26
  go_wp2
  go_loopg [0, 1] n (fun gm v0 v1 w' => ∃ (x : List Int) (m : Nat), v1 = .int .u64 m ∧ gm = m ∧ Aside0 (m < 18446744073709551616) ∧ x.length ≤ 2000010 ∧ Aside0 (x ++ put m = l ++ put n) ∧ Aside0 (JR w' w0.heap.size v0 x) ∧ Aside0 (Below w0.heap.size w0 w'))
  case atStart => exact ⟨l, n, rfl, rfl, HN, by omega, ⟨rfl⟩, HR, HB⟩
  case round =>
    obtain ⟨x, m, rfl, hgm, HM, hx, HE, HR, HB⟩ := hrel
    have HGM := Aside0.mk hgm
    clear hgm
    obtain ⟨A, c, rfl⟩ := JR.slice HR.out
    have hlen := congrArg List.length HE.out
    rw [List.length_append, List.length_append] at hlen
    have HLE := Aside0.mk hlen
    clear hlen
    by_cases h128 : m < 128
    · have d1 : decide ((128 : Int) ≤ (m : Int)) = false := by simp only [decide_eq_false_iff_not]; omega
      have d2 : decide (128 ≤ m) = false := by simp only [decide_eq_false_iff_not]; omega
      have HE2 := Aside0.mk (show x ++ [(m : Int)] = l ++ put n by rw [← HE.out, put_small h128])
      go_wp2_with ((with_reducible refine gate_builtin (b := .append) (xs := #[.tmp 15, .tmp 18]) rfl ?_); at_builtin; refine JR.append1 (w0 := w0) w0.heap.size rfl (.tmp 15) (.tmp 18) rfl (.slice A x.length c) x (m : Int) rfl rfl HR.out HB.out HB.out.size (by omega) ?_; intro v1 w1 h1 hb1; have H1 := Aside0.mk h1; have HB1 := Aside0.mk hb1; clear h1 hb1)
      go_ret
      exact ⟨_, rfl, by rw [← HE2.out]; exact H1.out, HB1.out⟩
    · have d1 : decide ((128 : Int) ≤ (m : Int)) = true := by simp only [decide_eq_true_eq]; omega
      have d2 : decide (128 ≤ m) = true := by simp only [decide_eq_true_eq]; omega
      have ho := Aside0.mk (or128 ((m : Int) % 256) (by omega) (by omega))
      have HE2 := Aside0.mk (show x ++ [bits .or .u8 ((m : Int) % 256) 128] ++ put (m / 128) = l ++ put n by
        rw [← HE.out, put_great (n := m) (by omega), ho.out, List.append_assoc]
        rw [show ((m : Int) % 256 % 128 + 128) = ((m % 128 + 128 : Nat) : Int) by omega]; rfl)
      have hx2 : (x ++ [bits .or .u8 ((m : Int) % 256) 128]).length ≤ 2000010 := by
        have h_ := HLE.out
        have h2_ := HP.out
        rw [put_great (n := m) (by omega)] at h_
        simp only [List.length_cons, List.length_append, List.length_nil] at h_ ⊢; omega
      go_wp2_with ((with_reducible refine gate_builtin (b := .append) (xs := #[.tmp 9, .tmp 13]) rfl ?_); at_builtin; refine JR.append1 (w0 := w0) w0.heap.size rfl (.tmp 9) (.tmp 13) rfl (.slice A x.length c) x (bits .or .u8 ((m : Int) % 256) 128) rfl rfl HR.out HB.out HB.out.size (by omega) ?_; intro v1 w1 h1 hb1; have H1 := Aside0.mk h1; have HB1 := Aside0.mk hb1; clear h1 hb1)
      go_roundg (m / 128)
      case measure => have h_ := HGM.out; omega
      case rel => exact ⟨_, m / 128, by simp, rfl, ⟨by have h_ := HM.out; omega⟩, hx2, HE2, ⟨.inl H1.out⟩, HB1⟩
theorem rd_get2 {l : List (List Int)} {k : Nat} (h : k < l.length) : rd_L2 l k = l[k] := by
  unfold rd_L2; simp [rdOf, List.getD_eq_getElem?_getD, List.getElem?_eq_getElem h]
theorem rd_mem2 {l : List (List Int)} {k : Nat} (h : k < l.length) : rd_L2 l k ∈ l := by rw [rd_get2 h]; exact List.getElem_mem h
/-- The log of bodies, or what is wrong. -/
def joinL (acc : List Int) : List (List Int) → List Int × Int
  | [] => (acc, 0)
  | b :: bs => if 20000 < b.length then ([], 5) else if 1048576 < (acc ++ frE b).length then ([], 5) else joinL (acc ++ frE b) bs
def joinF (l : List (List Int)) : List Int × Int := if 4096 < l.length then ([], 5) else joinL magic l
theorem join_drop {l : List (List Int)} {k : Nat} (h : k < l.length) (acc : List Int) : joinL acc (l.drop k) = if 20000 < (rd_L2 l k).length then ([], 5) else if 1048576 < (acc ++ frE (rd_L2 l k)).length then ([], 5) else joinL (acc ++ frE (rd_L2 l k)) (l.drop (k + 1)) := by
  rw [List.drop_eq_getElem_cons h, joinL, rd_get2 h]
def JoinP (w : World) (l : List (List Int)) (e : Ending) (w' : World) : Prop := ∃ v, e = .returned (.tuple #[v, .int .i64 (joinF l).2]) ∧ JR w' w.heap.size v (joinF l).1 ∧ Below w.heap.size w w'
set_option maxHeartbeats 2000000 in
theorem join_calls (A : Option Addr) (c : Nat) (l : List (List Int)) (w : World) (hG : Glob w) (hr : Kd.C KdB w A l.length l) (hl : ∀ b ∈ l, Bytes b) (hn : l.length ≤ 140737488355328) :
    Calls Tryd.prog 18 #[.slice A l.length c] w (JoinP w l) := by
  have HG := Aside0.mk hG
  have HR := Aside0.mk hr
  have HL := Aside0.mk hl
  clear hG hr hl
  by_cases h4 : 4096 < l.length
  · have d1 : decide ((4096 : Int) < (l.length : Int)) = true := by simp only [decide_eq_true_eq]; omega
    have d2 : decide (4096 < l.length) = true := by simpa using h4
    have HJ := Aside0.mk (show joinF l = ([], 5) from if_pos h4)
    go_enter Tryd.func18, Tryd.ntmps18
    go_wp2
    go_ret2
    exact ⟨_, by rw [HJ.out]; rfl, by rw [HJ.out]; exact .inl (Kd.R_nil _ _ _ _ _), Below.refl _ _⟩
  · have d1 : decide ((4096 : Int) < (l.length : Int)) = false := by simp only [decide_eq_false_iff_not]; omega
    have d2 : decide (4096 < l.length) = false := by simpa using h4
    have HJ := Aside0.mk (show joinF l = joinL magic l from if_neg h4)
    have kc := fun (w : World) (C : Array Value) (n c : Nat) => Lib.run_convert_bytes_const (P := Tryd.prog) w 22 5 C n c Tryd.underlying22 Tryd.underlying5
    go_enter Tryd.func18, Tryd.ntmps18
    go_wp2
    have HJ0 := Aside0.mk (show JR (w.alloc (.cells magicV 5 (4, 5))) w.heap.size (.slice (some ⟨w.heap.size, 0, none⟩) 4 4) magic from .inr ⟨_, rfl, Nat.le_refl _, by decide, by decide, blk_new _ _⟩)
    have HB0 := Aside0.mk (below_alloc (Below.refl w.heap.size w) (.cells magicV 5 (4, 5)))
    clear kc d1 d2
    go_loopg [4, 14] l.length (fun gm v4 v14 w' => ∃ (x : List Int) (k : Nat), v14 = .int .i64 k ∧ k + gm = l.length ∧ x.length ≤ 1048576 ∧ Aside0 (joinL x (l.drop k) = joinF l) ∧ Aside0 (JR w' w.heap.size v4 x) ∧ Aside0 (Below w.heap.size w w'))
    case atStart => exact ⟨magic, 0, rfl, by omega, by decide, ⟨by rw [HJ.out]; rfl⟩, HJ0, HB0⟩
    case round =>
      obtain ⟨x, k, rfl, hk, hx, HE, HX, HB⟩ := hrel
      clear HJ0 HB0
      by_cases hlt : k < l.length
      · obtain ⟨ad, A1, c1, e1, hx1, hc1, hC1⟩ := at_L2 HR.out k (by omega) (by omega)
        cases e1
        simp only [Int.toNat_natCast] at hx1
        obtain ⟨b, hb⟩ : ∃ b, b = rd_L2 l k := ⟨_, rfl⟩
        have hE := HE.out
        rw [join_drop hlt, ← hb] at hE
        rw [← hb] at hx1 hc1 hC1
        have HE2 := Aside0.mk hE
        have HBB := Aside0.mk (show Bytes b from HL.out _ (by rw [hb]; exact rd_mem2 hlt))
        have hx2 := (HB.out.cell (World.block_lt_of_cell? w _ hx1)).trans hx1
        have HC1 := Aside0.mk hC1
        have HCC := Aside0.mk hc1
        clear hE hb hx1 hC1 hc1 HE
        obtain ⟨A4, c4, rfl⟩ := JR.slice HX.out
        by_cases h2 : 20000 < b.length
        · have d1 : decide ((20000 : Int) < (b.length : Int)) = true := by simp only [decide_eq_true_eq]; omega
          have d2 : decide (20000 < b.length) = true := by simpa using h2
          have HF := Aside0.mk (show joinF l = ([], 5) by rw [← HE2.out, if_pos h2])
          go_wp2
          go_ret2
          exact ⟨_, by rw [HF.out]; rfl, by rw [HF.out]; exact .inl (Kd.R_nil _ _ _ _ _), HB.out⟩
        · have d1 : decide ((20000 : Int) < (b.length : Int)) = false := by simp only [decide_eq_false_iff_not]; omega
          have d2 : decide (20000 < b.length) = false := by simpa using h2
          go_wp2_with (fail)
          refine (putJ (.slice A4 x.length c4) x b.length w _ HB.out HX.out (by omega) (by omega)).mono ?_
          rintro e w1 ⟨v1, rfl, hv1, hb1⟩
          obtain ⟨y1, hy1⟩ : ∃ y, y = x ++ put b.length := ⟨_, rfl⟩
          rw [← hy1] at hv1
          have HY1 := Aside0.mk hy1
          clear hy1
          have HV1 := Aside0.mk hv1
          have HB1 := Aside0.mk hb1
          clear hv1 hb1
          obtain ⟨A5, c5, rfl⟩ := Kd.R_slice HV1.out
          have HSM := Aside0.mk (fun (W : World) (hb_ : Below w.heap.size w W) => summed_at (c := c1) b W (HG.out.below hb_) (Kd.C_below HC1.out hb_) HBB.out rfl (by omega))
          have hyl := Aside0.mk (show y1.length ≤ 1048576 + 10 by have := put_len10 b.length (by omega); rw [HY1.out, List.length_append]; omega)
          go_wp2_with (first | ((with_reducible refine gate_builtin (b := .append) (xs := #[.tmp 25, .tmp 26]) rfl ?_); at_builtin; refine Kd.R_append_row (Value.int .u8) 0 (h1 := fun _ => rfl) (w0 := w) w.heap.size (by rfl) (.tmp 25) (.tmp 26) 22 5 (.int .u8 0) 1 rfl Tryd.underlying22 info5 rfl (by decide) (.slice A5 y1.length c5) y1 b A1 b.length c1 (fun _ => True) rfl rfl (fun _ _ => trivial) HV1.out (Kd.C_below HC1.out HB1.out) HB1.out HB1.out.size (by have h_ := hyl.out; omega) ?_; intro v2 w2 hv2 hb2 _ _; have HV2 := Aside0.mk hv2; have HB2 := Aside0.mk hb2; clear hv2 hb2) | (go_at_call 27; refine (HSM.out _ HB2.out).mono ?_; rintro e w3 ⟨g3, rfl, hS3, hg3, hb3⟩; have HV3 := Aside0.mk (Kd.R_below HV2.out hb3); have HS3 := Aside0.mk hS3; have HB3 := Aside0.mk (below_step HB2.out hb3); clear hS3 hg3 hb3) | ((with_reducible refine gate_builtin (b := .append) (xs := #[.tmp 27, .tmp 29]) rfl ?_); at_builtin; refine Kd.R_append_row (Value.int .u8) 0 (h1 := fun _ => rfl) (w0 := w) w.heap.size (by rfl) (.tmp 27) (.tmp 29) 22 5 (.int .u8 0) 1 rfl Tryd.underlying22 info5 rfl (by decide) v2 (y1 ++ b) (four b) (some ⟨g3, 0, none⟩) 4 4 (fun _ => True) rfl rfl (fun _ _ => trivial) HV3.out (sumC HS3.out) HB3.out HB3.out.size (by have h_ := hyl.out; rw [List.length_append]; omega) ?_; intro v4 w4 hv4 hb4 _ _; obtain ⟨y, hy⟩ : ∃ y, y = y1 ++ b ++ four b := ⟨_, rfl⟩; rw [← hy] at hv4; have HY := Aside0.mk hy; have HV4 := Aside0.mk hv4; have HB4 := Aside0.mk hb4; clear hv4 hb4 hy; obtain ⟨A7, c7, rfl⟩ := Kd.R_slice HV4.out))
          · have h3 : 1048576 < y.length := by first | assumption | omega
            have HYE := show y = x ++ frE b by rw [HY.out, HY1.out]; unfold frE; simp
            have HF := Aside0.mk (show joinF l = ([], 5) by rw [← HE2.out, if_neg h2, ← HYE, if_pos h3])
            go_ret2
            exact ⟨_, by rw [HF.out]; rfl, by rw [HF.out]; exact .inl (Kd.R_nil _ _ _ _ _), HB4.out⟩
          · have h3 : ¬ 1048576 < y.length := by first | assumption | omega
            have HYE := Aside0.mk (show y = x ++ frE b by rw [HY.out, HY1.out]; unfold frE; simp)
            go_roundg (gk - 1)
            case measure => omega
            case rel => exact ⟨y, k + 1, by go_num, by omega, by omega, ⟨by rw [← HE2.out, if_neg h2, ← HYE.out, if_neg h3]⟩, ⟨.inl HV4.out⟩, HB4⟩
      · obtain rfl : k = l.length := by omega
        have HF := Aside0.mk (show joinF l = (x, 0) by rw [← HE.out, List.drop_length]; rfl)
        go_wp2
        go_ret2
        exact ⟨_, by rw [HF.out]; rfl, by rw [HF.out]; exact HX.out, HB.out⟩
end Go.Proofs.YtojagnoobaleaaaDoor.Ext
