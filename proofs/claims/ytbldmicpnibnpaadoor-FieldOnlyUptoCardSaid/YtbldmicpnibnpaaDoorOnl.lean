/- field.Split and the law FieldOnly: by hand. -/
import Derived.Test.YtbldmicpnibnpaaDoorFie
import Derived.Test.YtbldmicpnibnpaaDoorPrs
namespace Go.Proofs.YtbldmicpnibnpaaDoor.Xa
open Go.RowKit Go.Proofs.YtbldmicpnibnpaaDoor.Ext Go.Proofs.YtbldmicpnibnpaaDoor.Pure Go.Proofs.YtbldmicpnibnpaaDoorW.PrintWords Go.Proofs.YtbldmicpnibnpaaDoorW.PrintLast Go.Proofs.YtbldmicpnibnpaaDoorW.PrintMore
attribute [local go_sem] max2_int min2_int max_two min_two
set_option linter.unusedVariables false
set_option linter.unusedSimpArgs false
theorem split_calls (k : Nat) (A0 : Option Addr) (c0 : Nat) (l0 : List S31) (name g : ByteArray) (w : World) (hr0 : Kd.C k31 w A0 l0.length l0) (hc0 : l0.length ≤ c0) (h : field_Get.f k l0 name = some (g, true)) (hg : g.size ≤ 8000000) :
    Calls Tryd.prog 9 #[.slice A0 l0.length c0, .string name] w fun e w' => ∃ A c, e = .returned (.tuple #[.slice A (pn g) c, .bool true]) ∧ Below w.heap.size w w' := by
  have HG := Aside0.mk (field_Get.calls k A0 c0 l0 name g true w hr0 hc0 h)
  clear hr0 hc0 h
  go_enter Tryd.func9, Tryd.ntmps9
  go_wp2_with (first
    | (go_at_call 6; refine HG.out.mono ?_; rintro e w1 ⟨rfl, hb⟩; have H1 := Aside0.mk hb; clear hb)
    | (go_at_call 10; refine (parts_calls g w1 hg).mono ?_; rintro e w2 ⟨A, c, rfl, hb⟩; have H2 := Aside0.mk hb; clear hb))
  go_returns
  exact ⟨_, _, rfl, below_then H1.out H1.out.size H2.out⟩
theorem vals_app (l : List S31) (name value : ByteArray) : valsF (l ++ [⟨lower name, value⟩]) name = valsF l name ++ [value] := by
  unfold valsF
  rw [List.filter_append, List.map_append]
  congr 1
  rw [List.filter_cons_of_pos (by simp [lower_idem])]
  rfl
theorem join_one (s : ByteArray) : joinB [s] sepC = s := by
  unfold joinB
  have : Lib.join (([s] : List ByteArray).map (·.data.toList)) sepC.data.toList = s.data.toList := by simp [Lib.join, List.intercalate]
  rw [this]
theorem only_f (l : List S31) (name : ByteArray) (k : Nat) (hl : l.length ≤ 1000000) (hk : l.length < k) (ht : tot l ≤ 100000000000) (hn : name.size ≤ 9223372036854775807) :
    field_Only.f k l name = some (match valsF l name with | [v] => (v, true) | _ => (⟨#[]⟩, false)) := by
  unfold field_Only.f
  rw [values_f l name k hl hk ht hn, bind_s]
  generalize valsF l name = vs
  match vs with
  | [] => rw [if_neg (by simp)]
  | [v] => rw [if_pos (by simp), if_pos (by simp)]; rfl
  | a :: b :: r => rw [if_neg (by simp; omega)]
theorem tot_take (l : List S31) (m : Nat) : tot (l.take m) ≤ tot l := by
  have h := tot_append (l.take m) (l.drop m)
  rw [List.take_append_drop] at h
  omega
set_option maxRecDepth 100000 in
set_option maxHeartbeats 8000000 in
theorem Only (A0 : Option Addr) (c0 : Nat) (l : List S31) (name value : ByteArray) (w : World) (hC : Kd.C k31 w A0 l.length l) (hL : l.length ≤ c0) (ht : tot l ≤ 2000000) (hn : name.size ≤ 2000000) (hv : value.size ≤ 2000000) :
    Calls Tryd.prog 3 #[.slice A0 l.length c0, .string name, .string value] w fun e w' => e = .returned (.bool true) ∧ Below w.heap.size w w' := by
  obtain ⟨m, hm⟩ : ∃ m : Nat, m = min l.length 50 := ⟨_, rfl⟩
  have hmn : mn (l.length : Int) 50 = (m : Int) := by unfold mn; split <;> omega
  have hml : m ≤ l.length := by omega
  have hm50 : m ≤ 50 := by omega
  obtain ⟨L, hLdef⟩ : ∃ L, l.take m = L := ⟨_, rfl⟩
  have hLl : L.length = m := by rw [← hLdef, List.length_take]; omega
  have hLt : tot L ≤ 2000000 := by rw [← hLdef]; exact Nat.le_trans (tot_take l m) ht
  obtain ⟨i08, hi08, _, hsz8, _⟩ := info_parts info29
  have hcut := cut_to (P := Tryd.prog) 22 29 .i64 Tryd.underlying22 hi08 A0 l.length c0 (m : Int) (by omega) (by omega) hL
  rw [Int.toNat_natCast] at hcut
  have hCL : Kd.C k31 w A0 L.length L := by have := Kd.C_take (m := m) hC (by omega); rw [hLdef] at this; first | exact this | (rw [hLl]; exact this)
  obtain ⟨L2, hL2⟩ : ∃ L2, L ++ [(⟨lower name, value⟩ : S31)] = L2 := ⟨_, rfl⟩
  have hL2l : L2.length = m + 1 := by rw [← hL2, List.length_append, hLl]; rfl
  have hL2t : tot L2 ≤ 7000000 := by
    rw [← hL2, tot_append]
    have : tot [(⟨lower name, value⟩ : S31)] = name.size + value.size := by simp [tot, lower_size]
    omega
  have hv2 : valsF L2 name = valsF L name ++ [value] := by rw [← hL2]; exact vals_app L name value
  have fG1 := Aside0.mk (get_f L name 200 (by omega) (by omega) (by omega) (by omega))
  have fG2 := Aside0.mk (get_f L2 name 200 (by omega) (by omega) (by omega) (by omega))
  have fO := Aside0.mk (only_f L2 name 200 (by omega) (by omega) (by omega) (by omega))
  have fF := Aside0.mk (few_f L (by omega))
  have fS := Aside0.mk (shown_f 200 (by omega))
  have HM := Aside0.mk hCL
  have HL2 := Aside0.mk hL2
  have HL2l := Aside0.mk hL2l
  have hmin : (if (50 : Int) < (l.length : Int) then (50 : Int) else (l.length : Int)) = (m : Int) := by split <;> omega
  have HTK : Aside0 (L.length = m) := ⟨hLl⟩
  clear hm hmn
  by_cases hth : valsF L name = []
  · rw [hth, List.nil_append] at hv2
    have eg : getF L2 name = value := by unfold getF; rw [hv2, join_one]
    rw [hv2] at fG2 fO
    rw [hth] at fG1
    rw [eg] at fG2
    have fO : Aside0 (field_Only.f 200 L2 name = some (value, true)) := fO
    have fG2 : Aside0 (field_Get.f 200 L2 name = some (value, true)) := fG2
    have fG1 : Aside0 (field_Get.f 200 L name = some (getF L name, false)) := fG1
    have fSp := fG2
    clear hL2l hLdef hL2 hv2 eg hC hCL hLt hL2t ht hi08 hsz8 HTK
    subst hLl
    generalize getF L name = g1 at *
    have HB0 := Aside0.mk (Below.refl w.heap.size w)
    go_enter Tryd.func3, Tryd.ntmps3
    go_wp2_with (first
    | (go_at_call 4; refine (transeptlaw10_shown.calls 200 true _ fS.out).mono ?_; rintro e w1 ⟨rfl, hb⟩; have HB1 := Aside0.mk hb; clear hb)
    | (go_at_call 5; refine (transeptlaw10_few.calls A0 c0 L L _ (Kd.C_below HM.out HB1.out) (by omega) fF.out).mono ?_; rintro e w2 ⟨v1, rfl, hr, hb⟩; obtain ⟨A1, c1, rfl⟩ := Kd.R_slice hr; have HB2 := Aside0.mk (below_then HB1.out HB1.out.size hb); have R1 := Aside0.mk (Kd.R_lower hr HB1.out.size); clear hr hb)
    | (have z_ := RM; clear z_; go_at_call 6; refine (field_Get.calls 200 A4 c4 L2 name value true _ (Kd.R_reads' RM.out).2.2 (Kd.R_reads' RM.out).2.1 fG2.out).mono ?_; rintro e w8 ⟨rfl, hb⟩; have RM2 := Aside0.mk (Kd.R_below RM.out hb); have HB8 := Aside0.mk (below_then HB7.out HB7.out.size hb); clear hb RM; have RM := RM2)
    | (have z_ := R1; clear z_; go_at_call 6; refine (field_Get.calls 200 A1 c1 L name g1 false _ (Kd.R_reads' R1.out).2.2 (Kd.R_reads' R1.out).2.1 fG1.out).mono ?_; rintro e w3 ⟨rfl, hb⟩; have R2 := Aside0.mk (Kd.R_below R1.out hb); have HB3 := Aside0.mk (below_then HB2.out HB2.out.size hb); clear hb R1)
    | ((with_reducible refine gate_dst (N := 30) rfl ?_); refine Kd.R_lit k31 _ 29 ?hg (N := 30) ?hd (xs := ([] : List (S31))) (inner := []) (ok := fun _ => True) (okp := fun _ => True) ?hr ?hp (fun _ hk => hk) trivial (Below.refl _ _) (Nat.le_refl _) (by simp) ?_; (case hd => rfl); (case hg => rfl); (case hr => first | (go_simp; done) | (go_simp; rfl)); (case hp => exact (Reps.none _ _)); intro v2 w4 ho hb hg_ hnew_; clear hg_ hnew_; have RE := Aside0.mk (Kd.R_lower ho HB3.out.size); have R3 := Aside0.mk (Kd.R_below R2.out hb); have HB4 := Aside0.mk (below_then HB3.out HB3.out.size hb); clear ho hb R2)
    | ((with_reducible refine gate_builtin (b := .append) (xs := #[.tmp 30, .tmp 31]) rfl ?_); at_builtin; go_loud (refine Kd.R_append_rows k31 (w0 := w) w.heap.size rfl (.tmp 30) (.tmp 31) 22 29 (.agg #[(.string ⟨#[]⟩), (.string ⟨#[]⟩)]) 32 rfl Tryd.underlying22 info29 rfl (by decide) (by omega) v2 ([] : List S31) L _ _ _ (fun _ => True) (fun _ => False) rfl rfl RE.out (Kd.R_reads' R3.out).2.2 (fun _ _ h => h) (fun _ h => h.elim) (fun _ _ => trivial) HB4.out HB4.out.size (by simp; omega) ?_); intro v3 w5 ho hb hg hat; have RF := Aside0.mk (show Kd.R k31 29 w5 w.heap.size (fun _ => True) v3 L from ho); have HB5 := Aside0.mk hb; clear ho hb hg hat RE)
    | (go_at_call 7; refine (lower_calls name _ (by omega)).mono ?_; rintro e w6 ⟨rfl, hb⟩; have RG := Aside0.mk (Kd.R_below RF.out hb); have HB6 := Aside0.mk (below_then HB5.out HB5.out.size hb); clear hb RF)
    | ((with_reducible refine gate_builtin (b := .append) (xs := #[.tmp 32, .tmp 37]) rfl ?_); at_builtin; go_loud (refine Kd.R_append k31 (w0 := w) w.heap.size rfl (.tmp 32) (.tmp 37) 22 29 (.agg #[(.string ⟨#[]⟩), (.string ⟨#[]⟩)]) 32 rfl Tryd.underlying22 info29 rfl (by decide) (by omega) v3 L (⟨lower name, value⟩ : S31) [.string (lower name), .string value] (fun _ => True) (fun _ => False) rfl rfl (k31_mkM _ _ _ (⟨lower name, value⟩ : S31)) (fun _ hk => hk.elim) (fun _ _ => trivial) RG.out HB6.out HB6.out.size (by omega) ?_); intro v4 w7 ho hb hg hat; rw [HL2.out] at ho; obtain ⟨A4, c4, rfl⟩ := Kd.R_slice ho; have RM0 := Aside0.mk ho; have HB70 := Aside0.mk hb; clear ho hb hg hat RG)
    | (go_at_call 8; refine (field_Only.calls 200 A4 c4 L2 name value true _ (Kd.R_reads' RM0.out).2.2 (Kd.R_reads' RM0.out).2.1 fO.out).mono ?_; rintro e w71 ⟨rfl, hb⟩; have RM := Aside0.mk (Kd.R_below RM0.out hb); have HB7 := Aside0.mk (below_then HB70.out HB70.out.size hb); clear hb RM0)
    | (go_at_call 9; refine (split_calls 200 A4 c4 L2 name value _ (Kd.R_reads' RM.out).2.2 (Kd.R_reads' RM.out).2.1 fSp.out (by have := HL2l.out; omega)).mono ?_; rintro e w9 ⟨A9, c9, rfl, hb⟩; have HB9 := Aside0.mk (below_then HB8.out HB8.out.size hb); clear hb)
    | (go_at_call 10; refine (parts_calls value _ (by omega)).mono ?_; rintro e w10 ⟨A10, c10, rfl, hb⟩; have HB10 := Aside0.mk (below_then HB9.out HB9.out.size hb); clear hb))
    all_goals (go_ret; exact ⟨rfl, HB10.out⟩)
  · have hfO : field_Only.f 200 L2 name = some (⟨#[]⟩, false) := by
      rw [only_f L2 name 200 (by omega) (by omega) (by omega) (by omega), hv2]
      cases hq : valsF L name with
      | nil => exact absurd hq hth
      | cons a r => cases r <;> rfl
    have fO : Aside0 (field_Only.f 200 L2 name = some (⟨#[]⟩, false)) := ⟨hfO⟩
    have fG1 : Aside0 (field_Get.f 200 L name = some (getF L name, true)) := by
      refine ⟨fG1.out.trans ?_⟩
      have : (decide (0 < (valsF L name).length)) = true := decide_eq_true (List.length_pos_iff.mpr hth)
      rw [this]
    have fG2 : Aside0 (field_Get.f 200 L2 name = some (getF L2 name, true)) := by
      refine ⟨fG2.out.trans ?_⟩
      have : (decide (0 < (valsF L2 name).length)) = true := decide_eq_true (by rw [hv2]; simp)
      rw [this]
    have fSp := fG2
    clear hL2l hLdef hL2 hv2 hC hCL hLt hL2t ht hi08 hsz8 HTK hfO
    subst hLl
    generalize getF L name = g1 at *
    generalize getF L2 name = g2 at *
    have HB0 := Aside0.mk (Below.refl w.heap.size w)
    go_enter Tryd.func3, Tryd.ntmps3
    go_wp2_with (first
    | (go_at_call 4; refine (transeptlaw10_shown.calls 200 true _ fS.out).mono ?_; rintro e w1 ⟨rfl, hb⟩; have HB1 := Aside0.mk hb; clear hb)
    | (go_at_call 5; refine (transeptlaw10_few.calls A0 c0 L L _ (Kd.C_below HM.out HB1.out) (by omega) fF.out).mono ?_; rintro e w2 ⟨v1, rfl, hr, hb⟩; obtain ⟨A1, c1, rfl⟩ := Kd.R_slice hr; have HB2 := Aside0.mk (below_then HB1.out HB1.out.size hb); have R1 := Aside0.mk (Kd.R_lower hr HB1.out.size); clear hr hb)
    | (have z_ := RM; clear z_; go_at_call 6; refine (field_Get.calls 200 A4 c4 L2 name g2 true _ (Kd.R_reads' RM.out).2.2 (Kd.R_reads' RM.out).2.1 fG2.out).mono ?_; rintro e w8 ⟨rfl, hb⟩; have RM2 := Aside0.mk (Kd.R_below RM.out hb); have HB8 := Aside0.mk (below_then HB7.out HB7.out.size hb); clear hb RM; have RM := RM2)
    | (have z_ := R1; clear z_; go_at_call 6; refine (field_Get.calls 200 A1 c1 L name g1 true _ (Kd.R_reads' R1.out).2.2 (Kd.R_reads' R1.out).2.1 fG1.out).mono ?_; rintro e w3 ⟨rfl, hb⟩; have R2 := Aside0.mk (Kd.R_below R1.out hb); have HB3 := Aside0.mk (below_then HB2.out HB2.out.size hb); clear hb R1)
    | ((with_reducible refine gate_dst (N := 30) rfl ?_); refine Kd.R_lit k31 _ 29 ?hg (N := 30) ?hd (xs := ([] : List (S31))) (inner := []) (ok := fun _ => True) (okp := fun _ => True) ?hr ?hp (fun _ hk => hk) trivial (Below.refl _ _) (Nat.le_refl _) (by simp) ?_; (case hd => rfl); (case hg => rfl); (case hr => first | (go_simp; done) | (go_simp; rfl)); (case hp => exact (Reps.none _ _)); intro v2 w4 ho hb hg_ hnew_; clear hg_ hnew_; have RE := Aside0.mk (Kd.R_lower ho HB3.out.size); have R3 := Aside0.mk (Kd.R_below R2.out hb); have HB4 := Aside0.mk (below_then HB3.out HB3.out.size hb); clear ho hb R2)
    | ((with_reducible refine gate_builtin (b := .append) (xs := #[.tmp 30, .tmp 31]) rfl ?_); at_builtin; go_loud (refine Kd.R_append_rows k31 (w0 := w) w.heap.size rfl (.tmp 30) (.tmp 31) 22 29 (.agg #[(.string ⟨#[]⟩), (.string ⟨#[]⟩)]) 32 rfl Tryd.underlying22 info29 rfl (by decide) (by omega) v2 ([] : List S31) L _ _ _ (fun _ => True) (fun _ => False) rfl rfl RE.out (Kd.R_reads' R3.out).2.2 (fun _ _ h => h) (fun _ h => h.elim) (fun _ _ => trivial) HB4.out HB4.out.size (by simp; omega) ?_); intro v3 w5 ho hb hg hat; have RF := Aside0.mk (show Kd.R k31 29 w5 w.heap.size (fun _ => True) v3 L from ho); have HB5 := Aside0.mk hb; clear ho hb hg hat RE)
    | (go_at_call 7; refine (lower_calls name _ (by omega)).mono ?_; rintro e w6 ⟨rfl, hb⟩; have RG := Aside0.mk (Kd.R_below RF.out hb); have HB6 := Aside0.mk (below_then HB5.out HB5.out.size hb); clear hb RF)
    | ((with_reducible refine gate_builtin (b := .append) (xs := #[.tmp 32, .tmp 37]) rfl ?_); at_builtin; go_loud (refine Kd.R_append k31 (w0 := w) w.heap.size rfl (.tmp 32) (.tmp 37) 22 29 (.agg #[(.string ⟨#[]⟩), (.string ⟨#[]⟩)]) 32 rfl Tryd.underlying22 info29 rfl (by decide) (by omega) v3 L (⟨lower name, value⟩ : S31) [.string (lower name), .string value] (fun _ => True) (fun _ => False) rfl rfl (k31_mkM _ _ _ (⟨lower name, value⟩ : S31)) (fun _ hk => hk.elim) (fun _ _ => trivial) RG.out HB6.out HB6.out.size (by omega) ?_); intro v4 w7 ho hb hg hat; rw [HL2.out] at ho; obtain ⟨A4, c4, rfl⟩ := Kd.R_slice ho; have RM0 := Aside0.mk ho; have HB70 := Aside0.mk hb; clear ho hb hg hat RG)
    | (go_at_call 8; refine (field_Only.calls 200 A4 c4 L2 name (⟨#[]⟩ : ByteArray) false _ (Kd.R_reads' RM0.out).2.2 (Kd.R_reads' RM0.out).2.1 fO.out).mono ?_; rintro e w71 ⟨rfl, hb⟩; have RM := Aside0.mk (Kd.R_below RM0.out hb); have HB7 := Aside0.mk (below_then HB70.out HB70.out.size hb); clear hb RM0))
    all_goals (go_ret; exact ⟨rfl, HB8.out⟩)
end Go.Proofs.YtbldmicpnibnpaaDoor.Xa
