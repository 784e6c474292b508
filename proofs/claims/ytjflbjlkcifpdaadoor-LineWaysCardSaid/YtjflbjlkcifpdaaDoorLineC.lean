/- May an event come here: by hand. Written by wip/tools/linec.py. -/
import Derived.Test.YtjflbjlkcifpdaaDoorLineB
import Derived.Test.YtjflbjlkcifpdaaDoorXax0
import Derived.Test.YtjflbjlkcifpdaaDoorXax10
import Derived.Laws.EntriesVeiled
namespace Go.Proofs.YtjflbjlkcifpdaaDoor.Ext
open Go.RowKit Go.Proofs.YtjflbjlkcifpdaaDoor.Xa Go.Proofs.YtjflbjlkcifpdaaDoorW.PrintWords Go.Proofs.YtjflbjlkcifpdaaDoorW.PrintLast Go.Proofs.YtjflbjlkcifpdaaDoorW.PrintMore
open Go.Maps (Keyed)
set_option linter.unusedVariables false
set_option linter.unusedSimpArgs false
theorem field48_0 (A : Option Addr) (n : Nat) (t : Int) (W : World) : (Instr.field 48 (.agg #[.slice A n n, .int .i64 t]) 0).run Tryd.prog W = .ok (.slice A n n) W := by rfl
theorem field48_1 (A : Option Addr) (n : Nat) (t : Int) (W : World) : (Instr.field 48 (.agg #[.slice A n n, .int .i64 t]) 1).run Tryd.prog W = .ok (.int .i64 t) W := by rfl
theorem w64 (a : Int) (h0 : 0 ≤ a) (h1 : a < 9223372036854775808) : wrap64 a = a := by
  unfold wrap64; omega
def mayF (X : LS) (k id : Int) : Bool :=
  if k = 1 ∨ X.c = 0 then decide (k = 1 ∧ X.c = 0)
  else if k = 2 then decide (Go.Maps.size X.D = 0)
  else if k = 3 then !Go.Maps.has X.D (.int .u64 id)
  else (wayOf k).1.contains (X.st id)
structure InW (w W : World) (g gm q : Nat) (X : LS) (E : Array Value) : Prop where
  ln : Ln W g gm X
  ev : W.heap[q]? = some (.cells E 31 (0, 0))
  bel : Below w.heap.size w W
theorem InW.start {w : World} {g gm : Nat} {X : LS} (h : Ln w g gm X) (E : Array Value) : InW w (w.alloc (.cells E 31)) g gm w.heap.size X E :=
  ⟨h.below (below_alloc (Below.refl _ _) _), blk_new _ _, below_alloc (Below.refl _ _) _⟩
theorem InW.then_ {w W W1 : World} {g gm q : Nat} {X : LS} {E : Array Value} (h : InW w W g gm q X E) (hb : Below W.heap.size W W1) : InW w W1 g gm q X E :=
  ⟨h.ln.below hb, (hb.block q (blk_lt h.ev)).trans h.ev, below_then h.bel h.bel.size hb⟩
theorem decC (c : Nat) : decide (c = 0) = ((c : Int) == 0) := by
  by_cases h : c = 0
  · subst h; rfl
  · rw [decide_eq_false h]; symm; rw [beq_eq_false_iff_ne]; omega
section
variable {w : World} {g gm : Nat} {X : LS} (a1 a2 : Int) (a3 a4 a5 a6 : ByteArray) (a7 a8 a9 : Int)
set_option maxHeartbeats 2000000 in
theorem may_pageAt {w : World} {g gm : Nat} {X : LS} (a1 a2 : Int) (a3 a4 a5 a6 : ByteArray) (a7 a8 a9 : Int) (h : Ln w g gm X) : Calls Tryd.prog 23 #[.pointer (some ⟨g, 0, none⟩), .agg #[.int .i64 1, .int .u64 a1, .int .u64 a2, .string a3, .string a4, .string a5, .string a6, .int .i64 a7, .int .i64 a8, .int .i64 a9]] w fun r w' => r = .returned (.bool ((X.c : Int) == 0)) ∧ Below w.heap.size w w' := by
  obtain ⟨W, hW⟩ : ∃ W, w.alloc (.cells #[.int .i64 1, .int .u64 a1, .int .u64 a2, .string a3, .string a4, .string a5, .string a6, .int .i64 a7, .int .i64 a8, .int .i64 a9] 31) = W := ⟨_, rfl⟩
  obtain ⟨q, hq⟩ : ∃ q, w.heap.size = q := ⟨_, rfl⟩
  have H := InW.start h #[.int .i64 1, .int .u64 a1, .int .u64 a2, .string a3, .string a4, .string a5, .string a6, .int .i64 a7, .int .i64 a8, .int .i64 a9]
  rw [hW, hq] at H
  have HI := Aside0.mk H
  have c0 := H.ln.cell0
  have c2 := H.ln.cell2
  have e0 : W.cell? ⟨q, 0, none⟩ = some (.int .i64 1) := blk_cell H.ev 0
  have e2 : W.cell? ⟨q, 2, none⟩ = some (.int .u64 a2) := blk_cell H.ev 2
  clear H h
  generalize (X.c : Int) = C at *
  go_enter Tryd.func23, Tryd.ntmps23
  go_wp2
  all_goals (go_ret; exact ⟨rfl, HI.out.bel⟩)
set_option maxHeartbeats 2000000 in
theorem may_none {w : World} {g gm : Nat} {X : LS} (k : Int) (a1 a2 : Int) (a3 a4 a5 a6 : ByteArray) (a7 a8 a9 : Int) (h : Ln w g gm X) (hk : (k == 1) = false) (hC : (X.c : Int) = 0) : Calls Tryd.prog 23 #[.pointer (some ⟨g, 0, none⟩), .agg #[.int .i64 k, .int .u64 a1, .int .u64 a2, .string a3, .string a4, .string a5, .string a6, .int .i64 a7, .int .i64 a8, .int .i64 a9]] w fun r w' => r = .returned (.bool (false)) ∧ Below w.heap.size w w' := by
  obtain ⟨W, hW⟩ : ∃ W, w.alloc (.cells #[.int .i64 k, .int .u64 a1, .int .u64 a2, .string a3, .string a4, .string a5, .string a6, .int .i64 a7, .int .i64 a8, .int .i64 a9] 31) = W := ⟨_, rfl⟩
  obtain ⟨q, hq⟩ : ∃ q, w.heap.size = q := ⟨_, rfl⟩
  have H := InW.start h #[.int .i64 k, .int .u64 a1, .int .u64 a2, .string a3, .string a4, .string a5, .string a6, .int .i64 a7, .int .i64 a8, .int .i64 a9]
  rw [hW, hq] at H
  have HI := Aside0.mk H
  have c0 := H.ln.cell0
  have c2 := H.ln.cell2
  have e0 : W.cell? ⟨q, 0, none⟩ = some (.int .i64 k) := blk_cell H.ev 0
  have e2 : W.cell? ⟨q, 2, none⟩ = some (.int .u64 a2) := blk_cell H.ev 2
  clear H h
  generalize (X.c : Int) = C at *
  subst hC
  go_enter Tryd.func23, Tryd.ntmps23
  go_wp2
  all_goals (go_ret; exact ⟨rfl, HI.out.bel⟩)
set_option maxHeartbeats 2000000 in
theorem may_policy {w : World} {g gm : Nat} {X : LS} (a1 a2 : Int) (a3 a4 a5 a6 : ByteArray) (a7 a8 a9 : Int) (h : Ln w g gm X) (hC : ((X.c : Int) == 0) = false) : Calls Tryd.prog 23 #[.pointer (some ⟨g, 0, none⟩), .agg #[.int .i64 2, .int .u64 a1, .int .u64 a2, .string a3, .string a4, .string a5, .string a6, .int .i64 a7, .int .i64 a8, .int .i64 a9]] w fun r w' => r = .returned (.bool (decide ((Go.Maps.size X.D : Int) = 0))) ∧ Below w.heap.size w w' := by
  obtain ⟨W, hW⟩ : ∃ W, w.alloc (.cells #[.int .i64 2, .int .u64 a1, .int .u64 a2, .string a3, .string a4, .string a5, .string a6, .int .i64 a7, .int .i64 a8, .int .i64 a9] 31) = W := ⟨_, rfl⟩
  obtain ⟨q, hq⟩ : ∃ q, w.heap.size = q := ⟨_, rfl⟩
  have H := InW.start h #[.int .i64 2, .int .u64 a1, .int .u64 a2, .string a3, .string a4, .string a5, .string a6, .int .i64 a7, .int .i64 a8, .int .i64 a9]
  rw [hW, hq] at H
  have HI := Aside0.mk H
  have c0 := H.ln.cell0
  have c2 := H.ln.cell2
  have e0 : W.cell? ⟨q, 0, none⟩ = some (.int .i64 2) := blk_cell H.ev 0
  have e2 : W.cell? ⟨q, 2, none⟩ = some (.int .u64 a2) := blk_cell H.ev 2
  have hlen := fun ty => H.ln.own.len Tryd.underlying44 ty
  generalize Go.Maps.size X.D = Z at *
  clear H h
  generalize (X.c : Int) = C at *
  go_enter Tryd.func23, Tryd.ntmps23
  go_wp2
  all_goals (go_ret; exact ⟨rfl, HI.out.bel⟩)
set_option maxHeartbeats 2000000 in
theorem may_start {w : World} {g gm : Nat} {X : LS} (a1 a2 : Int) (a3 a4 a5 a6 : ByteArray) (a7 a8 a9 : Int) (h : Ln w g gm X) (hC : ((X.c : Int) == 0) = false) (hw : (Lit.int .u64 a2).wf = true) : Calls Tryd.prog 23 #[.pointer (some ⟨g, 0, none⟩), .agg #[.int .i64 3, .int .u64 a1, .int .u64 a2, .string a3, .string a4, .string a5, .string a6, .int .i64 a7, .int .i64 a8, .int .i64 a9]] w fun r w' => r = .returned (.bool (!Go.Maps.has X.D (.int .u64 a2))) ∧ Below w.heap.size w w' := by
  obtain ⟨W, hW⟩ : ∃ W, w.alloc (.cells #[.int .i64 3, .int .u64 a1, .int .u64 a2, .string a3, .string a4, .string a5, .string a6, .int .i64 a7, .int .i64 a8, .int .i64 a9] 31) = W := ⟨_, rfl⟩
  obtain ⟨q, hq⟩ : ∃ q, w.heap.size = q := ⟨_, rfl⟩
  have H := InW.start h #[.int .i64 3, .int .u64 a1, .int .u64 a2, .string a3, .string a4, .string a5, .string a6, .int .i64 a7, .int .i64 a8, .int .i64 a9]
  rw [hW, hq] at H
  have HI := Aside0.mk H
  have c0 := H.ln.cell0
  have c2 := H.ln.cell2
  have e0 : W.cell? ⟨q, 0, none⟩ = some (.int .i64 3) := blk_cell H.ev 0
  have e2 : W.cell? ⟨q, 2, none⟩ = some (.int .u64 a2) := blk_cell H.ev 2
  have hl0 := H.ln.look2 hw
  have hl := fun n => (H.ln.below (pw_below_drewN (Below.refl _ _) n)).look2 hw
  generalize X.st a2 = v at *
  generalize Go.Maps.has X.D (.int .u64 a2) = Z at *
  clear H h
  generalize (X.c : Int) = C at *
  go_enter Tryd.func23, Tryd.ntmps23
  go_wp2
  go_quiet (fail)
  go_wp2
  all_goals (go_ret; exact ⟨rfl, pw_below_drewN HI.out.bel _⟩)
theorem index_from (xs : List Int) (a : Int) (hl : xs.length < 1000) : ∀ (d j k : Nat), j + d = xs.length → d < k → (slices_Index_int_int.l0 k xs a (xs.length : Int) (j : Int)).bind (fun t => some (decide (t ≥ 0))) = some ((xs.drop j).contains a)
  | 0, j, k + 1, h, _ => by
    rw [slices_Index_int_int.l0, if_neg (by omega), List.drop_eq_nil_of_le (by omega)]; rfl
  | d + 1, j, k + 1, h, hk => by
    rw [slices_Index_int_int.l0, if_pos (by omega), if_pos (by omega), if_pos (by omega)]
    have hj : j < xs.length := by omega
    have hr : rd xs (j : Int) = xs[j] := by simp [rd, List.getD_eq_getElem?_getD, List.getElem?_eq_getElem hj]
    rw [hr, List.drop_eq_getElem_cons hj, List.contains_cons]
    by_cases he : a = xs[j]
    · rw [if_pos he, beq_iff_eq.2 he, Bool.true_or]; show some (decide ((j : Int) ≥ 0)) = some true; rw [decide_eq_true]; omega
    · rw [if_neg he, beq_eq_false_iff_ne.2 he, Bool.false_or]
      have hw : wrap64 ((j : Int) + 1) = ((j + 1 : Nat) : Int) := by rw [w64 _ (by omega) (by omega)]; omega
      rw [hw]
      exact index_from xs a hl d (j + 1) k (by omega) (by omega)
theorem contains_f (xs : List Int) (a : Int) (hl : xs.length ≤ 10) : slices_Contains_int_int.f 20 xs a = some (xs.contains a) := by
  unfold slices_Contains_int_int.f slices_Index_int_int.f
  have := index_from xs a (by omega) xs.length 0 20 (by omega) (by omega)
  simpa using this
theorem way_len (K : Int) (h4 : 4 ≤ K) (h14 : K ≤ 14) : (wayOf K).1.length ≤ 10 := by
  obtain ⟨K', rfl⟩ := Int.eq_ofNat_of_zero_le (show 0 ≤ K by omega)
  exact (widx_at ⟨K', by omega⟩ (by simp; omega)).2.2
structure Wz (w w' : World) (K : Int) (b : Nat) (A : Option Addr) (n : Nat) : Prop where
  bel : Below w.heap.size w w'
  look : ∀ W : World, W.heap = w'.heap → (Instr.lookup 49 (.map (some b)) (.int .i64 K) false).run Tryd.prog W = .ok (.agg #[.slice A n n, .int .i64 (wayOf K).2]) W
  len : n = (wayOf K).1.length
  row : Kd.C (Kd.int .i64) w' A (wayOf K).1.length (wayOf K).1
theorem contains_z {K : Int} (h4 : 4 ≤ K) (h14 : K ≤ 14) {A : Option Addr} (w : World) (hr : Kd.C (Kd.int .i64) w A (wayOf K).1.length (wayOf K).1) (s : Int) {n : Nat} (hn : n = (wayOf K).1.length) : Calls Tryd.prog 32 #[.slice A n n, .int .i64 s] w fun e w' => e = .returned (.bool ((wayOf K).1.contains s)) ∧ ∃ m, w' = w.drewN m := by
  subst hn
  refine (slices_Contains_int_int.calls 20 A _ _ s _ w hr (Nat.le_refl _) (contains_f _ s (way_len K h4 h14))).mono ?_
  rintro e w' ⟨rfl, h⟩
  exact ⟨rfl, h.out⟩
theorem ways_z (w : World) (K : Int) (h4 : 4 ≤ K) (h14 : K ≤ 14) : Calls Tryd.prog 24 #[] w fun e w' => ∃ b A n, e = .returned (.map (some b)) ∧ Wz w w' K b A n := by
  refine (ways_calls w K h4 h14).mono ?_
  rintro e w' ⟨rfl, A, n, h⟩
  exact ⟨_, A, n, rfl, h.bel, h.look, h.len, h.row⟩
set_option maxHeartbeats 2000000 in
theorem may_rest {w : World} {g gm : Nat} {X : LS} (k : Int) (a1 a2 : Int) (a3 a4 a5 a6 : ByteArray) (a7 a8 a9 : Int) (h : Ln w g gm X) (hk : 4 ≤ k) (hk' : k ≤ 14) (hC : ((X.c : Int) == 0) = false) (hw : (Lit.int .u64 a2).wf = true) : Calls Tryd.prog 23 #[.pointer (some ⟨g, 0, none⟩), .agg #[.int .i64 k, .int .u64 a1, .int .u64 a2, .string a3, .string a4, .string a5, .string a6, .int .i64 a7, .int .i64 a8, .int .i64 a9]] w fun r w' => r = .returned (.bool ((wayOf k).1.contains (X.st a2))) ∧ Below w.heap.size w w' := by
  obtain ⟨W, hW⟩ : ∃ W, w.alloc (.cells #[.int .i64 k, .int .u64 a1, .int .u64 a2, .string a3, .string a4, .string a5, .string a6, .int .i64 a7, .int .i64 a8, .int .i64 a9] 31) = W := ⟨_, rfl⟩
  obtain ⟨q, hq⟩ : ∃ q, w.heap.size = q := ⟨_, rfl⟩
  have H := InW.start h #[.int .i64 k, .int .u64 a1, .int .u64 a2, .string a3, .string a4, .string a5, .string a6, .int .i64 a7, .int .i64 a8, .int .i64 a9]
  rw [hW, hq] at H
  have HI := Aside0.mk H
  have c0 := H.ln.cell0
  have c2 := H.ln.cell2
  have e0 : W.cell? ⟨q, 0, none⟩ = some (.int .i64 k) := blk_cell H.ev 0
  have e2 : W.cell? ⟨q, 2, none⟩ = some (.int .u64 a2) := blk_cell H.ev 2
  have HLN := Aside0.mk (show ∀ V, Below W.heap.size W V → Ln V g gm X from fun V hV => H.ln.below hV)
  obtain ⟨S, hS⟩ : ∃ S, X.st a2 = S := ⟨_, rfl⟩
  have HST := Aside0.mk hS
  rw [hS]
  clear hS
  have hf0 := field48_0
  have k1 : (k == 1) = false := by rw [beq_eq_false_iff_ne]; omega
  have k2 : (k == 2) = false := by rw [beq_eq_false_iff_ne]; omega
  have k3 : (k == 3) = false := by rw [beq_eq_false_iff_ne]; omega
  clear H h
  generalize (X.c : Int) = C at *
  go_enter Tryd.func23, Tryd.ntmps23
  go_wp2
  go_region_held3 (fun V => V.cell? ⟨q, 0, none⟩ = some (.int .i64 k) ∧ V.cell? ⟨q, 2, none⟩ = some (.int .u64 a2) ∧ Below W.heap.size W V) (first | exact ⟨e0, e2, pw_below_drewN (Below.refl _ _) _⟩ | exact ⟨e0, e2, Below.refl _ _⟩ | exact ⟨hx0, hx2, hx1⟩ | exact ⟨hx0, hx2, below_drew hx1⟩ | exact ⟨hx0, hx2, pw_below_drewN hx1 _⟩) (first
    | (have z_ := hx4; clear z_; go_at_call 32; refine (contains_z hk hk' _ (by first | exact hWz.row | exact Kd.C_drew hWz.row | exact Kd.C_drewN hWz.row _) S hWz.len).mono ?_; rintro e w3 ⟨rfl, m3, rfl⟩)
    | (have z_ := hx0; clear z_; go_at_call 13; refine (state_calls (HLN.out _ (by first | exact hx1 | exact below_drew hx1 | exact pw_below_drewN hx1 _)) hw).mono ?_; rw [HST.out]; rintro e w2 ⟨rfl, hx4⟩; subst hx4; have hx4 : True := trivial)
    | (go_at_call 24; refine (ways_z _ k hk hk').mono ?_; rintro e w1 ⟨b, A, n, rfl, hWz⟩; have hx1 : Below W.heap.size W w1 := (by first | exact hWz.bel | exact below_then (pw_below_drewN (Below.refl _ _) 1) (Nat.le_refl _) hWz.bel | exact below_then (below_drew (Below.refl _ _)) (Nat.le_refl _) hWz.bel); have hx0 : w1.cell? ⟨q, 0, none⟩ = some (.int .i64 k) := pw_cell_below hx1 e0; have hx2 : w1.cell? ⟨q, 2, none⟩ = some (.int .u64 a2) := pw_cell_below hx1 e2; have hlk := hWz.look w1 rfl; have hlkd := hWz.look w1.drew rfl; have hlkn := fun m => hWz.look (w1.drewN m) rfl))
  all_goals (go_wp2; go_ret; refine ⟨by simp, ?_⟩; first | exact pw_below_drewN (below_then HI.out.bel HI.out.bel.size hx1) _ | exact below_then HI.out.bel HI.out.bel.size hx1)
theorem may_calls {w : World} {g gm : Nat} {X : LS} (k : Int) (a1 a2 : Int) (a3 a4 a5 a6 : ByteArray) (a7 a8 a9 : Int) (h : Ln w g gm X) (hk1 : 1 ≤ k) (hk14 : k ≤ 14) (hw : (Lit.int .u64 a2).wf = true) : Calls Tryd.prog 23 #[.pointer (some ⟨g, 0, none⟩), .agg #[.int .i64 k, .int .u64 a1, .int .u64 a2, .string a3, .string a4, .string a5, .string a6, .int .i64 a7, .int .i64 a8, .int .i64 a9]] w fun r w' => r = .returned (.bool (mayF X k a2)) ∧ Below w.heap.size w w' := by
  unfold mayF
  by_cases h1 : k = 1
  · subst h1
    rw [if_pos (.inl rfl), show decide ((1 : Int) = 1 ∧ X.c = 0) = ((X.c : Int) == 0) by rw [← decC]; simp]
    exact may_pageAt a1 a2 a3 a4 a5 a6 a7 a8 a9 h
  by_cases h0 : X.c = 0
  · rw [if_pos (.inr h0), decide_eq_false (fun hh => h1 hh.1)]
    exact may_none k a1 a2 a3 a4 a5 a6 a7 a8 a9 h (by rw [beq_eq_false_iff_ne]; exact h1) (by omega)
  rw [if_neg (by omega)]
  have hC : ((X.c : Int) == 0) = false := by rw [beq_eq_false_iff_ne]; omega
  by_cases h2 : k = 2
  · subst h2
    rw [if_pos rfl, show decide (Go.Maps.size X.D = 0) = decide ((Go.Maps.size X.D : Int) = 0) by congr 1; simp]
    exact may_policy a1 a2 a3 a4 a5 a6 a7 a8 a9 h hC
  rw [if_neg h2]
  by_cases h3 : k = 3
  · subst h3
    rw [if_pos rfl]
    exact may_start a1 a2 a3 a4 a5 a6 a7 a8 a9 h hC hw
  rw [if_neg h3]
  exact may_rest k a1 a2 a3 a4 a5 a6 a7 a8 a9 h (by omega) hk14 hC hw
end
end Go.Proofs.YtjflbjlkcifpdaaDoor.Ext
