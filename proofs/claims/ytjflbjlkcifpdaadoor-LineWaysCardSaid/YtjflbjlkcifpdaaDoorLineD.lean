/- The line takes an event: by hand. Written by wip/tools/lined.py. -/
import Derived.Test.YtjflbjlkcifpdaaDoorLineC
namespace Go.Proofs.YtjflbjlkcifpdaaDoor.Ext
open Go.RowKit Go.Proofs.YtjflbjlkcifpdaaDoor.Xa Go.Proofs.YtjflbjlkcifpdaaDoorW.PrintWords Go.Proofs.YtjflbjlkcifpdaaDoorW.PrintLast Go.Proofs.YtjflbjlkcifpdaaDoorW.PrintMore
open Go.Maps (Keyed)
set_option linter.unusedVariables false
set_option linter.unusedSimpArgs false
/-- All is as it was but for the line. -/
structure Mv (w w' : World) (g gm : Nat) : Prop where
  os : w'.os = w.os
  tape : w'.tape = w.tape
  output : w'.output = w.output
  size : w.heap.size ≤ w'.heap.size
  block : ∀ k, k < w.heap.size → k ≠ g → k ≠ gm → w'.heap[k]? = w.heap[k]?
section
variable {a w w' w1 : World} {g gm : Nat}
theorem Mv.of_below (h : Below w.heap.size w w') : Mv w w' g gm := ⟨h.os, h.tape, h.output, h.size, fun k hk _ _ => h.block k hk⟩
theorem Mv.trans (h : Mv w w' g gm) (k : Mv w' w1 g gm) : Mv w w1 g gm :=
  ⟨k.os.trans h.os, k.tape.trans h.tape, k.output.trans h.output, Nat.le_trans h.size k.size, fun i hi h1 h2 => (k.block i (Nat.lt_of_lt_of_le hi h.size) h1 h2).trans (h.block i hi h1 h2)⟩
theorem Mv.below {B : Nat} (hb : Below B a w) (hB : B ≤ w.heap.size) (h : Mv w w' g gm) (h1 : B ≤ g) (h2 : B ≤ gm) : Below B a w' :=
  ⟨h.os.trans hb.os, h.tape.trans hb.tape, h.output.trans hb.output, Nat.le_trans hb.size h.size, fun k hk => (h.block k (by omega) (by omega) (by omega)).trans (hb.block k hk)⟩
theorem Mv.set (h : Mv w w' g gm) (i : Nat) (u : Value) : Mv w (w'.setCell ⟨g, i, none⟩ u) g gm :=
  ⟨h.os, h.tape, h.output, by simpa [World.setCell] using h.size, fun k hk h1 h2 => (Below.heap_setCell _ _ _ _ h1).trans (h.block k hk h1 h2)⟩
theorem Mv.grown (h : Mv w w' g gm) (hg : w'.grownBy w1 (some gm)) : Mv w w1 g gm :=
  h.trans ⟨hg.os, hg.tape, hg.output, hg.size, fun k hk _ h2 => hg.block k hk (by simpa using h2)⟩
theorem Mv.drewN (h : Mv w w' g gm) (n : Nat) : Mv w (w'.drewN n) g gm := ⟨h.os, h.tape, h.output, h.size, h.block⟩
end
/-- What the walk reads. -/
theorem InW.facts {w W : World} {g gm q : Nat} {X : LS} {k a1 a2 : Int} {a3 a4 a5 a6 : ByteArray} {a7 a8 a9 : Int} (H : InW w W g gm q X #[.int .i64 k, .int .u64 a1, .int .u64 a2, .string a3, .string a4, .string a5, .string a6, .int .i64 a7, .int .i64 a8, .int .i64 a9]) :
    W.cell? ⟨q, 0, none⟩ = some (.int .i64 k) ∧ W.cell? ⟨q, 1, none⟩ = some (.int .u64 a1) ∧ W.cell? ⟨q, 2, none⟩ = some (.int .u64 a2) ∧ W.cell? ⟨q, 3, none⟩ = some (.string a3) ∧ W.cell? ⟨q, 4, none⟩ = some (.string a4) ∧
    W.cell? ⟨q, 5, none⟩ = some (.string a5) ∧ W.cell? ⟨q, 6, none⟩ = some (.string a6) ∧ W.cell? ⟨q, 7, none⟩ = some (.int .i64 a7) ∧ W.cell? ⟨q, 8, none⟩ = some (.int .i64 a8) ∧ W.cell? ⟨q, 9, none⟩ = some (.int .i64 a9) ∧
    W.cell? ⟨g, 0, none⟩ = some (.int .i64 X.c) ∧ W.cell? ⟨g, 1, none⟩ = some (.int .u64 X.last) ∧ W.cell? ⟨g, 2, none⟩ = some (.map (some gm)) ∧ W.cell? ⟨g, 3, none⟩ = some (.int .i64 X.op) :=
  ⟨blk_cell H.ev 0, blk_cell H.ev 1, blk_cell H.ev 2, blk_cell H.ev 3, blk_cell H.ev 4, blk_cell H.ev 5, blk_cell H.ev 6, blk_cell H.ev 7, blk_cell H.ev 8, blk_cell H.ev 9, H.ln.cell0, H.ln.cell1, H.ln.cell2, H.ln.cell3⟩
theorem InW.nog {w W : World} {g gm q : Nat} {X : LS} {E : Array Value} (H : InW w W g gm q X E) : q ≠ g := blk_ne H.ev H.ln.blk (by decide)
theorem cells_c (X : LS) (gm : Nat) (c : Int) (t : Int) : (((X.cells gm).setIfInBounds 0 (.int .i64 c)).setIfInBounds 1 (.int .u64 t)) = #[.int .i64 c, .int .u64 t, .map (some gm), .int .i64 X.op] := rfl
theorem Ln.take {W : World} {g gm : Nat} {X : LS} (h : Ln W g gm X) {C : Int} (hC : (X.c : Int) = C) (hc : C < 4096) (t : Int) : Ln ((W.setCell ⟨g, 0, none⟩ (.int .i64 (C + 1))).setCell ⟨g, 1, none⟩ (.int .u64 t)) g gm ⟨X.c + 1, t, X.op, X.D⟩ := by
  have hb := blk_set (blk_set h.blk 0 (.int .i64 (C + 1))) 1 (.int .u64 t)
  subst hC
  rw [cells_c] at hb
  have := h.lo
  have := h.hi
  refine ⟨hb, ?_, ?_, ?_, ?_⟩
  · exact ((h.own.setCell (a := ⟨g, 0, none⟩) (Ne.symm h.ne) _).setCell (a := ⟨g, 1, none⟩) (Ne.symm h.ne) _).mono (by simp)
  all_goals (simp only; omega)
/-- The map is written, in whatever draw. -/
theorem put_ex {W : World} {gm n : Nat} {D : DataW Unit} {id tv : Int} (h : W.ownsMap Tryd.prog 29 (plainElem Tryd.prog 3) gm n D) (hn : n ≤ 4096) (hw : (Lit.int .u64 id).wf = true) (hto : (Lit.int .i64 tv).wf = true) :
    ∃ f : Nat → World, (∀ i, (Instr.mapUpdate 44 (.map (some gm)) (.int .u64 id) (.int .i64 tv)).run Tryd.prog (W.drewN i) = .ok () (f i)) ∧ ∀ i, (f i).ownsMap Tryd.prog 29 (plainElem Tryd.prog 3) gm (n + 1) (D.put (.int .u64 id) (.lit (.int .i64 tv))) ∧ W.grownBy (f i) (some gm) := by
  have key : ∀ i, ∃ w', (Instr.mapUpdate 44 (.map (some gm)) (.int .u64 id) (.int .i64 tv)).run Tryd.prog (W.drewN i) = .ok () w' ∧ w'.ownsMap Tryd.prog 29 (plainElem Tryd.prog 3) gm (n + 1) (D.put (.int .u64 id) (.lit (.int .i64 tv))) ∧ (W.drewN i).grownBy w' (some gm) := fun i =>
    World.ownsMap.update (w := W.drewN i) (show World.ownsMap (W.drewN i) _ _ _ _ _ _ from h) keyed29 Tryd.underlying44 (by simp only [maxLen]; omega) (Go.Maps.keyOf_int_mk Tryd.underlying29 hw) (plainElem_int Tryd.underlying3 hto)
  refine ⟨fun i => Classical.choose (key i), fun i => (Classical.choose_spec (key i)).1, fun i => ⟨(Classical.choose_spec (key i)).2.1, ?_⟩⟩
  have hg := (Classical.choose_spec (key i)).2.2
  exact ⟨hg.os, hg.tape, hg.output, hg.size, hg.block⟩
theorem Ln.taken {W w1 : World} {g gm : Nat} {X : LS} (hb : W.heap[g]? = some (.cells (X.cells gm) 46 (0, 0))) (hne : g ≠ gm) (hg : W.grownBy w1 (some gm)) (ho : w1.ownsMap Tryd.prog 29 (plainElem Tryd.prog 3) gm X.c X.D) (h1 : X.c ≤ 4096) (h2 : -(X.c : Int) ≤ X.op) (h3 : X.op ≤ X.c) : Ln w1 g gm X :=
  ⟨blk_grown hb hg (by simpa using hne), ho, h1, h2, h3⟩
set_option maxHeartbeats 4000000 in
theorem feed_wrong {w : World} {g gm : Nat} {X : LS} (k : Int) (a1 a2 : Int) (a3 a4 a5 a6 : ByteArray) (a7 a8 a9 : Int) (hG : Glob w) (h : Ln w g gm X) (hr : rightF k a2 a3 a4 a5 a6 a7 a8 a9 = false) : Calls Tryd.prog 11 #[.pointer (some ⟨g, 0, none⟩), .agg #[.int .i64 k, .int .u64 a1, .int .u64 a2, .string a3, .string a4, .string a5, .string a6, .int .i64 a7, .int .i64 a8, .int .i64 a9]] w fun r w' => r = .returned (.int .i64 1) ∧ Ln w' g gm X ∧ Mv w w' g gm := by
  obtain ⟨W, hW⟩ : ∃ W, w.alloc (.cells #[.int .i64 k, .int .u64 a1, .int .u64 a2, .string a3, .string a4, .string a5, .string a6, .int .i64 a7, .int .i64 a8, .int .i64 a9] 31) = W := ⟨_, rfl⟩
  obtain ⟨q, hq⟩ : ∃ q, w.heap.size = q := ⟨_, rfl⟩
  have H := InW.start h #[.int .i64 k, .int .u64 a1, .int .u64 a2, .string a3, .string a4, .string a5, .string a6, .int .i64 a7, .int .i64 a8, .int .i64 a9]
  rw [hW, hq] at H
  have HI := Aside0.mk H
  obtain ⟨f0, f1, f2, f3, f4, f5, f6, f7, f8, f9, c0, c1, c2, c3⟩ := H.facts
  have HG := Aside0.mk (hG.below (by have hb := H.bel; exact hb))
  have HRT := Aside0.mk hr
  have HLE := Aside0.mk h.le
  have HOP := Aside0.mk (And.intro h.lo h.hi)
  obtain ⟨C, hC⟩ : ∃ C : Int, (X.c : Int) = C := ⟨_, rfl⟩
  obtain ⟨L, hL⟩ : ∃ L : Int, X.last = L := ⟨_, rfl⟩
  obtain ⟨O, hO⟩ : ∃ O : Int, X.op = O := ⟨_, rfl⟩
  rw [hC] at c0
  rw [hL] at c1
  rw [hO] at c3
  have HC := Aside0.mk hC
  have HL := Aside0.mk hL
  have HO := Aside0.mk hO
  clear H h hG hr hC hL hO
  go_enter Tryd.func11, Tryd.ntmps11
  go_wp2_with (fail)
  refine (right_calls k a1 a2 a3 a4 a5 a6 a7 a8 a9 W HG.out).mono ?_
  rw [HRT.out]
  rintro e w1 ⟨rfl, hb1⟩
  have H1 := HI.out.then_ hb1
  clear f0 f1 f2 f3 f4 f5 f6 f7 f8 f9 c0 c1 c2 c3 HI hb1
  have HI := Aside0.mk H1
  obtain ⟨f0, f1, f2, f3, f4, f5, f6, f7, f8, f9, c0, c1, c2, c3⟩ := H1.facts
  rw [HC.out] at c0
  rw [HL.out] at c1
  rw [HO.out] at c3
  clear H1
  go_wp2
  go_ret
  exact ⟨rfl, HI.out.ln, Mv.of_below HI.out.bel⟩
set_option maxHeartbeats 4000000 in
theorem feed_full {w : World} {g gm : Nat} {X : LS} (k : Int) (a1 a2 : Int) (a3 a4 a5 a6 : ByteArray) (a7 a8 a9 : Int) (hG : Glob w) (h : Ln w g gm X) (hr : rightF k a2 a3 a4 a5 a6 a7 a8 a9 = true) (hc : (X.c : Int) = 4096) : Calls Tryd.prog 11 #[.pointer (some ⟨g, 0, none⟩), .agg #[.int .i64 k, .int .u64 a1, .int .u64 a2, .string a3, .string a4, .string a5, .string a6, .int .i64 a7, .int .i64 a8, .int .i64 a9]] w fun r w' => r = .returned (.int .i64 5) ∧ Ln w' g gm X ∧ Mv w w' g gm := by
  obtain ⟨W, hW⟩ : ∃ W, w.alloc (.cells #[.int .i64 k, .int .u64 a1, .int .u64 a2, .string a3, .string a4, .string a5, .string a6, .int .i64 a7, .int .i64 a8, .int .i64 a9] 31) = W := ⟨_, rfl⟩
  obtain ⟨q, hq⟩ : ∃ q, w.heap.size = q := ⟨_, rfl⟩
  have H := InW.start h #[.int .i64 k, .int .u64 a1, .int .u64 a2, .string a3, .string a4, .string a5, .string a6, .int .i64 a7, .int .i64 a8, .int .i64 a9]
  rw [hW, hq] at H
  have HI := Aside0.mk H
  obtain ⟨f0, f1, f2, f3, f4, f5, f6, f7, f8, f9, c0, c1, c2, c3⟩ := H.facts
  have HG := Aside0.mk (hG.below (by have hb := H.bel; exact hb))
  have HRT := Aside0.mk hr
  have HLE := Aside0.mk h.le
  have HOP := Aside0.mk (And.intro h.lo h.hi)
  obtain ⟨C, hC⟩ : ∃ C : Int, (X.c : Int) = C := ⟨_, rfl⟩
  obtain ⟨L, hL⟩ : ∃ L : Int, X.last = L := ⟨_, rfl⟩
  obtain ⟨O, hO⟩ : ∃ O : Int, X.op = O := ⟨_, rfl⟩
  rw [hC] at c0
  rw [hL] at c1
  rw [hO] at c3
  have HC := Aside0.mk hC
  have HL := Aside0.mk hL
  have HO := Aside0.mk hO
  rw [hC] at hc
  subst hc
  clear H h hG hr hC hL hO
  go_enter Tryd.func11, Tryd.ntmps11
  go_wp2_with (fail)
  refine (right_calls k a1 a2 a3 a4 a5 a6 a7 a8 a9 W HG.out).mono ?_
  rw [HRT.out]
  rintro e w1 ⟨rfl, hb1⟩
  have H1 := HI.out.then_ hb1
  clear f0 f1 f2 f3 f4 f5 f6 f7 f8 f9 c0 c1 c2 c3 HI hb1
  have HI := Aside0.mk H1
  obtain ⟨f0, f1, f2, f3, f4, f5, f6, f7, f8, f9, c0, c1, c2, c3⟩ := H1.facts
  rw [HC.out] at c0
  rw [HL.out] at c1
  rw [HO.out] at c3
  clear H1
  go_wp2
  go_ret
  exact ⟨rfl, HI.out.ln, Mv.of_below HI.out.bel⟩
set_option maxHeartbeats 4000000 in
theorem feed_late {w : World} {g gm : Nat} {X : LS} (k : Int) (a1 a2 : Int) (a3 a4 a5 a6 : ByteArray) (a7 a8 a9 : Int) (hG : Glob w) (h : Ln w g gm X) (hr : rightF k a2 a3 a4 a5 a6 a7 a8 a9 = true) (hc : ((X.c : Int) == 4096) = false) (ht : decide (a1 < X.last) = true) : Calls Tryd.prog 11 #[.pointer (some ⟨g, 0, none⟩), .agg #[.int .i64 k, .int .u64 a1, .int .u64 a2, .string a3, .string a4, .string a5, .string a6, .int .i64 a7, .int .i64 a8, .int .i64 a9]] w fun r w' => r = .returned (.int .i64 6) ∧ Ln w' g gm X ∧ Mv w w' g gm := by
  obtain ⟨W, hW⟩ : ∃ W, w.alloc (.cells #[.int .i64 k, .int .u64 a1, .int .u64 a2, .string a3, .string a4, .string a5, .string a6, .int .i64 a7, .int .i64 a8, .int .i64 a9] 31) = W := ⟨_, rfl⟩
  obtain ⟨q, hq⟩ : ∃ q, w.heap.size = q := ⟨_, rfl⟩
  have H := InW.start h #[.int .i64 k, .int .u64 a1, .int .u64 a2, .string a3, .string a4, .string a5, .string a6, .int .i64 a7, .int .i64 a8, .int .i64 a9]
  rw [hW, hq] at H
  have HI := Aside0.mk H
  obtain ⟨f0, f1, f2, f3, f4, f5, f6, f7, f8, f9, c0, c1, c2, c3⟩ := H.facts
  have HG := Aside0.mk (hG.below (by have hb := H.bel; exact hb))
  have HRT := Aside0.mk hr
  have HLE := Aside0.mk h.le
  have HOP := Aside0.mk (And.intro h.lo h.hi)
  obtain ⟨C, hC⟩ : ∃ C : Int, (X.c : Int) = C := ⟨_, rfl⟩
  obtain ⟨L, hL⟩ : ∃ L : Int, X.last = L := ⟨_, rfl⟩
  obtain ⟨O, hO⟩ : ∃ O : Int, X.op = O := ⟨_, rfl⟩
  rw [hC] at c0
  rw [hL] at c1
  rw [hO] at c3
  have HC := Aside0.mk hC
  have HL := Aside0.mk hL
  have HO := Aside0.mk hO
  rw [hC] at hc
  rw [hL] at ht
  clear H h hG hr hC hL hO
  go_enter Tryd.func11, Tryd.ntmps11
  go_wp2_with (fail)
  refine (right_calls k a1 a2 a3 a4 a5 a6 a7 a8 a9 W HG.out).mono ?_
  rw [HRT.out]
  rintro e w1 ⟨rfl, hb1⟩
  have H1 := HI.out.then_ hb1
  clear f0 f1 f2 f3 f4 f5 f6 f7 f8 f9 c0 c1 c2 c3 HI hb1
  have HI := Aside0.mk H1
  obtain ⟨f0, f1, f2, f3, f4, f5, f6, f7, f8, f9, c0, c1, c2, c3⟩ := H1.facts
  rw [HC.out] at c0
  rw [HL.out] at c1
  rw [HO.out] at c3
  clear H1
  go_wp2
  go_quiet (fail)
  go_wp2
  go_ret
  exact ⟨rfl, HI.out.ln.below (pw_below_drewN (Below.refl _ _) _), Mv.of_below (pw_below_drewN HI.out.bel _)⟩
set_option maxHeartbeats 4000000 in
theorem feed_not {w : World} {g gm : Nat} {X : LS} (k : Int) (a1 a2 : Int) (a3 a4 a5 a6 : ByteArray) (a7 a8 a9 : Int) (hG : Glob w) (h : Ln w g gm X) (hr : rightF k a2 a3 a4 a5 a6 a7 a8 a9 = true) (hk : 1 ≤ k ∧ k ≤ 14) (hw : (Lit.int .u64 a2).wf = true) (hm : mayF X k a2 = false) (hc : ((X.c : Int) == 4096) = false) (ht : decide (a1 < X.last) = false) : Calls Tryd.prog 11 #[.pointer (some ⟨g, 0, none⟩), .agg #[.int .i64 k, .int .u64 a1, .int .u64 a2, .string a3, .string a4, .string a5, .string a6, .int .i64 a7, .int .i64 a8, .int .i64 a9]] w fun r w' => r = .returned (.int .i64 6) ∧ Ln w' g gm X ∧ Mv w w' g gm := by
  obtain ⟨W, hW⟩ : ∃ W, w.alloc (.cells #[.int .i64 k, .int .u64 a1, .int .u64 a2, .string a3, .string a4, .string a5, .string a6, .int .i64 a7, .int .i64 a8, .int .i64 a9] 31) = W := ⟨_, rfl⟩
  obtain ⟨q, hq⟩ : ∃ q, w.heap.size = q := ⟨_, rfl⟩
  have H := InW.start h #[.int .i64 k, .int .u64 a1, .int .u64 a2, .string a3, .string a4, .string a5, .string a6, .int .i64 a7, .int .i64 a8, .int .i64 a9]
  rw [hW, hq] at H
  have HI := Aside0.mk H
  obtain ⟨f0, f1, f2, f3, f4, f5, f6, f7, f8, f9, c0, c1, c2, c3⟩ := H.facts
  have HG := Aside0.mk (hG.below (by have hb := H.bel; exact hb))
  have HRT := Aside0.mk hr
  have HLE := Aside0.mk h.le
  have HOP := Aside0.mk (And.intro h.lo h.hi)
  obtain ⟨C, hC⟩ : ∃ C : Int, (X.c : Int) = C := ⟨_, rfl⟩
  obtain ⟨L, hL⟩ : ∃ L : Int, X.last = L := ⟨_, rfl⟩
  obtain ⟨O, hO⟩ : ∃ O : Int, X.op = O := ⟨_, rfl⟩
  rw [hC] at c0
  rw [hL] at c1
  rw [hO] at c3
  have HC := Aside0.mk hC
  have HL := Aside0.mk hL
  have HO := Aside0.mk hO
  have HK := Aside0.mk hk
  have HWF := Aside0.mk hw
  have HM := Aside0.mk hm
  rw [hC] at hc
  clear hk hw hm
  rw [hL] at ht
  clear H h hG hr hC hL hO
  go_enter Tryd.func11, Tryd.ntmps11
  go_wp2_with (fail)
  refine (right_calls k a1 a2 a3 a4 a5 a6 a7 a8 a9 W HG.out).mono ?_
  rw [HRT.out]
  rintro e w1 ⟨rfl, hb1⟩
  have H1 := HI.out.then_ hb1
  clear f0 f1 f2 f3 f4 f5 f6 f7 f8 f9 c0 c1 c2 c3 HI hb1
  have HI := Aside0.mk H1
  obtain ⟨f0, f1, f2, f3, f4, f5, f6, f7, f8, f9, c0, c1, c2, c3⟩ := H1.facts
  rw [HC.out] at c0
  rw [HL.out] at c1
  rw [HO.out] at c3
  clear H1
  go_wp2
  go_region_held3 (fun V => V.cell? ⟨q, 0, none⟩ = some (.int .i64 k) ∧ V.cell? ⟨q, 1, none⟩ = some (.int .u64 a1) ∧ V.cell? ⟨q, 2, none⟩ = some (.int .u64 a2) ∧ V.cell? ⟨q, 3, none⟩ = some (.string a3) ∧ V.cell? ⟨q, 4, none⟩ = some (.string a4) ∧ V.cell? ⟨q, 5, none⟩ = some (.string a5) ∧ V.cell? ⟨q, 6, none⟩ = some (.string a6) ∧ V.cell? ⟨q, 7, none⟩ = some (.int .i64 a7) ∧ V.cell? ⟨q, 8, none⟩ = some (.int .i64 a8) ∧ V.cell? ⟨q, 9, none⟩ = some (.int .i64 a9) ∧ V.cell? ⟨g, 1, none⟩ = some (.int .u64 L) ∧ Below w1.heap.size w1 V) (first | exact ⟨f0, f1, f2, f3, f4, f5, f6, f7, f8, f9, c1, pw_below_drewN (Below.refl _ _) _⟩ | exact ⟨f0, f1, f2, f3, f4, f5, f6, f7, f8, f9, c1, Below.refl _ _⟩ | exact ⟨g0, g1, g2, g3, g4, g5, g6, g7, g8, g9, d1, hb2⟩ | exact ⟨g0, g1, g2, g3, g4, g5, g6, g7, g8, g9, d1, pw_below_drewN hb2 _⟩) (first | (go_at_call 23; refine (may_calls k a1 a2 a3 a4 a5 a6 a7 a8 a9 (HI.out.ln.below (by first | exact pw_below_drewN (Below.refl _ _) _ | exact Below.refl _ _)) HK.out.1 HK.out.2 HWF.out).mono ?_; rw [HM.out]; rintro e w2 ⟨rfl, hb⟩; have hb2 : Below w1.heap.size w1 w2 := (by first | exact hb | exact below_then (pw_below_drewN (Below.refl _ _) 1) (Nat.le_refl _) hb); have H2 := HI.out.then_ hb2; have HI2 := Aside0.mk H2; obtain ⟨g0, g1, g2, g3, g4, g5, g6, g7, g8, g9, d0, d1, d2, d3⟩ := H2.facts; rw [HC.out] at d0; rw [HL.out] at d1; rw [HO.out] at d3; clear H2 hb))
  all_goals (go_wp2; go_ret; first | exact ⟨rfl, HI2.out.ln, Mv.of_below HI2.out.bel⟩ | exact ⟨rfl, HI2.out.ln.below (pw_below_drewN (Below.refl _ _) _), Mv.of_below (pw_below_drewN HI2.out.bel _)⟩)
set_option maxHeartbeats 4000000 in
theorem feed_over {w : World} {g gm : Nat} {X : LS} (a1 a2 : Int) (a3 a4 a5 a6 : ByteArray) (a7 a8 a9 : Int) (hG : Glob w) (h : Ln w g gm X) (hr : rightF 3 a2 a3 a4 a5 a6 a7 a8 a9 = true) (hw : (Lit.int .u64 a2).wf = true) (hm : mayF X 3 a2 = true) (hc : ((X.c : Int) == 4096) = false) (ht : decide (a1 < X.last) = false) (ho : X.op = 64) : Calls Tryd.prog 11 #[.pointer (some ⟨g, 0, none⟩), .agg #[.int .i64 3, .int .u64 a1, .int .u64 a2, .string a3, .string a4, .string a5, .string a6, .int .i64 a7, .int .i64 a8, .int .i64 a9]] w fun r w' => r = .returned (.int .i64 5) ∧ Ln w' g gm X ∧ Mv w w' g gm := by
  obtain ⟨W, hW⟩ : ∃ W, w.alloc (.cells #[.int .i64 3, .int .u64 a1, .int .u64 a2, .string a3, .string a4, .string a5, .string a6, .int .i64 a7, .int .i64 a8, .int .i64 a9] 31) = W := ⟨_, rfl⟩
  obtain ⟨q, hq⟩ : ∃ q, w.heap.size = q := ⟨_, rfl⟩
  have H := InW.start h #[.int .i64 3, .int .u64 a1, .int .u64 a2, .string a3, .string a4, .string a5, .string a6, .int .i64 a7, .int .i64 a8, .int .i64 a9]
  rw [hW, hq] at H
  have HI := Aside0.mk H
  obtain ⟨f0, f1, f2, f3, f4, f5, f6, f7, f8, f9, c0, c1, c2, c3⟩ := H.facts
  have HG := Aside0.mk (hG.below (by have hb := H.bel; exact hb))
  have HRT := Aside0.mk hr
  have HLE := Aside0.mk h.le
  have HOP := Aside0.mk (And.intro h.lo h.hi)
  obtain ⟨C, hC⟩ : ∃ C : Int, (X.c : Int) = C := ⟨_, rfl⟩
  obtain ⟨L, hL⟩ : ∃ L : Int, X.last = L := ⟨_, rfl⟩
  obtain ⟨O, hO⟩ : ∃ O : Int, X.op = O := ⟨_, rfl⟩
  rw [hC] at c0
  rw [hL] at c1
  rw [hO] at c3
  have HC := Aside0.mk hC
  have HL := Aside0.mk hL
  have HO := Aside0.mk hO
  have HWF := Aside0.mk hw
  have HM := Aside0.mk hm
  rw [hC] at hc
  rw [hL] at ht
  clear hw hm
  rw [hO] at ho
  subst ho
  clear H h hG hr hC hL hO
  go_enter Tryd.func11, Tryd.ntmps11
  go_wp2_with (fail)
  refine (right_calls (3) a1 a2 a3 a4 a5 a6 a7 a8 a9 W HG.out).mono ?_
  rw [HRT.out]
  rintro e w1 ⟨rfl, hb1⟩
  have H1 := HI.out.then_ hb1
  clear f0 f1 f2 f3 f4 f5 f6 f7 f8 f9 c0 c1 c2 c3 HI hb1
  have HI := Aside0.mk H1
  obtain ⟨f0, f1, f2, f3, f4, f5, f6, f7, f8, f9, c0, c1, c2, c3⟩ := H1.facts
  rw [HC.out] at c0
  rw [HL.out] at c1
  rw [HO.out] at c3
  clear H1
  go_wp2
  go_region_held3 (fun V => V.cell? ⟨q, 0, none⟩ = some (.int .i64 3) ∧ V.cell? ⟨q, 1, none⟩ = some (.int .u64 a1) ∧ V.cell? ⟨q, 2, none⟩ = some (.int .u64 a2) ∧ V.cell? ⟨q, 3, none⟩ = some (.string a3) ∧ V.cell? ⟨q, 4, none⟩ = some (.string a4) ∧ V.cell? ⟨q, 5, none⟩ = some (.string a5) ∧ V.cell? ⟨q, 6, none⟩ = some (.string a6) ∧ V.cell? ⟨q, 7, none⟩ = some (.int .i64 a7) ∧ V.cell? ⟨q, 8, none⟩ = some (.int .i64 a8) ∧ V.cell? ⟨q, 9, none⟩ = some (.int .i64 a9) ∧ V.cell? ⟨g, 1, none⟩ = some (.int .u64 L) ∧ Below w1.heap.size w1 V) (first | exact ⟨f0, f1, f2, f3, f4, f5, f6, f7, f8, f9, c1, pw_below_drewN (Below.refl _ _) _⟩ | exact ⟨f0, f1, f2, f3, f4, f5, f6, f7, f8, f9, c1, Below.refl _ _⟩ | exact ⟨g0, g1, g2, g3, g4, g5, g6, g7, g8, g9, d1, hb2⟩ | exact ⟨g0, g1, g2, g3, g4, g5, g6, g7, g8, g9, d1, pw_below_drewN hb2 _⟩) (first | (go_at_call 23; refine (may_calls (3) a1 a2 a3 a4 a5 a6 a7 a8 a9 (HI.out.ln.below (by first | exact pw_below_drewN (Below.refl _ _) _ | exact Below.refl _ _)) (by decide) (by decide) HWF.out).mono ?_; rw [HM.out]; rintro e w2 ⟨rfl, hb⟩; have hb2 : Below w1.heap.size w1 w2 := (by first | exact hb | exact below_then (pw_below_drewN (Below.refl _ _) 1) (Nat.le_refl _) hb); have H2 := HI.out.then_ hb2; have HI2 := Aside0.mk H2; obtain ⟨g0, g1, g2, g3, g4, g5, g6, g7, g8, g9, d0, d1, d2, d3⟩ := H2.facts; rw [HC.out] at d0; rw [HL.out] at d1; rw [HO.out] at d3; clear H2 hb))
  all_goals (go_wp2; go_ret; first | exact ⟨rfl, HI2.out.ln, Mv.of_below HI2.out.bel⟩ | exact ⟨rfl, HI2.out.ln.below (pw_below_drewN (Below.refl _ _) _), Mv.of_below (pw_below_drewN HI2.out.bel _)⟩)
set_option maxHeartbeats 4000000 in
theorem feed_page {w : World} {g gm : Nat} {X : LS} (a1 a2 : Int) (a3 a4 a5 a6 : ByteArray) (a7 a8 a9 : Int) (hG : Glob w) (h : Ln w g gm X) (hr : rightF 1 a2 a3 a4 a5 a6 a7 a8 a9 = true) (hw : (Lit.int .u64 a2).wf = true) (hm : mayF X 1 a2 = true) (hc : ((X.c : Int) == 4096) = false) (ht : decide (a1 < X.last) = false) : Calls Tryd.prog 11 #[.pointer (some ⟨g, 0, none⟩), .agg #[.int .i64 1, .int .u64 a1, .int .u64 a2, .string a3, .string a4, .string a5, .string a6, .int .i64 a7, .int .i64 a8, .int .i64 a9]] w fun r w' => r = .returned (.int .i64 0) ∧ Ln w' g gm ⟨X.c + 1, a1, X.op, X.D⟩ ∧ Mv w w' g gm := by
  obtain ⟨W, hW⟩ : ∃ W, w.alloc (.cells #[.int .i64 1, .int .u64 a1, .int .u64 a2, .string a3, .string a4, .string a5, .string a6, .int .i64 a7, .int .i64 a8, .int .i64 a9] 31) = W := ⟨_, rfl⟩
  obtain ⟨q, hq⟩ : ∃ q, w.heap.size = q := ⟨_, rfl⟩
  have H := InW.start h #[.int .i64 1, .int .u64 a1, .int .u64 a2, .string a3, .string a4, .string a5, .string a6, .int .i64 a7, .int .i64 a8, .int .i64 a9]
  rw [hW, hq] at H
  have HI := Aside0.mk H
  obtain ⟨f0, f1, f2, f3, f4, f5, f6, f7, f8, f9, c0, c1, c2, c3⟩ := H.facts
  have HG := Aside0.mk (hG.below (by have hb := H.bel; exact hb))
  have HRT := Aside0.mk hr
  have HLE := Aside0.mk h.le
  have HOP := Aside0.mk (And.intro h.lo h.hi)
  obtain ⟨C, hC⟩ : ∃ C : Int, (X.c : Int) = C := ⟨_, rfl⟩
  obtain ⟨L, hL⟩ : ∃ L : Int, X.last = L := ⟨_, rfl⟩
  obtain ⟨O, hO⟩ : ∃ O : Int, X.op = O := ⟨_, rfl⟩
  rw [hC] at c0
  rw [hL] at c1
  rw [hO] at c3
  have HC := Aside0.mk hC
  have HL := Aside0.mk hL
  have HO := Aside0.mk hO
  have HWF := Aside0.mk hw
  have HM := Aside0.mk hm
  rw [hC] at hc
  rw [hL] at ht
  clear hw hm
  have hC0 : 0 ≤ C := by omega
  have hC1 : C < 4096 := by have := h.le; have := beq_eq_false_iff_ne.1 hc; omega
  clear H h hG hr hC hL hO
  go_enter Tryd.func11, Tryd.ntmps11
  go_wp2_with (fail)
  refine (right_calls (1) a1 a2 a3 a4 a5 a6 a7 a8 a9 W HG.out).mono ?_
  rw [HRT.out]
  rintro e w1 ⟨rfl, hb1⟩
  have H1 := HI.out.then_ hb1
  clear f0 f1 f2 f3 f4 f5 f6 f7 f8 f9 c0 c1 c2 c3 HI hb1
  have HI := Aside0.mk H1
  obtain ⟨f0, f1, f2, f3, f4, f5, f6, f7, f8, f9, c0, c1, c2, c3⟩ := H1.facts
  rw [HC.out] at c0
  rw [HL.out] at c1
  rw [HO.out] at c3
  clear H1
  go_wp2
  go_region_held3 (fun V => V.cell? ⟨q, 0, none⟩ = some (.int .i64 1) ∧ V.cell? ⟨q, 1, none⟩ = some (.int .u64 a1) ∧ V.cell? ⟨q, 2, none⟩ = some (.int .u64 a2) ∧ V.cell? ⟨q, 3, none⟩ = some (.string a3) ∧ V.cell? ⟨q, 4, none⟩ = some (.string a4) ∧ V.cell? ⟨q, 5, none⟩ = some (.string a5) ∧ V.cell? ⟨q, 6, none⟩ = some (.string a6) ∧ V.cell? ⟨q, 7, none⟩ = some (.int .i64 a7) ∧ V.cell? ⟨q, 8, none⟩ = some (.int .i64 a8) ∧ V.cell? ⟨q, 9, none⟩ = some (.int .i64 a9) ∧ V.cell? ⟨g, 1, none⟩ = some (.int .u64 L) ∧ Below w1.heap.size w1 V) (first | exact ⟨f0, f1, f2, f3, f4, f5, f6, f7, f8, f9, c1, pw_below_drewN (Below.refl _ _) _⟩ | exact ⟨f0, f1, f2, f3, f4, f5, f6, f7, f8, f9, c1, Below.refl _ _⟩ | exact ⟨g0, g1, g2, g3, g4, g5, g6, g7, g8, g9, d1, hb2⟩ | exact ⟨g0, g1, g2, g3, g4, g5, g6, g7, g8, g9, d1, pw_below_drewN hb2 _⟩) (first | (go_at_call 23; refine (may_calls (1) a1 a2 a3 a4 a5 a6 a7 a8 a9 (HI.out.ln.below (by first | exact pw_below_drewN (Below.refl _ _) _ | exact Below.refl _ _)) (by decide) (by decide) HWF.out).mono ?_; rw [HM.out]; rintro e w2 ⟨rfl, hb⟩; have hb2 : Below w1.heap.size w1 w2 := (by first | exact hb | exact below_then (pw_below_drewN (Below.refl _ _) 1) (Nat.le_refl _) hb); have H2 := HI.out.then_ hb2; have HI2 := Aside0.mk H2; obtain ⟨g0, g1, g2, g3, g4, g5, g6, g7, g8, g9, d0, d1, d2, d3⟩ := H2.facts; rw [HC.out] at d0; rw [HL.out] at d1; rw [HO.out] at d3; clear H2 hb))
  have HI2f := blk_frozen HI2.out.ln.blk
  have fz0 := HI2f 0
  have fz1 := HI2f 1
  have fz3 := HI2f 3
  clear HI2f
  have nqg := HI2.out.nog
  have ngq := Ne.symm nqg
  all_goals (go_wp2; go_ret; exact ⟨rfl, HI2.out.ln.take HC.out hC1 a1, ((Mv.of_below HI2.out.bel).set 0 _).set 1 _⟩)
set_option maxHeartbeats 4000000 in
theorem feed_policy {w : World} {g gm : Nat} {X : LS} (a1 a2 : Int) (a3 a4 a5 a6 : ByteArray) (a7 a8 a9 : Int) (hG : Glob w) (h : Ln w g gm X) (hr : rightF 2 a2 a3 a4 a5 a6 a7 a8 a9 = true) (hw : (Lit.int .u64 a2).wf = true) (hm : mayF X 2 a2 = true) (hc : ((X.c : Int) == 4096) = false) (ht : decide (a1 < X.last) = false) : Calls Tryd.prog 11 #[.pointer (some ⟨g, 0, none⟩), .agg #[.int .i64 2, .int .u64 a1, .int .u64 a2, .string a3, .string a4, .string a5, .string a6, .int .i64 a7, .int .i64 a8, .int .i64 a9]] w fun r w' => r = .returned (.int .i64 0) ∧ Ln w' g gm ⟨X.c + 1, a1, X.op, X.D⟩ ∧ Mv w w' g gm := by
  obtain ⟨W, hW⟩ : ∃ W, w.alloc (.cells #[.int .i64 2, .int .u64 a1, .int .u64 a2, .string a3, .string a4, .string a5, .string a6, .int .i64 a7, .int .i64 a8, .int .i64 a9] 31) = W := ⟨_, rfl⟩
  obtain ⟨q, hq⟩ : ∃ q, w.heap.size = q := ⟨_, rfl⟩
  have H := InW.start h #[.int .i64 2, .int .u64 a1, .int .u64 a2, .string a3, .string a4, .string a5, .string a6, .int .i64 a7, .int .i64 a8, .int .i64 a9]
  rw [hW, hq] at H
  have HI := Aside0.mk H
  obtain ⟨f0, f1, f2, f3, f4, f5, f6, f7, f8, f9, c0, c1, c2, c3⟩ := H.facts
  have HG := Aside0.mk (hG.below (by have hb := H.bel; exact hb))
  have HRT := Aside0.mk hr
  have HLE := Aside0.mk h.le
  have HOP := Aside0.mk (And.intro h.lo h.hi)
  obtain ⟨C, hC⟩ : ∃ C : Int, (X.c : Int) = C := ⟨_, rfl⟩
  obtain ⟨L, hL⟩ : ∃ L : Int, X.last = L := ⟨_, rfl⟩
  obtain ⟨O, hO⟩ : ∃ O : Int, X.op = O := ⟨_, rfl⟩
  rw [hC] at c0
  rw [hL] at c1
  rw [hO] at c3
  have HC := Aside0.mk hC
  have HL := Aside0.mk hL
  have HO := Aside0.mk hO
  have HWF := Aside0.mk hw
  have HM := Aside0.mk hm
  rw [hC] at hc
  rw [hL] at ht
  clear hw hm
  have hC0 : 0 ≤ C := by omega
  have hC1 : C < 4096 := by have := h.le; have := beq_eq_false_iff_ne.1 hc; omega
  clear H h hG hr hC hL hO
  go_enter Tryd.func11, Tryd.ntmps11
  go_wp2_with (fail)
  refine (right_calls (2) a1 a2 a3 a4 a5 a6 a7 a8 a9 W HG.out).mono ?_
  rw [HRT.out]
  rintro e w1 ⟨rfl, hb1⟩
  have H1 := HI.out.then_ hb1
  clear f0 f1 f2 f3 f4 f5 f6 f7 f8 f9 c0 c1 c2 c3 HI hb1
  have HI := Aside0.mk H1
  obtain ⟨f0, f1, f2, f3, f4, f5, f6, f7, f8, f9, c0, c1, c2, c3⟩ := H1.facts
  rw [HC.out] at c0
  rw [HL.out] at c1
  rw [HO.out] at c3
  clear H1
  go_wp2
  go_region_held3 (fun V => V.cell? ⟨q, 0, none⟩ = some (.int .i64 2) ∧ V.cell? ⟨q, 1, none⟩ = some (.int .u64 a1) ∧ V.cell? ⟨q, 2, none⟩ = some (.int .u64 a2) ∧ V.cell? ⟨q, 3, none⟩ = some (.string a3) ∧ V.cell? ⟨q, 4, none⟩ = some (.string a4) ∧ V.cell? ⟨q, 5, none⟩ = some (.string a5) ∧ V.cell? ⟨q, 6, none⟩ = some (.string a6) ∧ V.cell? ⟨q, 7, none⟩ = some (.int .i64 a7) ∧ V.cell? ⟨q, 8, none⟩ = some (.int .i64 a8) ∧ V.cell? ⟨q, 9, none⟩ = some (.int .i64 a9) ∧ V.cell? ⟨g, 1, none⟩ = some (.int .u64 L) ∧ Below w1.heap.size w1 V) (first | exact ⟨f0, f1, f2, f3, f4, f5, f6, f7, f8, f9, c1, pw_below_drewN (Below.refl _ _) _⟩ | exact ⟨f0, f1, f2, f3, f4, f5, f6, f7, f8, f9, c1, Below.refl _ _⟩ | exact ⟨g0, g1, g2, g3, g4, g5, g6, g7, g8, g9, d1, hb2⟩ | exact ⟨g0, g1, g2, g3, g4, g5, g6, g7, g8, g9, d1, pw_below_drewN hb2 _⟩) (first | (go_at_call 23; refine (may_calls (2) a1 a2 a3 a4 a5 a6 a7 a8 a9 (HI.out.ln.below (by first | exact pw_below_drewN (Below.refl _ _) _ | exact Below.refl _ _)) (by decide) (by decide) HWF.out).mono ?_; rw [HM.out]; rintro e w2 ⟨rfl, hb⟩; have hb2 : Below w1.heap.size w1 w2 := (by first | exact hb | exact below_then (pw_below_drewN (Below.refl _ _) 1) (Nat.le_refl _) hb); have H2 := HI.out.then_ hb2; have HI2 := Aside0.mk H2; obtain ⟨g0, g1, g2, g3, g4, g5, g6, g7, g8, g9, d0, d1, d2, d3⟩ := H2.facts; rw [HC.out] at d0; rw [HL.out] at d1; rw [HO.out] at d3; clear H2 hb))
  have HI2f := blk_frozen HI2.out.ln.blk
  have fz0 := HI2f 0
  have fz1 := HI2f 1
  have fz3 := HI2f 3
  clear HI2f
  have nqg := HI2.out.nog
  have ngq := Ne.symm nqg
  all_goals (go_wp2; go_ret; exact ⟨rfl, HI2.out.ln.take HC.out hC1 a1, ((Mv.of_below HI2.out.bel).set 0 _).set 1 _⟩)
end Go.Proofs.YtjflbjlkcifpdaaDoor.Ext
