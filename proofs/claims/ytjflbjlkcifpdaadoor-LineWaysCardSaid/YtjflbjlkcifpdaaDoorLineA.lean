/- The line: its state, its small functions, by hand. -/
import Derived.Test.YtjflbjlkcifpdaaDoorRight
import Derived.Maps.OwnSet
namespace Go.Proofs.YtjflbjlkcifpdaaDoor.Ext
open Go.RowKit Go.Proofs.YtjflbjlkcifpdaaDoorW.PrintWords Go.Proofs.YtjflbjlkcifpdaaDoorW.PrintLast Go.Proofs.YtjflbjlkcifpdaaDoorW.PrintMore
open Go.Maps (Keyed)
set_option linter.unusedVariables false
set_option linter.unusedSimpArgs false
/-- What a line knows: how many it took, the last one's time, how many are open, all states. -/
structure LS where
  c : Nat
  last : Int
  op : Int
  D : DataW Unit
def LS.cells (X : LS) (gm : Nat) : Array Value := #[.int .i64 X.c, .int .u64 X.last, .map (some gm), .int .i64 X.op]
structure Ln (W : World) (g gm : Nat) (X : LS) : Prop where
  blk : W.heap[g]? = some (.cells (X.cells gm) 46 (0, 0))
  own : W.ownsMap Tryd.prog 29 (plainElem Tryd.prog 3) gm X.c X.D
  le : X.c ≤ 4096
  lo : -(X.c : Int) ≤ X.op
  hi : X.op ≤ X.c
section
variable {W W' : World} {g gm : Nat} {X : LS}
theorem Ln.step (h : Ln W g gm X) (hg : W'.heap[g]? = W.heap[g]?) (hm : W'.heap[gm]? = W.heap[gm]?) : Ln W' g gm X := by
  obtain ⟨hb, ⟨es, clock, he, r⟩, a, b, c⟩ := h
  exact ⟨hg.trans hb, ⟨es, clock, hm.trans he, r⟩, a, b, c⟩
theorem Ln.lt (h : Ln W g gm X) : g < W.heap.size := blk_lt h.blk
theorem Ln.ltm (h : Ln W g gm X) : gm < W.heap.size := h.own.lt
theorem Ln.ne (h : Ln W g gm X) : g ≠ gm := by
  obtain ⟨hb, ⟨es, clock, he, r⟩, _⟩ := h
  intro e
  rw [e, he] at hb
  cases hb
theorem Ln.below (h : Ln W g gm X) (hb : Below W.heap.size W W') : Ln W' g gm X := h.step (hb.block g h.lt) (hb.block gm h.ltm)
theorem Ln.cell (h : Ln W g gm X) (i : Nat) : W.cell? ⟨g, i, none⟩ = (X.cells gm)[i]? := blk_cell h.blk i
theorem Ln.cell0 (h : Ln W g gm X) : W.cell? ⟨g, 0, none⟩ = some (.int .i64 X.c) := h.cell 0
theorem Ln.cell1 (h : Ln W g gm X) : W.cell? ⟨g, 1, none⟩ = some (.int .u64 X.last) := h.cell 1
theorem Ln.cell2 (h : Ln W g gm X) : W.cell? ⟨g, 2, none⟩ = some (.map (some gm)) := h.cell 2
theorem Ln.cell3 (h : Ln W g gm X) : W.cell? ⟨g, 3, none⟩ = some (.int .i64 X.op) := h.cell 3
end
theorem keyed29 : Keyed Tryd.prog 29 := Go.Maps.int_keyed Tryd.underlying29
theorem zero3 (w : World) : (zeroValue 3).run Tryd.prog w = .ok (.int .i64 0) w := by simp [go_sem]
/-- A fetch's state. -/
def LS.st (X : LS) (id : Int) : Int := match X.D.atKey (.int .u64 id) (.lit (.int .i64 0)) with
  | .lit (.int _ c) => c
  | _ => 0
def L0 : LS := ⟨0, 0, 0, .map []⟩
theorem count_calls {W : World} {g gm : Nat} {X : LS} (h : Ln W g gm X) : Calls Tryd.prog 16 #[.pointer (some ⟨g, 0, none⟩)] W fun e w' => e = .returned (.int .i64 X.c) ∧ w' = W := by
  have c0 := h.cell0
  go_enter Tryd.func16, Tryd.ntmps16
  go_wp2
  go_ret
  exact ⟨rfl, rfl⟩
theorem open_calls {W : World} {g gm : Nat} {X : LS} (h : Ln W g gm X) : Calls Tryd.prog 14 #[.pointer (some ⟨g, 0, none⟩)] W fun e w' => e = .returned (.int .i64 X.op) ∧ w' = W := by
  have c0 := h.cell3
  go_enter Tryd.func14, Tryd.ntmps14
  go_wp2
  go_ret
  exact ⟨rfl, rfl⟩
theorem last_calls {W : World} {g gm : Nat} {X : LS} (h : Ln W g gm X) : Calls Tryd.prog 18 #[.pointer (some ⟨g, 0, none⟩)] W fun e w' => e = .returned (.int .u64 X.last) ∧ w' = W := by
  have c0 := h.cell1
  go_enter Tryd.func18, Tryd.ntmps18
  go_wp2
  go_ret
  exact ⟨rfl, rfl⟩
theorem Ln.look {W : World} {g gm : Nat} {X : LS} (h : Ln W g gm X) {id : Int} (hw : (Lit.int .u64 id).wf = true) : (Instr.lookup 44 (.map (some gm)) (.int .u64 id) false).run Tryd.prog W = .ok (.int .i64 (X.st id)) W := by
  obtain ⟨c, h1, h2, _⟩ := h.own.lookup_int keyed29 Tryd.underlying44 Tryd.underlying3 (zero3 W) (Go.Maps.keyOf_int_mk Tryd.underlying29 hw)
  rw [h1]
  unfold LS.st
  rw [h2]
theorem Ln.look2 {W : World} {g gm : Nat} {X : LS} (h : Ln W g gm X) {id : Int} (hw : (Lit.int .u64 id).wf = true) : (Instr.lookup 44 (.map (some gm)) (.int .u64 id) true).run Tryd.prog W = .ok (.tuple #[.int .i64 (X.st id), .bool (Go.Maps.has X.D (.int .u64 id))]) W := by
  obtain ⟨v, ps, h1, h2⟩ := h.own.look_ok keyed29 Tryd.underlying44 (zero3 W) (plainElem_int Tryd.underlying3 (by decide)) (Go.Maps.keyOf_int_mk Tryd.underlying29 hw)
  obtain ⟨c, rfl, h3, _⟩ := plainElem_int_inv Tryd.underlying3 h2
  rw [h1]
  unfold LS.st
  have h4 := congrArg Prod.fst h3
  simp only at h4
  rw [h4]
theorem state_calls {W : World} {g gm : Nat} {X : LS} (h : Ln W g gm X) {id : Int} (hw : (Lit.int .u64 id).wf = true) : Calls Tryd.prog 13 #[.pointer (some ⟨g, 0, none⟩), .int .u64 id] W fun e w' => e = .returned (.int .i64 (X.st id)) ∧ w' = W := by
  have c0 := h.cell2
  have hl := h.look hw
  generalize X.st id = s at *
  go_enter Tryd.func13, Tryd.ntmps13
  go_wp2
  go_ret
  exact ⟨rfl, rfl⟩
theorem new_calls (w : World) : Calls Tryd.prog 10 #[] w fun e w' => ∃ g gm, e = .returned (.pointer (some ⟨g, 0, none⟩)) ∧ Ln w' g gm L0 ∧ w.heap.size ≤ g ∧ w.heap.size ≤ gm ∧ Below w.heap.size w w' := by
  have hmm := @run_makeMap Tryd.prog
  go_enter Tryd.func10, Tryd.ntmps10
  go_wp2
  go_ret
  refine ⟨_, w.heap.size, rfl, ⟨?_, ?_, by decide, by decide, by decide⟩, ?_, ?_, ?_⟩
  · rw [← (show (w.alloc (.map #[] 0)).heap.size = w.heap.size + 1 by simp)]; exact blk_new _ _
  · exact (World.ownsMap_made w Tryd.prog 29 _).alloc _
  · simp
  · simp
  · exact below_alloc (below_alloc (Below.refl _ _) _) _
end Go.Proofs.YtjflbjlkcifpdaaDoor.Ext
