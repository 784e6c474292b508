/- The queue: entries by pointer, each with its place. What the stores leave. -/
import Derived.Test.YtkomjplajfjpkaaHea
import Derived.Test.YtkomjplajfjpkaaWWords
import Derived.Test.YtkomjplajfjpkaaWLast
import Derived.Test.YtkomjplajfjpkaaWMore
import Derived.Test.YtkomjplajfjpkaaWGuard
import Derived.Test.YtkomjplajfjpkaaProg
import Derived.Handy
import Derived.Maps.OwnSet
import Derived.Deep.RegionHeld3
namespace Go.Proofs.Ytkomjplajfjpkaa.Ext
open Go.RowKit Go.Proofs.Ytkomjplajfjpkaa.Hea Go.Proofs.YtkomjplajfjpkaaW.PrintWords Go.Proofs.YtkomjplajfjpkaaW.PrintLast Go.Proofs.YtkomjplajfjpkaaW.PrintMore
set_option linter.unusedVariables false
set_option linter.unusedSimpArgs false
def pv (b : Nat) : Value := .pointer (some ⟨b, 0, none⟩)
def ptrs (l : List Ent) : List Value := l.map (fun e => pv e.b)
/-- All is as it was but for the blocks of F (and what is new). -/
structure Mvs (F : Nat → Prop) (w w' : World) : Prop where
  os : w'.os = w.os
  tape : w'.tape = w.tape
  output : w'.output = w.output
  size : w.heap.size ≤ w'.heap.size
  block : ∀ k, k < w.heap.size → ¬ F k → w'.heap[k]? = w.heap[k]?
section
variable {F G : Nat → Prop} {a w w' w1 : World}
theorem Mvs.of_below (h : Below w.heap.size w w') : Mvs F w w' := ⟨h.os, h.tape, h.output, h.size, fun k hk _ => h.block k hk⟩
theorem Mvs.refl (w : World) : Mvs F w w := Mvs.of_below (Below.refl _ _)
theorem Mvs.trans (h : Mvs F w w') (k : Mvs G w' w1) (hG : ∀ i, G i → F i ∨ w.heap.size ≤ i) : Mvs F w w1 :=
  ⟨k.os.trans h.os, k.tape.trans h.tape, k.output.trans h.output, Nat.le_trans h.size k.size, fun i hi h1 => (k.block i (Nat.lt_of_lt_of_le hi h.size) (fun hg => (hG i hg).elim h1 (fun h2 => by omega))).trans (h.block i hi h1)⟩
theorem Mvs.trans' (h : Mvs F w w') (k : Mvs F w' w1) : Mvs F w w1 := h.trans k (fun i hi => .inl hi)
theorem Mvs.below {B : Nat} (hb : Below B a w) (hB : B ≤ w.heap.size) (h : Mvs F w w') (hF : ∀ k, F k → B ≤ k) : Below B a w' :=
  ⟨h.os.trans hb.os, h.tape.trans hb.tape, h.output.trans hb.output, Nat.le_trans hb.size h.size, fun k hk => (h.block k (by omega) (fun hf => by have := hF k hf; omega)).trans (hb.block k hk)⟩
theorem Mvs.set (h : Mvs F w w') {p : Addr} (hp : F p.block) (u : Value) : Mvs F w (w'.setCell p u) :=
  ⟨h.os, h.tape, h.output, by simpa [World.setCell] using h.size, fun k hk h1 => (Below.heap_setCell _ _ _ _ (fun e => h1 (by rw [e]; exact hp))).trans (h.block k hk h1)⟩
theorem Mvs.drewN (h : Mvs F w w') (n : Nat) : Mvs F w (w'.drewN n) := ⟨h.os, h.tape, h.output, h.size, h.block⟩
theorem Mvs.grown {row : Option Nat} (h : Mvs F w w') (hg : w'.grownBy w1 row) (hr : ∀ k, row = some k → F k) : Mvs F w w1 :=
  h.trans' ⟨hg.os, hg.tape, hg.output, hg.size, fun k hk h2 => hg.block k hk (fun e => h2 (hr k e.symm))⟩
theorem Mvs.mono (h : Mvs F w w') (hG : ∀ k, F k → G k) : Mvs G w w' := ⟨h.os, h.tape, h.output, h.size, fun k hk h2 => h.block k hk (fun hf => h2 (hG k hf))⟩
end
/-- The queue of the cache at c, its slice v, its entries l, each with what it says of its place. -/
structure Q0 (W : World) (c gm : Nat) (o : Obj) (F : Nat → Prop) (v : Value) (l : List Ent) (a : Nat → Int) : Prop where
  blk : W.heap[c]? = some (.cells #[.map (some gm), v] 51 (0, 0))
  mp : W.heap[gm]? = some o
  mo : ∃ es clock, o = .map es clock
  row : W.ownsRow 0 54 1 v l.length (ptrs l)
  ent : ∀ i, i < l.length → W.heap[(at_ l i).b]? = some (.cells #[.string (at_ l i).k, .int .u64 (at_ l i).t, .int .i64 (a i)] 53 (0, 0))
  nd : ∀ i j, i < l.length → j < l.length → (at_ l i).b = (at_ l j).b → i = j
  fc : F c
  fm : F gm
  fv : ∀ k, v.ownBlock = some k → F k
  fe : ∀ i, i < l.length → F (at_ l i).b
  lt : ∀ k, F k → k < W.heap.size
  sm : l.length ≤ 4096
def Qu (W : World) (c gm : Nat) (o : Obj) (F : Nat → Prop) (v : Value) (l : List Ent) : Prop := Q0 W c gm o F v l (fun i => (i : Int))
theorem at_ptrs (l : List Ent) {i : Nat} (h : i < l.length) : (ptrs l)[i]? = some (pv (at_ l i).b) := by
  unfold ptrs; rw [List.getElem?_map, at_some h]; rfl
theorem ptrs_set (l : List Ent) (i : Nat) (e : Ent) : ptrs (l.set i e) = (ptrs l).set i (pv e.b) := by
  unfold ptrs; rw [List.map_set]
theorem ownsRow_set {w : World} {base e : Nat} {g n cap : Nat} {xs : List Value} (h : w.ownsRow base e 1 (.slice (some ⟨g, 0, none⟩) n cap) n xs) {i : Nat} (hi : i < n) (u : Value) : (w.setCell ⟨g, i, none⟩ u).ownsRow base e 1 (.slice (some ⟨g, 0, none⟩) n cap) n (xs.set i u) := by
  obtain ⟨h1, h2⟩ := h
  refine ⟨by simpa using h1, ?_⟩
  rcases h2 with ⟨hv, _⟩ | ⟨g', cap', cur, hv, hg, hh, hn, hm, hc, ht⟩
  · cases hv
  · injection hv with e1 e2 e3
    injection e1 with e1
    injection e1 with e1
    subst e1; subst e3
    refine .inr ⟨g, cap, cur.setIfInBounds i u, rfl, hg, blk_set hh i u, hn, hm, by simpa using hc, ?_⟩
    rw [Array.toList_setIfInBounds, List.take_set, ht]
section
variable {W W' : World} {c gm : Nat} {o : Obj} {F : Nat → Prop} {v : Value} {l : List Ent} {a a' : Nat → Int}
theorem Q0.step (h : Q0 W c gm o F v l a) (hs : W.heap.size ≤ W'.heap.size) (hk : ∀ k, F k → W'.heap[k]? = W.heap[k]?) : Q0 W' c gm o F v l a :=
  ⟨(hk c h.fc).trans h.blk, (hk gm h.fm).trans h.mp, h.mo, own_move h.row (fun k hv => hk k (h.fv k hv)), fun i hi => (hk _ (h.fe i hi)).trans (h.ent i hi), h.nd, h.fc, h.fm, h.fv, h.fe, fun k hf => Nat.lt_of_lt_of_le (h.lt k hf) hs, h.sm⟩
theorem Q0.below (h : Q0 W c gm o F v l a) (hb : Below W.heap.size W W') : Q0 W' c gm o F v l a := h.step hb.size (fun k hk => hb.block k (h.lt k hk))
theorem Q0.drewN (h : Q0 W c gm o F v l a) (n : Nat) : Q0 (W.drewN n) c gm o F v l a := h.step (Nat.le_refl _) (fun k _ => rfl)
theorem Q0.congr (h : Q0 W c gm o F v l a) (ha : ∀ i, i < l.length → a i = a' i) : Q0 W c gm o F v l a' :=
  ⟨h.blk, h.mp, h.mo, h.row, fun i hi => by rw [← ha i hi]; exact h.ent i hi, h.nd, h.fc, h.fm, h.fv, h.fe, h.lt, h.sm⟩
theorem Q0.form (h : Q0 W c gm o F v l a) : ∃ A cap, v = .slice A l.length cap := by
  rcases h.row.2 with ⟨hv, hn⟩ | ⟨g, cap, cur, hv, _⟩
  · exact ⟨none, 0, by rw [hv, hn]⟩
  · exact ⟨_, cap, hv⟩
theorem Q0.slot (h : Q0 W c gm o F v l a) {i : Nat} (hi : i < l.length) : ∃ g cap, v = .slice (some ⟨g, 0, none⟩) l.length cap := by
  rcases h.row.2 with ⟨hv, hn⟩ | ⟨g, cap, cur, hv, _⟩
  · omega
  · exact ⟨g, cap, hv⟩
theorem Q0.typ (h : Q0 W c gm o F v l a) {k : Nat} (hk : v.ownBlock = some k) : ∃ cells, W.heap[k]? = some (.cells cells 54 (0, 0)) := own_typed h.row k hk
theorem Q0.cell0 (h : Q0 W c gm o F v l a) : W.cell? ⟨c, 0, none⟩ = some (.map (some gm)) := blk_cell h.blk 0
theorem Q0.cell1 (h : Q0 W c gm o F v l a) : W.cell? ⟨c, 1, none⟩ = some v := blk_cell h.blk 1
theorem Q0.cellq {g n cap : Nat} (h : Q0 W c gm o F (.slice (some ⟨g, 0, none⟩) n cap) l a) {i : Nat} (hi : i < l.length) : W.cell? ⟨g, i, none⟩ = some (pv (at_ l i).b) := by
  rcases h.row.2 with ⟨hv, hn⟩ | ⟨g', cap', cur, hv, hg, hh, hn, hm, hc, ht⟩
  · cases hv
  · injection hv with e1 e2 e3
    injection e1 with e1
    injection e1 with e1
    subst e1
    rw [blk_cell hh, ← at_ptrs l hi, ← ht, List.getElem?_take, if_pos (by omega), Array.getElem?_toList]
theorem Q0.celle (h : Q0 W c gm o F v l a) {i : Nat} (hi : i < l.length) : W.cell? ⟨(at_ l i).b, 0, none⟩ = some (.string (at_ l i).k) ∧ W.cell? ⟨(at_ l i).b, 1, none⟩ = some (.int .u64 (at_ l i).t) ∧ W.cell? ⟨(at_ l i).b, 2, none⟩ = some (.int .i64 (a i)) :=
  ⟨blk_cell (h.ent i hi) 0, blk_cell (h.ent i hi) 1, blk_cell (h.ent i hi) 2⟩
theorem Q0.frozenq {g n cap : Nat} (h : Q0 W c gm o F (.slice (some ⟨g, 0, none⟩) n cap) l a) (i : Nat) : W.frozen? ⟨g, i, none⟩ = false := by
  obtain ⟨cells, h1⟩ := h.typ (k := g) rfl
  exact blk_frozen h1 i
theorem Q0.frozene (h : Q0 W c gm o F v l a) {i : Nat} (hi : i < l.length) (j : Nat) : W.frozen? ⟨(at_ l i).b, j, none⟩ = false := blk_frozen (h.ent i hi) j
theorem Q0.frozenc (h : Q0 W c gm o F v l a) (j : Nat) : W.frozen? ⟨c, j, none⟩ = false := blk_frozen h.blk j
theorem Q0.nce (h : Q0 W c gm o F v l a) {i : Nat} (hi : i < l.length) : c ≠ (at_ l i).b := blk_ne h.blk (h.ent i hi) (by decide)
theorem Q0.nme (h : Q0 W c gm o F v l a) {i : Nat} (hi : i < l.length) : gm ≠ (at_ l i).b := by
  intro e
  have h1 := h.mp
  obtain ⟨es, cl, rfl⟩ := h.mo
  rw [e, h.ent i hi] at h1
  cases h1
theorem Q0.ncm (h : Q0 W c gm o F v l a) : c ≠ gm := by
  intro e
  have h1 := h.mp
  obtain ⟨es, cl, rfl⟩ := h.mo
  rw [← e, h.blk] at h1
  cases h1
theorem Q0.nqe (h : Q0 W c gm o F v l a) {i k : Nat} (hi : i < l.length) (hk : v.ownBlock = some k) : k ≠ (at_ l i).b := by
  obtain ⟨cells, h1⟩ := h.typ hk
  exact blk_ne h1 (h.ent i hi) (by decide)
theorem Q0.nqc (h : Q0 W c gm o F v l a) {k : Nat} (hk : v.ownBlock = some k) : k ≠ c := by
  obtain ⟨cells, h1⟩ := h.typ hk
  exact blk_ne h1 h.blk (by decide)
theorem Q0.nqm (h : Q0 W c gm o F v l a) {k : Nat} (hk : v.ownBlock = some k) : k ≠ gm := by
  obtain ⟨cells, h1⟩ := h.typ hk
  intro e
  have h2 := h.mp
  obtain ⟨es, cl, rfl⟩ := h.mo
  rw [← e, h1] at h2
  cases h2
/-- An entry says another place. -/
theorem Q0.setAt (h : Q0 W c gm o F v l a) {p : Nat} (hp : p < l.length) (x : Int) : Q0 (W.setCell ⟨(at_ l p).b, 2, none⟩ (.int .i64 x)) c gm o F v l (fun i => if i = p then x else a i) := by
  have far : ∀ k, k ≠ (at_ l p).b → (W.setCell ⟨(at_ l p).b, 2, none⟩ (.int .i64 x)).heap[k]? = W.heap[k]? := fun k hk => Below.heap_setCell W ⟨(at_ l p).b, 2, none⟩ _ k hk
  refine ⟨(far _ (h.nce hp)).trans h.blk, (far _ (h.nme hp)).trans h.mp, h.mo, own_move h.row (fun k hk => far _ (h.nqe hp hk)), fun i hi => ?_, h.nd, h.fc, h.fm, h.fv, h.fe, fun k hk => by simpa [World.setCell] using h.lt k hk, h.sm⟩
  by_cases e : i = p
  · subst e
    rw [if_pos rfl]
    exact blk_put (h.ent i hi) 2 _ rfl
  · rw [if_neg e]
    exact (far _ (fun e' => e (h.nd _ _ hi hp e'))).trans (h.ent i hi)
/-- Two entries change places. -/
theorem Q0.put2 {g n cap : Nat} (h : Q0 W c gm o F (.slice (some ⟨g, 0, none⟩) n cap) l a) {i j : Nat} (hi : i < l.length) (hj : j < l.length) :
    Q0 ((W.setCell ⟨g, i, none⟩ (pv (at_ l j).b)).setCell ⟨g, j, none⟩ (pv (at_ l i).b)) c gm o F (.slice (some ⟨g, 0, none⟩) n cap) (swapL l i j) (fun k => if k = j then a i else if k = i then a j else a k) := by
  obtain ⟨A, cap', hv⟩ := h.form
  injection hv with _ hn _
  subst hn
  have far : ∀ k, k ≠ g → ((W.setCell ⟨g, i, none⟩ (pv (at_ l j).b)).setCell ⟨g, j, none⟩ (pv (at_ l i).b)).heap[k]? = W.heap[k]? := fun k hk =>
    (Below.heap_setCell _ ⟨g, j, none⟩ _ k hk).trans (Below.heap_setCell W ⟨g, i, none⟩ _ k hk)
  have hb : (Value.slice (some ⟨g, 0, none⟩) l.length cap).ownBlock = some g := rfl
  have hs := fun k => at_swap l i j k hi hj
  have hlen := swap_len l i j
  refine ⟨(far _ (Ne.symm (h.nqc hb))).trans h.blk, (far _ (Ne.symm (h.nqm hb))).trans h.mp, h.mo, ?_, fun k hk => ?_, fun x y hx hy => ?_, h.fc, h.fm, h.fv, fun k hk => ?_, fun k hk => by simpa [World.setCell] using h.lt k hk, by rw [hlen]; exact h.sm⟩
  · rw [hlen]
    have := ownsRow_set (ownsRow_set h.row hi (pv (at_ l j).b)) hj (pv (at_ l i).b)
    unfold swapL
    rw [ptrs_set, ptrs_set]
    exact this
  · rw [hlen] at hk
    rw [hs]
    by_cases e1 : k = j
    · rw [if_pos e1, if_pos e1]; exact (far _ (Ne.symm (h.nqe hi hb))).trans (h.ent i hi)
    · rw [if_neg e1, if_neg e1]
      by_cases e2 : k = i
      · rw [if_pos e2, if_pos e2]; exact (far _ (Ne.symm (h.nqe hj hb))).trans (h.ent j hj)
      · rw [if_neg e2, if_neg e2]; exact (far _ (Ne.symm (h.nqe hk hb))).trans (h.ent k hk)
  · rw [hlen] at hx hy
    rw [hs, hs]
    intro e
    have hss : ∀ k, (if k = j then at_ l i else if k = i then at_ l j else at_ l k) = at_ l (if k = j then i else if k = i then j else k) := fun k => by
      by_cases e1 : k = j
      · rw [if_pos e1, if_pos e1]
      · by_cases e2 : k = i
        · rw [if_neg e1, if_neg e1, if_pos e2, if_pos e2]
        · rw [if_neg e1, if_neg e1, if_neg e2, if_neg e2]
    rw [hss, hss] at e
    have pl : ∀ k, k < l.length → (if k = j then i else if k = i then j else k) < l.length := fun k hk => by
      split
      · exact hi
      · split
        · exact hj
        · exact hk
    have z := h.nd _ _ (pl x hx) (pl y hy) e
    repeat' split at z
    all_goals omega
  · rw [hlen] at hk
    rw [hs]
    by_cases e1 : k = j
    · rw [if_pos e1]; exact h.fe i hi
    · rw [if_neg e1]
      by_cases e2 : k = i
      · rw [if_pos e2]; exact h.fe j hj
      · rw [if_neg e2]; exact h.fe k hk
end
end Go.Proofs.Ytkomjplajfjpkaa.Ext
