/- A cell of what Join left, stored into. -/
import Derived.Test.YtojagnoobaleaaaDoorFrZ
namespace Go.Proofs.YtojagnoobaleaaaDoor.Ext
open Go.RowKit Go.Shelf Go.Proofs.YtojagnoobaleaaaDoor.Xp Go.Proofs.YtojagnoobaleaaaDoorW.PrintWords Go.Proofs.YtojagnoobaleaaaDoorW.PrintLast Go.Proofs.YtojagnoobaleaaaDoorW.PrintMore
set_option linter.unusedVariables false
section
variable {W W' w1 : World} {ba b g t n cap : Nat} {ok ok' : Nat → Prop} {u v v1 : Value} {l : List Int}
theorem JV.form (h : JV W ba ok v l) (hp : 0 < l.length) : ∃ g cap, v = .slice (some ⟨g, 0, none⟩) l.length cap ∧ ba ≤ g ∧ g < W.heap.size ∧ ∃ cells fr, W.heap[g]? = some (.cells cells 5 fr) := by
  obtain ⟨_, b, h1, h | ⟨g, rfl, h2, h3, h4, h5⟩⟩ := h
  · obtain ⟨g, cap, e, k1, k2, cells, k3⟩ := Kd.R_form h hp
    exact ⟨g, cap, e, Nat.le_trans h1 k1, k2, cells, _, k3⟩
  · exact ⟨g, _, rfl, Nat.le_trans h1 h2, blk_lt h5, _, _, h5⟩
theorem JV.celln (h : JV W ba ok (.slice (some ⟨g, 0, none⟩) n cap) l) (i : Int) (h0 : 0 ≤ i) (hi : i < n) : W.cell? ⟨g, i.toNat, none⟩ = some (.int .u8 (rd l i)) ∧ W.frozen? ⟨g, i.toNat, none⟩ = false := by
  obtain ⟨_, b, h1, h | ⟨g', e, h2, h3, h4, h5⟩⟩ := h
  · exact Kd.R_celln 0 h i h0 hi
  · injection e with e1 e2 e3
    injection e1 with e1
    injection e1 with e1 _ _
    subst e1; subst e2
    refine ⟨?_, ?_⟩
    · rw [cell_of_row _ _ _ _ _ _ h5]
      have hj : i.toNat < l.length := by omega
      simp [nums, List.getElem?_eq_getElem hj, rd, List.getD_eq_getElem?_getD]
    · have hj : i.toNat < l.length := by omega
      simp [World.frozen?, h5]; omega
theorem JV.putg (h : JV W ba (fun _ => True) (.slice (some ⟨g, 0, none⟩) n cap) l) (i : Int) (x : Int) : JV (W.setCell ⟨g, i.toNat, none⟩ (.int .u8 x)) ba (fun _ => True) (.slice (some ⟨g, 0, none⟩) n cap) (l.set i.toNat x) ∧ W.grownBy (W.setCell ⟨g, i.toNat, none⟩ (.int .u8 x)) (some g) := by
  obtain ⟨_, b, h1, h | ⟨g', e, h2, h3, h4, h5⟩⟩ := h
  · obtain ⟨k1, k2⟩ := Kd.R_putg h i x
    exact ⟨⟨fun _ _ => trivial, b, h1, .inl k1⟩, k2⟩
  · injection e with e1 e2 e3
    injection e1 with e1
    injection e1 with e1 _ _
    subst e1; subst e2; subst e3
    have hb : (W.setCell ⟨g, i.toNat, none⟩ (.int .u8 x)).heap[g]? = some (.cells (nums .u8 (l.set i.toNat x)).toArray 5 ((l.set i.toNat x).length, (l.set i.toNat x).length + 1)) := by
      rw [List.length_set]
      simp [World.setCell, Array.getElem?_modify, h5, nums, List.map_set]
    refine ⟨⟨fun _ _ => trivial, b, h1, .inr ⟨g, by rw [List.length_set], h2, by rw [List.length_set]; exact h3, by rw [List.length_set]; exact h4, hb⟩⟩, ?_⟩
    exact ⟨rfl, rfl, rfl, (KeepsWalks.setCell W _ _).size, fun k _ hk => Below.heap_setCell _ _ _ k (fun e => hk (by rw [e]))⟩
theorem JV.over {xs : List ByteArray} (h : Kd.string.R 9 W ba ok u xs) (hj : JV W b ok' v l) (hg : W.grownBy w1 v.ownBlock) : Kd.string.R 9 w1 ba ok u xs := by
  refine Kd.R_mono (Kd.R_grown (Kd.R_bound h) hg (fun k hk => ?_)) (fun _ hk => hk.1)
  obtain ⟨_, _, _, q, hq, cells, hc⟩ := hk
  have hq9 : q = 9 := by simpa [Kd.string, Kd.scalar] using hq
  subst hq9
  exact hj.ne hc (by decide)
end
end Go.Proofs.YtojagnoobaleaaaDoor.Ext
