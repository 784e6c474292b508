/- The queue's small functions: cmp's, Less, Len, Swap. By hand. -/
import Derived.Test.YtkomjplajfjpkaaLes
namespace Go.Proofs.Ytkomjplajfjpkaa.Ext
open Go.RowKit Go.Proofs.Ytkomjplajfjpkaa.Hea Go.Proofs.YtkomjplajfjpkaaW.PrintWords Go.Proofs.YtkomjplajfjpkaaW.PrintLast Go.Proofs.YtkomjplajfjpkaaW.PrintMore
set_option linter.unusedVariables false
set_option linter.unusedSimpArgs false
set_option maxHeartbeats 2000000 in
theorem swap_calls {W : World} {c gm : Nat} {o : Obj} {F : Nat → Prop} {v : Value} {l : List Ent} (h : Qu W c gm o F v l) {i j : Nat} (hi : i < l.length) (hj : j < l.length) : Calls Try.prog 43 #[v, .int .i64 (i : Int), .int .i64 (j : Int)] W fun e w' => e = .returned (.tuple #[]) ∧ Qu w' c gm o F v (swapL l i j) ∧ Mvs F W w' := by
  obtain ⟨g, cap, rfl⟩ := h.slot hi
  have ci := h.cellq hi
  have cj := h.cellq hj
  have fi := h.frozenq i
  have fj := h.frozenq j
  have HH := Aside0.mk h
  have HI : (i : Int) < (l.length : Int) := by omega
  have HJ : (j : Int) < (l.length : Int) := by omega
  have hlen := swap_len l i j
  have hP := Q0.put2 h hi hj
  obtain ⟨W1, hW1⟩ : ∃ W1, (W.setCell ⟨g, i, none⟩ (pv (at_ l j).b)).setCell ⟨g, j, none⟩ (pv (at_ l i).b) = W1 := ⟨_, rfl⟩
  have m1 : Mvs F W W1 := by
    rw [← hW1]
    exact ((Mvs.refl W).set (p := ⟨g, i, none⟩) (h.fv g rfl) _).set (p := ⟨g, j, none⟩) (h.fv g rfl) _
  obtain ⟨u, hu⟩ : ∃ u, (W.setCell ⟨g, i, none⟩ (pv (at_ l j).b)).cell? ⟨g, j, none⟩ = some u := by
    by_cases e : i = j
    · subst e; exact ⟨_, World.cell?_setCell_same _ _ _ ci⟩
    · exact ⟨_, (World.cell?_setCell_other _ _ _ _ (fun h => e (by injection h))).trans cj⟩
  rw [hW1] at hP
  have hi' : i < (swapL l i j).length := by rw [hlen]; exact hi
  have hj' : j < (swapL l i j).length := by rw [hlen]; exact hj
  have c1 := hP.cellq hi'
  have c2 := hP.cellq hj'
  have d1 := (hP.celle hi').2.2
  have f1 := hP.frozene hi' 2
  have hP2 := hP.setAt hi' (i : Int)
  have d2 := (hP2.celle hj').2.2
  have f2 := hP.frozene hj' 2
  have hP3 := hP2.setAt hj' (j : Int)
  have m2 : Mvs F W ((W1.setCell ⟨(at_ (swapL l i j) i).b, 2, none⟩ (.int .i64 (i : Int))).setCell ⟨(at_ (swapL l i j) j).b, 2, none⟩ (.int .i64 (j : Int))) :=
    (m1.set (p := ⟨(at_ (swapL l i j) i).b, 2, none⟩) (hP.fe i hi') _).set (p := ⟨(at_ (swapL l i j) j).b, 2, none⟩) (hP.fe j hj') _
  have HE : Aside0 (Qu ((W1.setCell ⟨(at_ (swapL l i j) i).b, 2, none⟩ (.int .i64 (i : Int))).setCell ⟨(at_ (swapL l i j) j).b, 2, none⟩ (.int .i64 (j : Int))) c gm o F (.slice (some ⟨g, 0, none⟩) l.length cap) (swapL l i j) ∧ Mvs F W ((W1.setCell ⟨(at_ (swapL l i j) i).b, 2, none⟩ (.int .i64 (i : Int))).setCell ⟨(at_ (swapL l i j) j).b, 2, none⟩ (.int .i64 (j : Int)))) := by
    refine ⟨hP3.congr (fun k hk => ?_), m2⟩
    by_cases e1 : k = j
    · rw [if_pos e1, e1]
    · rw [if_neg e1]
      by_cases e2 : k = i
      · rw [if_pos e2, e2]
      · rw [if_neg e2, if_neg e1, if_neg e2]
  clear hP hP2 hP3 m1 m2 h
  generalize (at_ (swapL l i j) i).b = BI at *
  generalize (at_ (swapL l i j) j).b = BJ at *
  obtain ⟨x1, hx1⟩ : ∃ x, d1 = x := ⟨_, rfl⟩
  clear hx1 x1
  simp only [pv] at *
  obtain ⟨W2, hW2⟩ : ∃ W2, (W1.setCell ⟨BI, 2, none⟩ (.int .i64 (i : Int))).setCell ⟨BJ, 2, none⟩ (.int .i64 (j : Int)) = W2 := ⟨_, rfl⟩
  rw [hW2] at HE
  go_enter Try.func43, Try.ntmps43
  go_wp2
  go_region
  all_goals
    go_wp2
    go_region
    all_goals
      go_returns
      exact ⟨rfl, ⟨HE.out.1.drewN 2, HE.out.2.drewN 2⟩⟩
end Go.Proofs.Ytkomjplajfjpkaa.Ext
