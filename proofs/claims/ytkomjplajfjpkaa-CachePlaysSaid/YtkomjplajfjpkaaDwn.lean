/- heap.down. Written by wip/tools/dwn.py. -/
import Derived.Test.YtkomjplajfjpkaaMet
namespace Go.Proofs.Ytkomjplajfjpkaa.Ext
open Go.RowKit Go.Proofs.Ytkomjplajfjpkaa.Hea Go.Proofs.YtkomjplajfjpkaaW.PrintWords Go.Proofs.YtkomjplajfjpkaaW.PrintLast Go.Proofs.YtkomjplajfjpkaaW.PrintMore
set_option linter.unusedVariables false
set_option linter.unusedSimpArgs false
def IsB (e : Ending) : Prop := ∃ r, e = .returned (.bool r)
structure DnI (W wr : World) (c gm : Nat) (o : Obj) (F : Nat → Prop) (v : Value) (l l' : List Ent) (n i : Nat) : Prop where
  q : Qu wr c gm o F v l'
  perm : l'.Perm l
  dn : DownInv lessE l' n i
  tl : ∀ k, n ≤ k → at_ l' k = at_ l k
  mv : Mvs F W wr
theorem DnI.next {W wr w1 w2 : World} {c gm : Nat} {o : Obj} {F : Nat → Prop} {v : Value} {l l' : List Ent} {n i j : Nat} (h : DnI W wr c gm o F v l l' n i) (hn : n ≤ l'.length) (hjn : j < n) (hin : i < n) (hij : (j - 1) / 2 = i) (hj : 0 < j)
    (hl : lessE (at_ l' j) (at_ l' i) = true) (hm : ∀ c, 0 < c → c < n → (c - 1) / 2 = i → lessE (at_ l' c) (at_ l' j) = false)
    (hb : Mvs F wr w1) (hq : Qu w2 c gm o F v (swapL l' i j)) (hb2 : Mvs F w1 w2) : DnI W w2 c gm o F v l (swapL l' i j) n j :=
  ⟨hq, (swap_perm (by omega) (by omega)).trans h.perm, down_step lessO hn hjn hij hj h.dn hl hm, fun k hk => by
    rw [at_swap _ _ _ _ (by omega) (by omega), if_neg (by omega), if_neg (by omega)]; exact h.tl k hk, (h.mv.trans' hb).trans' hb2⟩
set_option maxHeartbeats 8000000 in
theorem down_calls {W : World} {c gm : Nat} {o : Obj} {F : Nat → Prop} {v : Value} {l : List Ent} (h : Qu W c gm o F v l) (hl0 : 0 < l.length) {i0 n : Nat} (hi0 : i0 ≤ n) (hn : n ≤ l.length) (hu : DownInv lessE l n i0) : Calls Try.prog 24 #[.iface 59 (.pointer (some ⟨c, 1, none⟩)), .int .i64 (i0 : Int), .int .i64 (n : Int)] W fun e w' => IsB e ∧ ∃ l', Qu w' c gm o F v l' ∧ l'.Perm l ∧ HeapN lessE l' n ∧ (∀ k, n ≤ k → at_ l' k = at_ l k) ∧ Mvs F W w' := by
  obtain ⟨g, cap, rfl⟩ := h.slot hl0
  have HQ := Aside0.mk (DnI.mk h (List.Perm.refl _) hu (fun _ _ => rfl) (Mvs.refl W))
  have hsm := h.sm
  generalize hN : l.length = N at *
  clear h hu
  go_enter Try.func24, Try.ntmps24
  go_wp2_with (fail)
  go_loopg [7] (n - i0) (fun k v1 wr => ∃ (i' : Nat) (l' : List Ent), v1 = .int .i64 (i' : Int) ∧ n - i' = k ∧ i' ≤ n ∧ Aside0 (DnI W wr c gm o F (.slice (some ⟨g, 0, none⟩) N cap) l l' n i'))
  case atStart => exact ⟨i0, l, rfl, rfl, hi0, HQ⟩
  case round =>
    obtain ⟨i', l', rfl, rfl, hi', HU⟩ := hrel
    have cQ := HU.out.q.cell1
    have hLs := mLess cQ
    have hlen := HU.out.perm.length_eq
    obtain ⟨a, ha⟩ : ∃ a, 2 * i' + 1 = a := ⟨_, rfl⟩
    have hA : (2 : Int) * (i' : Int) + 1 = (a : Int) := by omega
    have hA0 : ¬ (a : Int) < 0 := by omega
    by_cases hAn : n ≤ a
    · have hAn' : (n : Int) ≤ (a : Int) := by omega
      go_wp2_with (fail)
      go_ret
      exact ⟨⟨_, rfl⟩, l', HU.out.q, HU.out.perm, down_done HU.out.dn (fun c h0 h1 h2 => by omega), HU.out.tl, HU.out.mv⟩
    have hAn' : ¬ (n : Int) ≤ (a : Int) := by omega
    have hil : i' < l'.length := by omega
    have hal : a < l'.length := by omega
    by_cases hA2 : a + 1 < n
    · have hA2' : (a : Int) + 1 < (n : Int) := by omega
      have hal2 : a + 1 < l'.length := by omega
      have HC1 := Aside0.mk (less_calls HU.out.q hal2 hal)
      cases hb1 : lessE (at_ l' (a + 1)) (at_ l' a) with
      | true =>
        rw [hb1] at HC1
        have hmin : ∀ c, 0 < c → c < n → (c - 1) / 2 = i' → lessE (at_ l' c) (at_ l' (a + 1)) = false := by
          intro c h0 h1 h2
          rcases (show c = a ∨ c = a + 1 by omega) with h3 | h3
          · rw [h3]; exact less_asym _ _ hb1
          · rw [h3]; exact less_irr _
        cases hb2 : lessE (at_ l' (a + 1)) (at_ l' i') with
        | false =>
          go_wp2_with (first
            | (have z_ := hfirst; clear z_; go_at_call 42; refine HC2.out.mono ?_; rintro e w1 ⟨rfl, hbel2⟩; replace hbel2 := Aside0.mk hbel2)
            | (go_at_call 42; refine HC1.out.mono ?_; rintro e w0 ⟨rfl, hbel1⟩; have hfirst : Aside0 True := ⟨trivial⟩; have cQ2 := pw_cell_below hbel1 cQ; have hLs2 := mLess cQ2; have HC2 := Aside0.mk (less_calls (HU.out.q.below hbel1) hal2 hil); rw [hb2] at HC2; replace hbel1 := Aside0.mk hbel1))
          go_ret
          exact ⟨⟨_, rfl⟩, l', ((HU.out.q.below hbel1.out).below hbel2.out), HU.out.perm, down_done HU.out.dn (fun c h0 h1 h2 => lessO.le _ _ _ hb2 (hmin c h0 h1 h2)), HU.out.tl, HU.out.mv.trans' (Mvs.of_below (below_then hbel1.out hbel1.out.size hbel2.out))⟩
        | true =>
          go_wp2_with (first
            | (have z_ := hfirst; clear z_; go_at_call 42; refine HC2.out.mono ?_; rintro e w1 ⟨rfl, hbel2⟩; have hSw := mSwap (pw_cell_below hbel2 cQ2); replace hbel2 := Aside0.mk hbel2)
            | (go_at_call 42; refine HC1.out.mono ?_; rintro e w0 ⟨rfl, hbel1⟩; have hfirst : Aside0 True := ⟨trivial⟩; have cQ2 := pw_cell_below hbel1 cQ; have hLs2 := mLess cQ2; have HC2 := Aside0.mk (less_calls (HU.out.q.below hbel1) hal2 hil); rw [hb2] at HC2; replace hbel1 := Aside0.mk hbel1)
            | (go_at_call 43; refine (swap_calls ((HU.out.q.below hbel1.out).below hbel2.out) hil hal2).mono ?_; rintro e w2 ⟨rfl, hq2, hm2⟩; replace hq2 := Aside0.mk hq2; replace hm2 := Aside0.mk hm2))
          go_roundg (n - (a + 1))
          case measure => omega
          case rel => exact ⟨(a + 1), _, by simp, rfl, by omega, ⟨HU.out.next (by omega) (by omega) (by omega) (by omega) (by omega) hb2 hmin (Mvs.of_below (below_then hbel1.out hbel1.out.size hbel2.out)) hq2.out hm2.out⟩⟩
      | false =>
        rw [hb1] at HC1
        have hmin : ∀ c, 0 < c → c < n → (c - 1) / 2 = i' → lessE (at_ l' c) (at_ l' a) = false := by
          intro c h0 h1 h2
          rcases (show c = a ∨ c = a + 1 by omega) with h3 | h3
          · rw [h3]; exact less_irr _
          · rw [h3]; exact hb1
        cases hb2 : lessE (at_ l' a) (at_ l' i') with
        | false =>
          go_wp2_with (first
            | (have z_ := hfirst; clear z_; go_at_call 42; refine HC2.out.mono ?_; rintro e w1 ⟨rfl, hbel2⟩; replace hbel2 := Aside0.mk hbel2)
            | (go_at_call 42; refine HC1.out.mono ?_; rintro e w0 ⟨rfl, hbel1⟩; have hfirst : Aside0 True := ⟨trivial⟩; have cQ2 := pw_cell_below hbel1 cQ; have hLs2 := mLess cQ2; have HC2 := Aside0.mk (less_calls (HU.out.q.below hbel1) hal hil); rw [hb2] at HC2; replace hbel1 := Aside0.mk hbel1))
          go_ret
          exact ⟨⟨_, rfl⟩, l', ((HU.out.q.below hbel1.out).below hbel2.out), HU.out.perm, down_done HU.out.dn (fun c h0 h1 h2 => lessO.le _ _ _ hb2 (hmin c h0 h1 h2)), HU.out.tl, HU.out.mv.trans' (Mvs.of_below (below_then hbel1.out hbel1.out.size hbel2.out))⟩
        | true =>
          go_wp2_with (first
            | (have z_ := hfirst; clear z_; go_at_call 42; refine HC2.out.mono ?_; rintro e w1 ⟨rfl, hbel2⟩; have hSw := mSwap (pw_cell_below hbel2 cQ2); replace hbel2 := Aside0.mk hbel2)
            | (go_at_call 42; refine HC1.out.mono ?_; rintro e w0 ⟨rfl, hbel1⟩; have hfirst : Aside0 True := ⟨trivial⟩; have cQ2 := pw_cell_below hbel1 cQ; have hLs2 := mLess cQ2; have HC2 := Aside0.mk (less_calls (HU.out.q.below hbel1) hal hil); rw [hb2] at HC2; replace hbel1 := Aside0.mk hbel1)
            | (go_at_call 43; refine (swap_calls ((HU.out.q.below hbel1.out).below hbel2.out) hil hal).mono ?_; rintro e w2 ⟨rfl, hq2, hm2⟩; replace hq2 := Aside0.mk hq2; replace hm2 := Aside0.mk hm2))
          go_roundg (n - a)
          case measure => omega
          case rel => exact ⟨a, _, rfl, rfl, by omega, ⟨HU.out.next (by omega) (by omega) (by omega) (by omega) (by omega) hb2 hmin (Mvs.of_below (below_then hbel1.out hbel1.out.size hbel2.out)) hq2.out hm2.out⟩⟩
    · have hA2' : ¬ (a : Int) + 1 < (n : Int) := by omega
      have hmin : ∀ c, 0 < c → c < n → (c - 1) / 2 = i' → lessE (at_ l' c) (at_ l' a) = false := by
        intro c h0 h1 h2
        rw [show c = a by omega]; exact less_irr _
      cases hb2 : lessE (at_ l' a) (at_ l' i') with
      | false =>
        have HC2 := Aside0.mk (less_calls HU.out.q hal hil)
        rw [hb2] at HC2
        go_wp2_with (first
          | (go_at_call 42; refine HC2.out.mono ?_; rintro e w1 ⟨rfl, hbel2⟩; replace hbel2 := Aside0.mk hbel2))
        go_ret
        exact ⟨⟨_, rfl⟩, l', (HU.out.q.below hbel2.out), HU.out.perm, down_done HU.out.dn (fun c h0 h1 h2 => lessO.le _ _ _ hb2 (hmin c h0 h1 h2)), HU.out.tl, HU.out.mv.trans' (Mvs.of_below hbel2.out)⟩
      | true =>
        have HC2 := Aside0.mk (less_calls HU.out.q hal hil)
        rw [hb2] at HC2
        go_wp2_with (first
          | (go_at_call 42; refine HC2.out.mono ?_; rintro e w1 ⟨rfl, hbel2⟩; have hSw := mSwap (pw_cell_below hbel2 cQ); replace hbel2 := Aside0.mk hbel2)
          | (go_at_call 43; refine (swap_calls (HU.out.q.below hbel2.out) hil hal).mono ?_; rintro e w2 ⟨rfl, hq2, hm2⟩; replace hq2 := Aside0.mk hq2; replace hm2 := Aside0.mk hm2))
        go_roundg (n - a)
        case measure => omega
        case rel => exact ⟨a, _, rfl, rfl, by omega, ⟨HU.out.next (by omega) (by omega) (by omega) (by omega) (by omega) hb2 hmin (Mvs.of_below hbel2.out) hq2.out hm2.out⟩⟩
end Go.Proofs.Ytkomjplajfjpkaa.Ext
