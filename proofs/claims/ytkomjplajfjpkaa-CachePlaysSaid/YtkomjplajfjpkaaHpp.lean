/- heap.Pop. By hand. -/
import Derived.Test.YtkomjplajfjpkaaHpf
namespace Go.Proofs.Ytkomjplajfjpkaa.Ext
open Go.RowKit Go.Proofs.Ytkomjplajfjpkaa.Hea Go.Proofs.YtkomjplajfjpkaaW.PrintWords Go.Proofs.YtkomjplajfjpkaaW.PrintLast Go.Proofs.YtkomjplajfjpkaaW.PrintMore
set_option linter.unusedVariables false
set_option linter.unusedSimpArgs false
set_option maxHeartbeats 1000000 in
theorem hpop_calls {W : World} {c gm : Nat} {o : Obj} {F : Nat → Prop} {v : Value} {l : List Ent} (h : Qu W c gm o F v l) {n : Nat} (hn : n + 1 = l.length) (hh : HeapN lessE l l.length) :
    Calls Try.prog 22 #[.iface 59 (.pointer (some ⟨c, 1, none⟩))] W fun r w' => r = .returned (.iface 54 (.pointer (some ⟨(at_ l 0).b, 0, none⟩))) ∧ ∃ v' l', Qu w' c gm o F v' l' ∧ l'.Perm l.tail ∧ HeapN lessE l' l'.length ∧ w'.cell? ⟨(at_ l 0).b, 0, none⟩ = some (.string (at_ l 0).k) ∧ Mvs F W w' := by
  obtain ⟨g, cap, rfl⟩ := h.slot (i := 0) (by omega)
  have mP := fun w => mPop w c
  have hLn := mLen h.cell1
  have hSw := mSwap h.cell1
  have HS := Aside0.mk (swap0_calls h (j := n) (by omega))
  have HD := Aside0.mk (pop_inv (less := lessE) (by rw [hn]; exact hh) hn)
  have HA : Aside0 (at_ (swapL l 0 n) n = at_ l 0) := ⟨by rw [at_swap _ _ _ _ (by omega) (by omega), if_pos rfl]⟩
  have hsl := swap_len l 0 n
  have hpl := swap_perm (l := l) (i := 0) (j := n) (by omega) (by omega)
  generalize hS : swapL l 0 n = s at *
  have h1 : (l.length : Int) - 1 = (n : Int) := by omega
  have hsm : n ≤ 4096 := by have := h.sm; omega
  have HN := Aside0.mk hn
  clear h hh hn hS
  go_enter Try.func22, Try.ntmps22
  go_wp2_with (first
    | (go_at_call 41; refine (qlen_calls _ _ _ _).mono ?_; rintro r w2 ⟨rfl, rfl⟩)
    | (go_at_call 43; refine HS.out.mono ?_; rintro r w3 ⟨rfl, hq3, hm3⟩; replace hq3 := Aside0.mk hq3; replace hm3 := Aside0.mk hm3)
    | (go_at_call 24; refine (down0_calls (n := n) hq3.out (by rw [hsl, ← HN.out]; omega) (by rw [hsl, ← HN.out]; omega) HD.out).mono ?_; rintro r w4 ⟨⟨b, rfl⟩, l4, hq4, hp4, hh4, ht4, hm4⟩; replace hq4 := Aside0.mk hq4; replace hh4 := Aside0.mk hh4; replace hm4 := Aside0.mk hm4; replace ht4 := Aside0.mk (ht4 n (Nat.le_refl _)))
    | (go_at_call 49; refine (qpop_calls hq4.out (n := n) (by rw [hp4.length_eq, hsl]; exact HN.out)).mono ?_; rintro r w5 ⟨rfl, v5, hq5, he5, hm5⟩; replace hq5 := Aside0.mk hq5; replace hm5 := Aside0.mk hm5))
  go_returns
  have e1 : at_ l4 n = at_ l 0 := ht4.out.trans HA.out
  have hll : n + 1 = l.length := HN.out
  have h4l : n < l4.length := by rw [hp4.length_eq, hsl, ← hll]; omega
  have htk : (l4.take n).length = n := by rw [List.length_take]; omega
  refine ⟨by first | rfl | (rw [e1]; rfl), v5, _, hq5.out, pop_perm hll (hp4.trans hpl) e1, ?_, ?_, (hm3.out.trans' hm4.out).trans' hm5.out⟩
  · rw [htk]
    intro i hi hin
    rw [at_take hin, at_take (by omega)]
    exact hh4.out i hi hin
  · have h6 := hq4.out.ent n h4l
    rw [← he5, e1] at h6
    exact blk_cell h6 0
end Go.Proofs.Ytkomjplajfjpkaa.Ext
