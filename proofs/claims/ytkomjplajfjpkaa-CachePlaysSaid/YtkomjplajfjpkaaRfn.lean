/- The document's cache: Next. By hand. -/
import Derived.Test.YtkomjplajfjpkaaRfe
import Derived.Deep.WholeRow
import Derived.Laws.Tables
namespace Go.Proofs.Ytkomjplajfjpkaa.Ext
open Go.RowKit Go.Proofs.Ytkomjplajfjpkaa.Hea Go.Proofs.YtkomjplajfjpkaaW.PrintWords Go.Proofs.YtkomjplajfjpkaaW.PrintLast Go.Proofs.YtkomjplajfjpkaaW.PrintMore
open Go.Maps (Keyed)
set_option linter.unusedVariables false
set_option linter.unusedSimpArgs false
attribute [-go_sem] storeVar
theorem store56 (W : World) (c c' : Array Value) (h : c.size = 2) (h' : c'.size = 2) (h1 : c'.all (·.oneCell') = true) : (storeVar 56 ⟨W.heap.size, 0, none⟩ (.agg c')).run Try.prog (W.alloc (.cells c 56)) = .ok () (W.alloc (.cells c' 56)) :=
  run_storeVar_new W 56 c c' (by rw [h']; kernel_rfl) (by rw [h, h']) h1
theorem plt_irr (p : ByteArray × Int) : plt p p = false := less_irr ⟨0, p.1, p.2⟩
theorem plt_asym {p q : ByteArray × Int} (h : plt p q = true) : plt q p = false := less_asym ⟨0, p.1, p.2⟩ ⟨0, q.1, q.2⟩ h
theorem plt_le {a b c : ByteArray × Int} (h1 : plt b a = false) (h2 : plt c b = false) : plt c a = false := lessO.le ⟨0, a.1, a.2⟩ ⟨0, b.1, b.2⟩ ⟨0, c.1, c.2⟩ h1 h2
structure NxI (W wr : World) (M : Row) (q i b : Nat) : Prop where
  blk : wr.heap[q]? = some (.cells #[.string (mt M b).1, .int .u64 (mt M b).2] 56 (0, 0))
  lt : b < M.length
  min : ∀ j, j < i → plt (mt M j) (mt M b) = false
  bel : Below W.heap.size W wr
set_option maxRecDepth 100000 in
set_option maxHeartbeats 4000000 in
theorem rnext_calls {W : World} {r : Nat} {G : Nat → Prop} {v : Value} {M : Row} (h : Rf W r G v M) : Calls Try.prog 12 #[.pointer (some ⟨r, 0, none⟩)] W fun e w' => ∃ k t b, e = .returned (.tuple #[.string k, .int .u64 t, .bool b]) ∧ IsNext M k t b ∧ Below W.heap.size W w' := by
  have hc : ∀ V, Below W.heap.size W V → V.cell? ⟨r, 0, none⟩ = some v := fun V hb => pw_cell_below hb h.cell0
  have hsm := h.sm
  have HH := Aside0.mk h
  have HC := Aside0.mk hc
  have c0 := hc W (Below.refl _ _)
  clear hc
  by_cases hl : 0 < M.length
  · obtain ⟨g, cap, rfl⟩ := h.slot hl
    obtain ⟨d0, d1, _⟩ := h.celli hl
    rw [Nat.zero_mul] at d0 d1
    rw [Nat.zero_add] at d1
    have hst := store56 W #[.string ⟨#[]⟩, .int .u64 0] #[.string (mt M 0).1, .int .u64 (mt M 0).2] rfl rfl (by kernel_rfl)
    have hz : ¬ (M.length : Int) = 0 := by omega
    have hz' : ((M.length : Int) == 0) = false := by rw [beq_eq_false_iff_ne]; exact hz
    clear h
    go_enter Try.func12, Try.ntmps12
    go_wp2_with (fail)
    obtain ⟨q, hq⟩ : ∃ q, W.heap.size = q := ⟨_, rfl⟩
    have HI : Aside0 (NxI W (W.alloc (.cells #[.string (mt M 0).1, .int .u64 (mt M 0).2] 56)) M q 1 0) := ⟨⟨by rw [← hq]; exact blk_new _ _, hl, fun j hj => by rw [show j = 0 by omega]; exact plt_irr _, below_alloc (Below.refl _ _) _⟩⟩
    have HQ := Aside0.mk hq
    rw [hq]
    go_loopg [6] (M.length - 1) (fun gm v6 wr => ∃ (i b : Nat), v6 = .int .i64 (i : Int) ∧ i + gm = M.length ∧ 1 ≤ i ∧ Aside0 (NxI W wr M q i b))
    case atStart => exact ⟨1, 0, rfl, by omega, Nat.le_refl _, HI⟩
    case round =>
      obtain ⟨i, b, rfl, hi, hi1, HX⟩ := hrel
      have c0 := HC.out _ HX.out.bel
      by_cases hlt : i < M.length
      · obtain ⟨d0, d1, _⟩ := HH.out.celli hlt
        have d0 := pw_cell_below HX.out.bel d0
        have d1 := pw_cell_below HX.out.bel d1
        have i0 : (i : Int) < (M.length : Int) := by omega
        have hst := store56 wr #[.string ⟨#[]⟩, .int .u64 0] #[.string (mt M i).1, .int .u64 (mt M i).2] rfl rfl (by kernel_rfl)
        have hqx : (wr.alloc (.cells #[.string (mt M i).1, .int .u64 (mt M i).2] 56)).heap[q]? = some (.cells #[.string (mt M b).1, .int .u64 (mt M b).2] 56 (0, 0)) := blk_alloc HX.out.blk _
        have hqy : (wr.alloc (.cells #[.string (mt M i).1, .int .u64 (mt M i).2] 56)).heap[wr.heap.size]? = some (.cells #[.string (mt M i).1, .int .u64 (mt M i).2] 56 (0, 0)) := blk_new _ _
        have x0 := blk_cell hqx 0
        have x1 := blk_cell hqx 1
        have y0 := blk_cell hqy 0
        have y1 := blk_cell hqy 1
        have hb1 := below_alloc HX.out.bel (.cells #[.string (mt M i).1, .int .u64 (mt M i).2] 56)
        have HMIN := Aside0.mk HX.out.min
        have hrun := run_storeVar_row (P := Try.prog) _ q 56 56 _ #[.string (mt M i).1, .int .u64 (mt M i).2] hqx (by kernel_rfl) rfl (by kernel_rfl)
        obtain ⟨W1, hW1⟩ : ∃ W1, wr.alloc (.cells #[.string (mt M i).1, .int .u64 (mt M i).2] 56) = W1 := ⟨_, rfl⟩
        rw [hW1] at hst hqx hqy x0 x1 y0 y1 hb1 hrun
        obtain ⟨Q, hQ⟩ : ∃ Q, wr.heap.size = Q := ⟨_, rfl⟩
        have YES : Aside0 (plt (mt M i) (mt M b) = true → NxI W (W1.setRow q #[.string (mt M i).1, .int .u64 (mt M i).2]) M q (i + 1) i) := ⟨fun h => ⟨setRow_heap _ _ _ _ _ _ hqx, hlt, fun j hj => by
          by_cases e : j = i
          · subst e; exact plt_irr _
          · exact plt_le (plt_asym h) (HMIN.out j (by omega)), ⟨hb1.os, hb1.tape, hb1.output, by simpa using hb1.size, fun k hk => (setRow_other _ _ _ _ (by have := HQ.out; omega)).trans (hb1.block k hk)⟩⟩⟩
        have NO : Aside0 (plt (mt M i) (mt M b) = false → NxI W W1 M q (i + 1) b) := ⟨fun h => ⟨hqx, HX.out.lt, fun j hj => by
          by_cases e : j = i
          · subst e; exact h
          · exact HMIN.out j (by omega), hb1⟩⟩
        rw [hQ] at hst hqy y0 y1
        generalize hW2 : W1.setRow q #[.string (mt M i).1, .int .u64 (mt M i).2] = W2 at *
        clear hqx hqy hb1 hW1
        generalize mt M i = p at *
        generalize mt M b = p2 at *
        obtain ⟨pk, pt⟩ := p
        obtain ⟨xk, xt⟩ := p2
        unfold plt slt at YES NO
        simp only at *
        by_cases h1 : pt < xt
        · go_wp2_with (fail)
          go_roundg (gk - 1)
          case measure => omega
          case rel => exact ⟨i + 1, i, by simp, by omega, by omega, ⟨YES.out (by rw [decide_eq_true h1]; rfl)⟩⟩
        · by_cases h2 : pt = xt
          · subst h2
            cases h3 : Op.bytesLess pk.toList xk.toList with
            | true =>
              go_wp2_with (fail)
              go_roundg (gk - 1)
              case measure => omega
              case rel => exact ⟨i + 1, i, by simp, by omega, by omega, ⟨YES.out (by rw [h3]; simp)⟩⟩
            | false =>
              go_wp2_with (fail)
              go_roundg (gk - 1)
              case measure => omega
              case rel => exact ⟨i + 1, b, by simp, by omega, by omega, ⟨NO.out (by rw [h3]; simp)⟩⟩
          · go_wp2_with (fail)
            go_roundg (gk - 1)
            case measure => omega
            case rel => exact ⟨i + 1, b, by simp, by omega, by omega, ⟨NO.out (by rw [decide_eq_false (show ¬ pt < xt by omega), decide_eq_false h2]; rfl)⟩⟩
      · have i0 : ¬ (i : Int) < (M.length : Int) := by omega
        have x0 := blk_cell HX.out.blk 0
        have x1 := blk_cell HX.out.blk 1
        have HN : Aside0 (IsNext M (mt M b).1 (mt M b).2 true) := ⟨.inr ⟨mt_mem HX.out.lt, rfl, fun p hp => by
          obtain ⟨j, hj, he⟩ := List.mem_iff_getElem.1 hp
          rw [← he, ← mt_lt hj]
          exact HX.out.min j (by omega)⟩⟩
        generalize mt M b = p2 at *
        go_wp2_with (fail)
        go_region
        all_goals
          go_wp2
          go_returns
          exact ⟨_, _, _, rfl, HN.out, below_drew HX.out.bel⟩
  · have h0 : M = [] := List.length_eq_zero_iff.1 (by omega)
    subst h0
    obtain ⟨A, cap, rfl⟩ := h.form
    clear h
    go_enter Try.func12, Try.ntmps12
    go_wp2_with (fail)
    go_returns
    exact ⟨_, _, _, rfl, .inl ⟨rfl, rfl, rfl, rfl⟩, Below.refl _ _⟩
end Go.Proofs.Ytkomjplajfjpkaa.Ext
