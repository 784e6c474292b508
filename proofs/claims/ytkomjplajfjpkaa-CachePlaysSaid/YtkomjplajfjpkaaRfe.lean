/- The document's cache: Expire, Next. By hand. -/
import Derived.Test.YtkomjplajfjpkaaRfp
namespace Go.Proofs.Ytkomjplajfjpkaa.Ext
open Go.RowKit Go.Proofs.Ytkomjplajfjpkaa.Hea Go.Proofs.YtkomjplajfjpkaaW.PrintWords Go.Proofs.YtkomjplajfjpkaaW.PrintLast Go.Proofs.YtkomjplajfjpkaaW.PrintMore
open Go.Maps (Keyed)
set_option linter.unusedVariables false
set_option linter.unusedSimpArgs false
theorem take_next {M : Row} {i : Nat} (h : i < M.length) : M.take (i + 1) = M.take i ++ [mt M i] := by
  rw [List.take_succ_eq_append_getElem h, mt_lt h]
theorem exp_next {M : Row} {i : Nat} (h : i < M.length) (now : Int) : expF (M.take (i + 1)) now = expF (M.take i) now ++ (if now < (mt M i).2 then [mt M i] else []) := by
  unfold expF
  rw [take_next h, List.filter_append]
  congr 1
  by_cases h1 : now < (mt M i).2
  · rw [if_pos h1]; simp [h1]
  · rw [if_neg h1]; simp [h1]
theorem own_lower {w : World} {base : Nat} {e : TypeId} {size n : Nat} {v : Value} {xs : List Value} (h : w.ownsRow base e size v n xs) : w.ownsRow 0 e size v n xs := by
  obtain ⟨h1, h2⟩ := h
  refine ⟨h1, ?_⟩
  rcases h2 with h2 | ⟨g, cap, cur, rfl, hg, r⟩
  · exact .inl h2
  · exact .inr ⟨g, cap, cur, rfl, Nat.zero_le _, r⟩
structure ReI (W wr : World) (M : Row) (now : Int) (i : Nat) (v : Value) (n : Nat) : Prop where
  row : wr.ownsRow W.heap.size 56 2 v n (flat (expF (M.take i) now))
  len : n = (expF (M.take i) now).length
  bel : Below W.heap.size W wr
theorem ReI.form {W wr : World} {M : Row} {now : Int} {i n : Nat} {v : Value} (h : ReI W wr M now i v n) : ∃ A cap, v = .slice A n cap := own_form h.row
set_option maxRecDepth 100000 in
set_option maxHeartbeats 4000000 in
theorem rexpire_calls {W : World} {r : Nat} {G : Nat → Prop} {v : Value} {M : Row} (h : Rf W r G v M) (now : Int) : Calls Try.prog 19 #[.pointer (some ⟨r, 0, none⟩), .int .u64 now] W fun e w' => e = .returned (.int .i64 ((M.length - (expF M now).length : Nat) : Int)) ∧ ∃ v' G', RfN W w' r G (expF M now) v' G' := by
  have c0 : ∀ V, Below W.heap.size W V → V.cell? ⟨r, 0, none⟩ = some v := fun V hb => pw_cell_below hb h.cell0
  have f0 : ∀ V, Below W.heap.size W V → V.frozen? ⟨r, 0, none⟩ = false := fun V hb => (h.below hb).frozen0
  have hsm := h.sm
  have HH := Aside0.mk h
  have HC := Aside0.mk c0
  have HF := Aside0.mk f0
  have c0 := c0 W (Below.refl _ _)
  obtain ⟨A, cap, rfl⟩ := h.form
  have HI : Aside0 (ReI W W M now 0 (.slice none 0 0) 0) := ⟨⟨by rw [List.take_zero]; exact ⟨rfl, .inl ⟨rfl, rfl⟩⟩, by rw [List.take_zero]; rfl, Below.refl _ _⟩⟩
  clear h f0
  go_enter Try.func19, Try.ntmps19
  go_wp2_with (fail)
  go_loopg [5, 6] M.length (fun gm v5 v6 wr => ∃ (i n : Nat) (A5 : Option Addr) (c5 : Nat), v5 = .slice A5 n c5 ∧ v6 = .int .i64 (i : Int) ∧ i + gm = M.length ∧ Aside0 (ReI W wr M now i (.slice A5 n c5) n))
  case atStart => exact ⟨0, 0, none, 0, rfl, rfl, by omega, HI⟩
  case round =>
    obtain ⟨i, n, A5, c5, rfl, rfl, hi, HX⟩ := hrel
    have c0 := HC.out _ HX.out.bel
    have hnl : n ≤ i := by
      have h1 := HX.out.len
      have h2 := exp_len (M.take i) now
      rw [List.length_take] at h2
      omega
    by_cases hlt : i < M.length
    · obtain ⟨g, cap', hv⟩ := HH.out.slot hlt
      injection hv with e1 e2 e3
      subst e1; subst e3
      obtain ⟨d0, d1, _⟩ := HH.out.celli hlt
      have d0 := pw_cell_below HX.out.bel d0
      have d1 := pw_cell_below HX.out.bel d1
      have i0 : (i : Int) < (M.length : Int) := by omega
      have hen := exp_next hlt now
      have hn4 : n ≤ 4096 := by omega
      by_cases ht : now < (mt M i).2
      · rw [if_pos ht] at hen
        have HEN := Aside0.mk hen
        clear hen
        generalize mt M i = p at *
        obtain ⟨pk, pt⟩ := p
        simp only at *
        go_wp2_with (first | ((with_reducible refine gate_builtin (b := .append) (xs := #[.tmp 27, .tmp 35]) rfl ?_); at_builtin; go_loud (refine print_append_cells (w0 := W) W.heap.size rfl (.tmp 27) (.tmp 35) 28 56 (.agg #[.string ⟨#[]⟩, .int .u64 0]) 2 24 rfl Try.underlying28 info56 rfl (by decide) (by decide) (.slice A5 n c5) n (flat (expF (M.take i) now)) [.string pk, .int .u64 pt] rfl rfl rfl (fun u hu => by rcases List.mem_cons.1 hu with rfl | hu; rfl; rw [List.mem_singleton.1 hu]; rfl) HX.out.row HX.out.bel HX.out.bel.size (by omega) ?_); intro v1 w2 ho hb hg hat; obtain ⟨A1, cap1, rfl⟩ := own_form ho; have HI2 : Aside0 (ReI W w2 M now (i + 1) (.slice A1 (n + 1) cap1) (n + 1)) := ⟨by rw [HEN.out, flat_app]; exact ho, by rw [HEN.out, List.length_append, ← HX.out.len]; rfl, hb⟩; clear ho hb hg hat))
        go_roundg (gk - 1)
        case measure => omega
        case rel => exact ⟨i + 1, n + 1, A1, cap1, rfl, by simp, by omega, HI2⟩
      · rw [if_neg ht, List.append_nil] at hen
        have HI2 : Aside0 (ReI W wr M now (i + 1) (.slice A5 n c5) n) := ⟨by rw [hen]; exact HX.out.row, by rw [hen]; exact HX.out.len, HX.out.bel⟩
        clear hen
        generalize mt M i = p at *
        obtain ⟨pk, pt⟩ := p
        simp only at *
        go_wp2_with (fail)
        go_roundg (gk - 1)
        case measure => omega
        case rel => exact ⟨i + 1, n, A5, c5, rfl, by simp, by omega, HI2⟩
    · obtain rfl : i = M.length := by omega
      have f0 := HF.out _ HX.out.bel
      have hl := HX.out.len
      have hrow := HX.out.row
      rw [List.take_length] at hl hrow
      have hel := exp_len M now
      have HE : Aside0 (∃ v' G', RfN W (wr.setCell ⟨r, 0, none⟩ (.slice A5 n c5)) r G (expF M now) v' G') := by
        have hb := HX.out.bel
        have hcb : wr.heap[r]? = some (.cells #[.slice A M.length cap] 30 (0, 0)) := blk_below HH.out.blk hb
        refine ⟨⟨_, fun k => k = r ∨ (Value.slice A5 n c5).ownBlock = some k, ⟨blk_put hcb 0 _ rfl, ?_, .inl rfl, fun k hk => .inr hk, fun k hk => ?_, by omega⟩, fun k hk => ?_, (Mvs.of_below hb).set (p := ⟨r, 0, none⟩) HH.out.gr _⟩⟩
        · rw [← hl]
          refine own_move (own_lower hrow) (fun k hk => Below.heap_setCell wr ⟨r, 0, none⟩ _ k (fun e' => ?_))
          obtain ⟨cells, h1⟩ := own_typed hrow k hk
          exact blk_ne h1 hcb (by decide) e'
        · have hs : wr.heap.size = (wr.setCell ⟨r, 0, none⟩ (.slice A5 n c5)).heap.size := by simp [World.setCell]
          rw [← hs]
          rcases hk with rfl | hk
          · exact blk_lt hcb
          · obtain ⟨cells, h1⟩ := own_typed hrow k hk
            exact blk_lt h1
        · rcases hk with rfl | hk
          · exact .inl HH.out.gr
          · exact .inr (own_base hrow k hk)
      have i0 : ¬ (M.length : Int) < (M.length : Int) := by omega
      obtain ⟨y, hy⟩ : ∃ y : Nat, M.length - (expF M now).length = y := ⟨_, rfl⟩
      have hyy : (M.length : Int) - (n : Int) = (y : Int) := by omega
      have hy4 : y ≤ 4096 := by omega
      have HY := Aside0.mk hy
      clear hl hrow hel hy
      go_wp2_with (fail)
      go_ret
      exact ⟨by rw [HY.out]; rfl, HE.out⟩
end Go.Proofs.Ytkomjplajfjpkaa.Ext
