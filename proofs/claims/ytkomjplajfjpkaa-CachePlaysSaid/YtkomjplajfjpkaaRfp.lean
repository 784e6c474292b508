/- The document's cache: Put. By hand. -/
import Derived.Test.YtkomjplajfjpkaaRfc
namespace Go.Proofs.Ytkomjplajfjpkaa.Ext
open Go.RowKit Go.Proofs.Ytkomjplajfjpkaa.Hea Go.Proofs.YtkomjplajfjpkaaW.PrintWords Go.Proofs.YtkomjplajfjpkaaW.PrintLast Go.Proofs.YtkomjplajfjpkaaW.PrintMore
open Go.Maps (Keyed)
set_option linter.unusedVariables false
set_option linter.unusedSimpArgs false
theorem info56 : (Try.prog.info? 56).map (fun i => (i.zero, i.size, i.bytes)) = some (some (.agg #[.string ⟨#[]⟩, .int .u64 0]), 2, 24) := by kernel_rfl
theorem set_bump {M : Row} (hnd : Nd M) {i : Nat} (hi : i < M.length) (t : Int) : M.set i ((mt M i).1, max (mt M i).2 t) = putF M (mt M i).1 t := by
  rw [putF_in (mt_mem hi)]
  refine List.ext_getElem? fun j => ?_
  rw [List.getElem?_set, List.getElem?_map]
  by_cases e : i = j
  · subst e
    rw [if_pos rfl, if_pos hi, List.getElem?_eq_getElem hi, ← mt_lt hi]
    show some _ = some (bump _ _ _)
    rw [bump_eq rfl]
  · rw [if_neg e]
    by_cases hj : j < M.length
    · rw [List.getElem?_eq_getElem hj]
      show some _ = some (bump _ _ _)
      rw [bump_ne]
      intro h
      rw [mt_lt hi] at h
      have h1 : (M.map Prod.fst)[i]? = (M.map Prod.fst)[j]? := by
        rw [List.getElem?_map, List.getElem?_map, List.getElem?_eq_getElem hi, List.getElem?_eq_getElem hj, Option.map_some, Option.map_some, h]
      exact e ((List.getElem?_inj (by simpa using hi) hnd).1 h1)
    · rw [List.getElem?_eq_none (by omega)]; rfl
section
variable {W W' : World} {r : Nat} {G : Nat → Prop} {v : Value} {M : Row}
theorem ownsRow_set2 {w : World} {base e : Nat} {g n cap : Nat} {xs : List Value} (h : w.ownsRow base e 2 (.slice (some ⟨g, 0, none⟩) n cap) n xs) {i : Nat} (hi : i < n * 2) (u : Value) : (w.setCell ⟨g, i, none⟩ u).ownsRow base e 2 (.slice (some ⟨g, 0, none⟩) n cap) n (xs.set i u) := by
  obtain ⟨h1, h2⟩ := h
  refine ⟨by simpa using h1, ?_⟩
  rcases h2 with ⟨hv, _⟩ | ⟨g', cap', cur, hv, hg, hh, hn, hm, hc, ht⟩
  · cases hv
  · injection hv with e1 e2 e3
    injection e1 with e1
    injection e1 with e1
    subst e1; subst e3
    refine .inr ⟨g, cap, cur.setIfInBounds i u, rfl, hg, blk_set hh i u, hn, hm, by simpa using hc, ?_⟩
    rw [Array.toList_setIfInBounds, List.take_set, ht]
theorem Rf.setT {g n cap : Nat} (h : Rf W r G (.slice (some ⟨g, 0, none⟩) n cap) M) {i : Nat} (hi : i < M.length) (t : Int) : Rf (W.setCell ⟨g, i * 2 + 1, none⟩ (.int .u64 t)) r G (.slice (some ⟨g, 0, none⟩) n cap) (M.set i ((mt M i).1, t)) := by
  obtain ⟨A, cap', hv⟩ := h.form
  injection hv with _ hn _
  subst hn
  refine ⟨?_, ?_, h.gr, h.gv, fun k hk => by simpa [World.setCell] using h.lt k hk, by simpa using h.sm⟩
  · exact (Below.heap_setCell W ⟨g, i * 2 + 1, none⟩ _ r (Ne.symm (h.ne rfl))).trans h.blk
  · rw [← flat_set M i t hi, List.length_set]
    exact ownsRow_set2 h.row (by omega) _
theorem Rf.push (h : Rf W r G v M) {k : ByteArray} {t : Int} (hn : M.length < 4096) {v1 : Value} {w2 : World} (ho : w2.ownsRow 0 56 2 v1 (M.length + 1) (flat M ++ [.string k, .int .u64 t])) (hg : W.grownBy w2 v.ownBlock) (hat : v1.ownBlock = v.ownBlock ∨ ∃ b, v1.ownBlock = some b ∧ W.heap.size ≤ b) :
    ∃ G2, Rf (w2.setCell ⟨r, 0, none⟩ v1) r G2 v1 (M ++ [(k, t)]) ∧ (∀ k, G2 k → G k ∨ W.heap.size ≤ k) ∧ Mvs G W (w2.setCell ⟨r, 0, none⟩ v1) := by
  have hc : w2.heap[r]? = some (.cells #[v] 30 (0, 0)) := blk_grown h.blk hg (fun e' => h.ne e'.symm rfl)
  refine ⟨fun k => G k ∨ v1.ownBlock = some k, ⟨blk_put hc 0 _ rfl, ?_, .inl h.gr, fun k hk => .inr hk, fun k hk => ?_, by simp; omega⟩, fun k hk => ?_, ?_⟩
  · rw [List.length_append, flat_app]
    exact own_move ho (fun k hk => Below.heap_setCell w2 ⟨r, 0, none⟩ _ k (fun e' => by
      obtain ⟨cells, h1⟩ := own_typed ho k hk
      exact blk_ne h1 hc (by decide) e'))
  · have hs : w2.heap.size = (w2.setCell ⟨r, 0, none⟩ v1).heap.size := by simp [World.setCell]
    rw [← hs]
    rcases hk with hk | hk
    · exact Nat.lt_of_lt_of_le (h.lt k hk) hg.size
    · obtain ⟨cells, h1⟩ := own_typed ho k hk
      exact blk_lt h1
  · rcases hk with hk | hk
    · exact .inl hk
    · rcases hat with h1 | ⟨b, h1, h2⟩
      · exact .inl (h.gv k (h1 ▸ hk))
      · rw [h1] at hk
        injection hk with hk
        exact .inr (hk ▸ h2)
  · exact ((Mvs.refl W).grown hg (fun k hk => h.gv k hk)).set (p := ⟨r, 0, none⟩) h.gr _
end
/-- What Put leaves of the document's cache. -/
structure RfN (W w' : World) (r : Nat) (G : Nat → Prop) (M : Row) (v' : Value) (G' : Nat → Prop) : Prop where
  rf : Rf w' r G' v' M
  old : ∀ k, G' k → G k ∨ W.heap.size ≤ k
  mv : Mvs G W w'
set_option maxRecDepth 100000 in
set_option maxHeartbeats 4000000 in
theorem rput_calls {W : World} {r : Nat} {G : Nat → Prop} {v : Value} {M : Row} (h : Rf W r G v M) (hnd : Nd M) (hM : M.length < 4096) (k : ByteArray) (t : Int) : Calls Try.prog 18 #[.pointer (some ⟨r, 0, none⟩), .string k, .int .u64 t] W fun e w' => e = .returned (.tuple #[]) ∧ ∃ v' G', RfN W w' r G (putF M k t) v' G' := by
  have c0 := h.cell0
  have f0 := h.frozen0
  have hsm := h.sm
  have HH := Aside0.mk h
  obtain ⟨A, cap, rfl⟩ := h.form
  clear h
  go_enter Try.func18, Try.ntmps18
  go_wp2_with (fail)
  go_loopg [6] M.length (fun gm v6 wr => ∃ i : Nat, v6 = .int .i64 (i : Int) ∧ i + gm = M.length ∧ (∀ j, j < i → (mt M j).1 ≠ k) ∧ wr = W)
  case atStart => exact ⟨0, rfl, by omega, fun j hj => by omega, rfl⟩
  case round =>
    obtain ⟨i, rfl, hi, hno, rfl⟩ := hrel
    by_cases hlt : i < M.length
    · obtain ⟨g, cap', hv⟩ := HH.out.slot hlt
      injection hv with e1 e2 e3
      subst e1; subst e3
      obtain ⟨d0, d1, d2⟩ := HH.out.celli hlt
      have i0 : (i : Int) < (M.length : Int) := by omega
      by_cases hS : (mt M i).1 = k
      · have hq : ((mt M i).1.toList == k.toList) = true := by rw [hS]; exact beq_self_eq_true _
        have hb := Aside0.mk (set_bump hnd hlt t)
        have HE : Aside0 (∀ m, m = max (mt M i).2 t → ∃ v' G', RfN wr ((wr.setCell ⟨g, i * 2 + 1, none⟩ (.int .u64 m)).drew) r G (putF M k t) v' G') := ⟨fun m hm => by
          have h1 := HH.out.setT hlt m
          rw [hm, hb.out, hS, ← hm] at h1
          exact ⟨_, G, h1.below (below_drew (Below.refl _ _)), fun k hk => .inl hk, ((Mvs.refl wr).set (p := ⟨g, i * 2 + 1, none⟩) (HH.out.gv g rfl) _).drewN 1⟩⟩
        clear hno
        generalize mt M i = p at *
        go_wp2_with (fail)
        go_region
        all_goals
          go_wp2
          all_goals
            go_returns
            exact ⟨rfl, HE.out _ (by omega)⟩
      · have hq : ((mt M i).1.toList == k.toList) = false := by rw [beq_eq_false_iff_ne]; exact fun h => hS (toList_inj h)
        have HNO : Aside0 (∀ j, j < i + 1 → (mt M j).1 ≠ k) := ⟨fun j hj => by
          by_cases e : j = i
          · subst e; exact hS
          · exact hno j (by omega)⟩
        clear hno
        generalize mt M i = p at *
        go_wp2_with (fail)
        go_roundg (gk - 1)
        case measure => omega
        case rel => exact ⟨i + 1, by simp, by omega, HNO.out, rfl⟩
    · have i0 : ¬ (i : Int) < (M.length : Int) := by omega
      have HP : Aside0 (putF M k t = M ++ [(k, t)]) := ⟨putF_out (fun t0 hm => by
        obtain ⟨j, hj, he⟩ := List.mem_iff_getElem.1 hm
        have := hno j (by omega)
        rw [mt_lt hj, he] at this
        exact this rfl) t⟩
      clear hno
      go_wp2_with (first | ((with_reducible refine gate_builtin (b := .append) (xs := #[.tmp 47, .tmp 51]) rfl ?_); at_builtin; go_loud (refine print_append_cells (w0 := wr) 0 rfl (.tmp 47) (.tmp 51) 28 56 (.agg #[.string ⟨#[]⟩, .int .u64 0]) 2 24 rfl Try.underlying28 info56 rfl (by decide) (by decide) (.slice A M.length cap) M.length (flat M) [.string k, .int .u64 t] rfl rfl rfl (fun u hu => by rcases List.mem_cons.1 hu with rfl | hu; rfl; rw [List.mem_singleton.1 hu]; rfl) HH.out.row (Below.refl _ _) (Nat.zero_le _) (by omega) ?_); intro v1 w2 ho hb hg hat; obtain ⟨A1, cap1, rfl⟩ := own_form ho; have hc2 := blk_grown HH.out.blk hg (fun e' => HH.out.ne e'.symm rfl); have cc2 := blk_cell hc2 0; have ff2 := blk_frozen hc2 0; have HP2 := Aside0.mk (HH.out.push hM ho hg hat); clear ho hb hg hat hc2))
      go_returns
      obtain ⟨G2, g1, g2, g3⟩ := HP2.out
      exact ⟨rfl, _, G2, by rw [HP.out]; exact g1, g2, g3⟩
end Go.Proofs.Ytkomjplajfjpkaa.Ext
