/- The document's cache: a row of keys with times. Has. By hand. -/
import Derived.Test.YtkomjplajfjpkaaTwo
namespace Go.Proofs.Ytkomjplajfjpkaa.Ext
open Go.RowKit Go.Proofs.Ytkomjplajfjpkaa.Hea Go.Proofs.YtkomjplajfjpkaaW.PrintWords Go.Proofs.YtkomjplajfjpkaaW.PrintLast Go.Proofs.YtkomjplajfjpkaaW.PrintMore
open Go.Maps (Keyed)
set_option linter.unusedVariables false
set_option linter.unusedSimpArgs false
def flat : Row → List Value
  | [] => []
  | p :: M => .string p.1 :: .int .u64 p.2 :: flat M
def mt (M : Row) (i : Nat) : ByteArray × Int := M.getD i (ByteArray.empty, 0)
theorem flat_len : ∀ M : Row, (flat M).length = M.length * 2
  | [] => rfl
  | p :: M => by simp [flat, flat_len M]; omega
theorem flat_app : ∀ M N : Row, flat (M ++ N) = flat M ++ flat N
  | [], N => rfl
  | p :: M, N => by simp [flat, flat_app M N]
theorem mt_lt {M : Row} {i : Nat} (h : i < M.length) : mt M i = M[i] := by
  unfold mt; rw [List.getD_eq_getElem?_getD, List.getElem?_eq_getElem h]; rfl
theorem mt_mem {M : Row} {i : Nat} (h : i < M.length) : ((mt M i).1, (mt M i).2) ∈ M := by rw [mt_lt h]; exact List.getElem_mem h
theorem flat_get : ∀ (M : Row) (i : Nat), i < M.length → (flat M)[i * 2]? = some (.string (mt M i).1) ∧ (flat M)[i * 2 + 1]? = some (.int .u64 (mt M i).2)
  | [], i, h => by simp at h
  | p :: M, 0, _ => ⟨rfl, rfl⟩
  | p :: M, i + 1, h => by
    have ih := flat_get M i (by simpa using h)
    have e1 : (i + 1) * 2 = i * 2 + 2 := by omega
    have e2 : (i + 1) * 2 + 1 = i * 2 + 1 + 2 := by omega
    rw [e2, e1]
    exact ih
theorem flat_set : ∀ (M : Row) (i : Nat) (t : Int), i < M.length → (flat M).set (i * 2 + 1) (.int .u64 t) = flat (M.set i ((mt M i).1, t))
  | [], i, t, h => by simp at h
  | p :: M, 0, t, _ => rfl
  | p :: M, i + 1, t, h => by
    have ih := flat_set M i t (by simpa using h)
    have e2 : (i + 1) * 2 + 1 = i * 2 + 1 + 2 := by omega
    rw [e2]
    show _ :: _ :: (flat M).set (i * 2 + 1) _ = _
    rw [ih]
    rfl
structure Rf (W : World) (r : Nat) (G : Nat → Prop) (v : Value) (M : Row) : Prop where
  blk : W.heap[r]? = some (.cells #[v] 30 (0, 0))
  row : W.ownsRow 0 56 2 v M.length (flat M)
  gr : G r
  gv : ∀ k, v.ownBlock = some k → G k
  lt : ∀ k, G k → k < W.heap.size
  sm : M.length ≤ 4096
section
variable {W W' : World} {r : Nat} {G : Nat → Prop} {v : Value} {M : Row}
theorem Rf.step (h : Rf W r G v M) (hs : W.heap.size ≤ W'.heap.size) (hk : ∀ k, G k → W'.heap[k]? = W.heap[k]?) : Rf W' r G v M :=
  ⟨(hk r h.gr).trans h.blk, own_move h.row (fun k hv => hk k (h.gv k hv)), h.gr, h.gv, fun k hf => Nat.lt_of_lt_of_le (h.lt k hf) hs, h.sm⟩
theorem Rf.below (h : Rf W r G v M) (hb : Below W.heap.size W W') : Rf W' r G v M := h.step hb.size (fun k hk => hb.block k (h.lt k hk))
theorem Rf.apart {F : Nat → Prop} (h : Rf W r G v M) (hm : Mvs F W W') (hF : ∀ k, G k → ¬ F k) : Rf W' r G v M := h.step hm.size (fun k hk => hm.block k (h.lt k hk) (hF k hk))
theorem Rf.form (h : Rf W r G v M) : ∃ A cap, v = .slice A M.length cap := own_form h.row
theorem Rf.slot (h : Rf W r G v M) {i : Nat} (hi : i < M.length) : ∃ g cap, v = .slice (some ⟨g, 0, none⟩) M.length cap := by
  rcases h.row.2 with ⟨hv, hn⟩ | ⟨g, cap, cur, hv, _⟩
  · omega
  · exact ⟨g, cap, hv⟩
theorem Rf.cell0 (h : Rf W r G v M) : W.cell? ⟨r, 0, none⟩ = some v := blk_cell h.blk 0
theorem Rf.frozen0 (h : Rf W r G v M) : W.frozen? ⟨r, 0, none⟩ = false := blk_frozen h.blk 0
theorem Rf.typ (h : Rf W r G v M) {k : Nat} (hk : v.ownBlock = some k) : ∃ cells, W.heap[k]? = some (.cells cells 56 (0, 0)) := own_typed h.row k hk
theorem Rf.ne (h : Rf W r G v M) {k : Nat} (hk : v.ownBlock = some k) : k ≠ r := by
  obtain ⟨cells, h1⟩ := h.typ hk
  exact blk_ne h1 h.blk (by decide)
theorem Rf.celli {g n cap : Nat} (h : Rf W r G (.slice (some ⟨g, 0, none⟩) n cap) M) {i : Nat} (hi : i < M.length) : W.cell? ⟨g, i * 2, none⟩ = some (.string (mt M i).1) ∧ W.cell? ⟨g, i * 2 + 1, none⟩ = some (.int .u64 (mt M i).2) ∧ W.frozen? ⟨g, i * 2 + 1, none⟩ = false := by
  rcases h.row.2 with ⟨hv, hn⟩ | ⟨g', cap', cur, hv, hg, hh, hn, hm, hc, ht⟩
  · cases hv
  · injection hv with e1 e2 e3
    injection e1 with e1
    injection e1 with e1
    subst e1
    obtain ⟨f1, f2⟩ := flat_get M i hi
    rw [← ht, List.getElem?_take, if_pos (by omega), Array.getElem?_toList] at f1 f2
    exact ⟨by rw [blk_cell hh]; exact f1, by rw [blk_cell hh]; exact f2, blk_frozen hh _⟩
end
theorem hasF_at {M : Row} (hnd : Nd M) {i : Nat} (hi : i < M.length) (t : Int) : hasF M (mt M i).1 t = decide (t < (mt M i).2) := hasF_in hnd (mt_mem hi) t
set_option maxHeartbeats 2000000 in
theorem rhas_calls {W : World} {r : Nat} {G : Nat → Prop} {v : Value} {M : Row} (h : Rf W r G v M) (hnd : Nd M) (k : ByteArray) (t : Int) : Calls Try.prog 15 #[.pointer (some ⟨r, 0, none⟩), .string k, .int .u64 t] W fun e w' => e = .returned (.bool (hasF M k t)) ∧ w' = W := by
  have c0 := h.cell0
  have hsm := h.sm
  have HH := Aside0.mk h
  obtain ⟨A, cap, rfl⟩ := h.form
  clear h
  go_enter Try.func15, Try.ntmps15
  go_wp2_with (fail)
  go_loopg [7] M.length (fun gm v7 wr => ∃ i : Nat, v7 = .int .i64 (i : Int) ∧ i + gm = M.length ∧ (∀ j, j < i → (mt M j).1 ≠ k) ∧ wr = W)
  case atStart => exact ⟨0, rfl, by omega, fun j hj => by omega, rfl⟩
  case round =>
    obtain ⟨i, rfl, hi, hno, rfl⟩ := hrel
    by_cases hlt : i < M.length
    · obtain ⟨g, cap', hv⟩ := HH.out.slot hlt
      injection hv with e1 e2 e3
      subst e1; subst e3
      obtain ⟨d0, d1, _⟩ := HH.out.celli hlt
      have i0 : (i : Int) < (M.length : Int) := by omega
      have hat := hasF_at hnd hlt t
      by_cases hS : (mt M i).1 = k
      · have hq : ((mt M i).1.toList == k.toList) = true := by rw [hS]; exact beq_self_eq_true _
        rw [hS] at hat
        have HAT := Aside0.mk hat
        clear hat
        generalize mt M i = p at *
        go_wp2_with (fail)
        go_ret
        exact ⟨by rw [HAT.out]; rfl, rfl⟩
      · have hq : ((mt M i).1.toList == k.toList) = false := by rw [beq_eq_false_iff_ne]; exact fun h => hS (toList_inj h)
        have HNO : Aside0 (∀ j, j < i + 1 → (mt M j).1 ≠ k) := ⟨fun j hj => by
          by_cases e : j = i
          · subst e; exact hS
          · exact hno j (by omega)⟩
        clear hno
        generalize mt M i = p at *
        go_wp2_with (fail)
        go_roundg (gk - 1)
        case measure => omega
        case rel => exact ⟨i + 1, by simp, by omega, HNO.out, rfl⟩
    · have i0 : ¬ (i : Int) < (M.length : Int) := by omega
      have hout : hasF M k t = false := hasF_out (fun t0 hm => by
        obtain ⟨j, hj, he⟩ := List.mem_iff_getElem.1 hm
        have := hno j (by omega)
        rw [mt_lt hj, he] at this
        exact this rfl) t
      have HAT := Aside0.mk hout
      clear hno hout
      go_wp2_with (fail)
      go_ret
      exact ⟨by rw [HAT.out]; rfl, rfl⟩
end Go.Proofs.Ytkomjplajfjpkaa.Ext
