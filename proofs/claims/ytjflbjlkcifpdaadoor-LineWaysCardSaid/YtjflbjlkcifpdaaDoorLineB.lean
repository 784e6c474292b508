/- The table of ways, a map that is made anew at each call: by hand. -/
import Derived.Test.YtjflbjlkcifpdaaDoorLineA
namespace Go.Proofs.YtjflbjlkcifpdaaDoor.Ext
open Go.RowKit Go.Proofs.YtjflbjlkcifpdaaDoorW.PrintWords Go.Proofs.YtjflbjlkcifpdaaDoorW.PrintLast Go.Proofs.YtjflbjlkcifpdaaDoorW.PrintMore
open Go.Maps (Keyed)
set_option linter.unusedVariables false
set_option linter.unusedSimpArgs false
/-- From which states a kind leads, and to which. -/
def wt : List (Int × List Int × Int) := [(4, [1], 1), (5, [1, 6], 2), (6, [2], 2), (7, [2], 3), (8, [1, 6, 3], 4), (9, [4], 4), (10, [4], 5), (11, [5], 6), (12, [5, 7], 7), (14, [5, 7], 0), (13, [1, 2, 3, 4, 5, 6], 0)]
def wat (i : Nat) : Int × List Int × Int := wt.getD i (0, [], 0)
/-- How a way reads. -/
def wdat (g n t : Int) : DataW Unit := .agg [.lit (.int .i64 g), .lit (.int .i64 n), .lit (.int .i64 t)]
def wayRead : Value → Option (DataW Unit × List MemPlace)
  | .agg cs => match cs.toList with
    | [.slice (some ⟨g, 0, none⟩) n c, .int .i64 t] => if c = n then some (wdat g n t, []) else none
    | [.slice none 0 0, .int .i64 t] => some (wdat (-1) 0 t, [])
    | _ => none
  | _ => none
theorem wayRead_mk (g n : Nat) (t : Int) : wayRead (.agg #[.slice (some ⟨g, 0, none⟩) n n, .int .i64 t]) = some (wdat g n t, []) := by simp [wayRead]
theorem wayRead_nil (t : Int) : wayRead (.agg #[.slice none 0 0, .int .i64 t]) = some (wdat (-1) 0 t, []) := by simp [wayRead]
theorem wayRead_inv {v : Value} {g n : Nat} {t : Int} {ps : List MemPlace} (h : wayRead v = some (wdat g n t, ps)) : v = .agg #[.slice (some ⟨g, 0, none⟩) n n, .int .i64 t] := by
  unfold wayRead at h
  split at h
  · rename_i cs
    split at h
    · rename_i g' n' c' t' hcs
      split at h
      · rename_i hc
        subst hc
        simp only [Option.some.injEq, Prod.mk.injEq, wdat, DataW.agg.injEq, List.cons.injEq, DataW.lit.injEq, Lit.int.injEq, true_and, and_true] at h
        obtain ⟨⟨h1, h2, h3⟩, _⟩ := h
        have : g' = g := by omega
        have : c' = n := by omega
        subst_vars
        congr 1
        exact Array.toList_inj.1 hcs
      · cases h
    · simp only [Option.some.injEq, Prod.mk.injEq, wdat, DataW.agg.injEq, List.cons.injEq, DataW.lit.injEq, Lit.int.injEq, true_and, and_true] at h
      omega
    · cases h
  · cases h
theorem keyed3 : Keyed Tryd.prog 3 := Go.Maps.int_keyed Tryd.underlying3
/-- The table's datum behind so many ways, the lists from block b on. -/
def wD (b : Nat) : Nat → DataW Unit
  | 0 => .map []
  | i + 1 => (wD b i).put (.int .i64 (wat i).1) (wdat ((b + 1 + i : Nat) : Int) ((wat i).2.1.length : Nat) (wat i).2.2)
structure Ws (w W : World) (i : Nat) : Prop where
  own : W.ownsMap Tryd.prog 3 wayRead w.heap.size i (wD w.heap.size i)
  size : W.heap.size = w.heap.size + 1 + i
  rows : ∀ j, j < i → W.heap[w.heap.size + 1 + j]? = some (.cells (nums .i64 (wat j).2.1).toArray 3 (0, 0))
  bel : Below w.heap.size w W
theorem Ws.start (w : World) : Ws w (w.alloc (.map #[] 0)) 0 :=
  ⟨World.ownsMap_made w Tryd.prog 3 wayRead, by simp, fun j hj => by omega, below_alloc (Below.refl _ _) _⟩
/-- One way more. -/
theorem Ws.next {w W w1 : World} {i : Nat} (h : Ws w W i) {D : DataW Unit} (hD : D = wD w.heap.size (i + 1)) (ho : w1.ownsMap Tryd.prog 3 wayRead w.heap.size (i + 1) D)
    (hs : w1.heap.size = (W.alloc (.cells (nums .i64 (wat i).2.1).toArray 3)).heap.size)
    (hg : (W.alloc (.cells (nums .i64 (wat i).2.1).toArray 3)).grownBy w1 (some w.heap.size)) : Ws w w1 (i + 1) := by
  refine ⟨hD ▸ ho, by rw [hs]; simp [h.size]; omega, ?_, (h.bel.alloc (by rw [h.size]; omega) _).grown hg (by simp [h.size]; omega) (fun k hk => by injection hk with hk; omega)⟩
  intro j hj
  have hne : some (w.heap.size + 1 + j) ≠ some w.heap.size := by simp; omega
  by_cases he : j = i
  · subst he
    refine (hg.block _ (by simp [h.size]) hne).trans ?_
    rw [← h.size]
    exact blk_new _ _
  · refine (hg.block _ (by simp [h.size]; omega) hne).trans ?_
    exact blk_alloc (h.rows j (by omega)) _
theorem wpList_insert_way (w : World) {ops : Array Oper} {rest : List Oper} {o : Oper} {a : Act} {Q : Exit → Act → World → Prop}
    (hg : o.guard = none) (m x v : Operand) (hop : o.op = Op.insert 49 m x v) (b n : Nat) (D : DataW Unit)
    (hm : a.eval m = .map (some b)) (hown : w.ownsMap Tryd.prog 3 wayRead b n D) (hn : n < maxLen) (key : Int) (val : Value) (hx : a.eval x = .int .i64 key) (hv : a.eval v = val) (hw : (Lit.int .i64 key).wf = true)
    (d : DataW Unit) (ps : List MemPlace) (hval : wayRead val = some (d, ps))
    (hK : ∀ w', w'.ownsMap Tryd.prog 3 wayRead b (n + 1) (D.put (.int .i64 key) d) → w'.heap.size = w.heap.size → w.grownBy w' (some b) → wpList Tryd.prog ops Q rest (a.put o.dst undef) w') :
    wpList Tryd.prog ops Q (o :: rest) a w := by
  refine wpList_plain hg fun K' hK' => ?_
  obtain ⟨w', hrun, r1, r2⟩ := hown.store keyed3 Tryd.underlying49 hn (Go.Maps.keyOf_int_mk Tryd.underlying3 hw) hval
  have hs : w'.heap.size = w.heap.size := by
    obtain ⟨es, clock, es', clock', hb, rfl⟩ := r2
    simp [Go.ChangeMaps.setBlock]
  unfold Oper.wp
  simp [execOp, hop, hm, hx, hv, hrun, Result.andThen]
  exact hK' _ _ (hK w' r1 hs r2.grown)
theorem Ws.way {w W : World} {i : Nat} (h : Ws w W i) {k : Nat} (hk : k = w.heap.size + 1 + i) (n : Nat) (t : Int) : wayRead (.agg #[.slice (some ⟨k, 0, none⟩) n n, .int .i64 t]) = some (wdat ((w.heap.size + 1 + i : Nat) : Int) n t, []) := by rw [hk]; exact wayRead_mk _ _ _
set_option maxHeartbeats 1000000 in
theorem ways_ws (w : World) : Calls Tryd.prog 24 #[] w fun e w' => e = .returned (.map (some w.heap.size)) ∧ Ws w w' 11 := by
  have hmm := @run_makeMap Tryd.prog
  have HS := Aside0.mk (Ws.start w)
  go_enter Tryd.func24, Tryd.ntmps24
  go_wp2_with (refine wpList_insert_way _ rfl _ _ _ rfl w.heap.size _ _ rfl (HS.out.own.alloc _) (by decide) _ _ rfl rfl (by decide) _ _ (HS.out.way (by first | exact HS.out.size | rfl) _ _) ?_; intro w1 ho hs hg; have HS1 := Aside0.mk (HS.out.next rfl ho hs hg); clear HS ho hs hg; have HS := HS1; clear HS1)
  go_ret
  exact ⟨rfl, HS.out⟩
theorem wD_at0 (b : Nat) (z : DataW Unit) : (wD b 11).atKey (.int .i64 (wat 0).1) z = wdat ((b + 1 + 0 : Nat) : Int) ((wat 0).2.1.length : Nat) (wat 0).2.2 := by kernel_rfl
theorem wD_at1 (b : Nat) (z : DataW Unit) : (wD b 11).atKey (.int .i64 (wat 1).1) z = wdat ((b + 1 + 1 : Nat) : Int) ((wat 1).2.1.length : Nat) (wat 1).2.2 := by kernel_rfl
theorem wD_at2 (b : Nat) (z : DataW Unit) : (wD b 11).atKey (.int .i64 (wat 2).1) z = wdat ((b + 1 + 2 : Nat) : Int) ((wat 2).2.1.length : Nat) (wat 2).2.2 := by kernel_rfl
theorem wD_at3 (b : Nat) (z : DataW Unit) : (wD b 11).atKey (.int .i64 (wat 3).1) z = wdat ((b + 1 + 3 : Nat) : Int) ((wat 3).2.1.length : Nat) (wat 3).2.2 := by kernel_rfl
theorem wD_at4 (b : Nat) (z : DataW Unit) : (wD b 11).atKey (.int .i64 (wat 4).1) z = wdat ((b + 1 + 4 : Nat) : Int) ((wat 4).2.1.length : Nat) (wat 4).2.2 := by kernel_rfl
theorem wD_at5 (b : Nat) (z : DataW Unit) : (wD b 11).atKey (.int .i64 (wat 5).1) z = wdat ((b + 1 + 5 : Nat) : Int) ((wat 5).2.1.length : Nat) (wat 5).2.2 := by kernel_rfl
theorem wD_at6 (b : Nat) (z : DataW Unit) : (wD b 11).atKey (.int .i64 (wat 6).1) z = wdat ((b + 1 + 6 : Nat) : Int) ((wat 6).2.1.length : Nat) (wat 6).2.2 := by kernel_rfl
theorem wD_at7 (b : Nat) (z : DataW Unit) : (wD b 11).atKey (.int .i64 (wat 7).1) z = wdat ((b + 1 + 7 : Nat) : Int) ((wat 7).2.1.length : Nat) (wat 7).2.2 := by kernel_rfl
theorem wD_at8 (b : Nat) (z : DataW Unit) : (wD b 11).atKey (.int .i64 (wat 8).1) z = wdat ((b + 1 + 8 : Nat) : Int) ((wat 8).2.1.length : Nat) (wat 8).2.2 := by kernel_rfl
theorem wD_at9 (b : Nat) (z : DataW Unit) : (wD b 11).atKey (.int .i64 (wat 9).1) z = wdat ((b + 1 + 9 : Nat) : Int) ((wat 9).2.1.length : Nat) (wat 9).2.2 := by kernel_rfl
theorem wD_at10 (b : Nat) (z : DataW Unit) : (wD b 11).atKey (.int .i64 (wat 10).1) z = wdat ((b + 1 + 10 : Nat) : Int) ((wat 10).2.1.length : Nat) (wat 10).2.2 := by kernel_rfl
theorem wD_at (b : Nat) (z : DataW Unit) : ∀ i, i < 11 → (wD b 11).atKey (.int .i64 (wat i).1) z = wdat ((b + 1 + i : Nat) : Int) ((wat i).2.1.length : Nat) (wat i).2.2
  | 0, _ => wD_at0 b z
  | 1, _ => wD_at1 b z
  | 2, _ => wD_at2 b z
  | 3, _ => wD_at3 b z
  | 4, _ => wD_at4 b z
  | 5, _ => wD_at5 b z
  | 6, _ => wD_at6 b z
  | 7, _ => wD_at7 b z
  | 8, _ => wD_at8 b z
  | 9, _ => wD_at9 b z
  | 10, _ => wD_at10 b z
  | n + 11, h => by omega
theorem zero48 (w : World) : (zeroValue 48).run Tryd.prog w = .ok (.agg #[.slice none 0 0, .int .i64 0]) w := by simp [go_sem]
def widx (K : Int) : Nat := if K = 14 then 9 else if K = 13 then 10 else (K - 4).toNat
def wayOf (K : Int) : List Int × Int := (wat (widx K)).2
theorem widx_at : ∀ K : Fin 15, 4 ≤ K.val → (wat (widx (K.val : Int))).1 = (K.val : Int) ∧ widx (K.val : Int) < 11 ∧ (wat (widx (K.val : Int))).2.1.length ≤ 10 := by decide
theorem wf14 : ∀ K : Fin 15, (Lit.int .i64 (K.val : Int)).wf = true := by decide
/-- What the walks use of the table: the way of one kind. -/
structure Wy (w w' : World) (K : Int) (A : Option Addr) (n : Nat) : Prop where
  bel : Below w.heap.size w w'
  look : ∀ W : World, W.heap = w'.heap → (Instr.lookup 49 (.map (some w.heap.size)) (.int .i64 K) false).run Tryd.prog W = .ok (.agg #[.slice A n n, .int .i64 (wayOf K).2]) W
  len : n = (wayOf K).1.length
  row : Kd.C (Kd.int .i64) w' A (wayOf K).1.length (wayOf K).1
theorem row_at {W : World} {g : Nat} {xs : List Int} {t : TypeId} {fr : Nat × Nat} (hb : W.heap[g]? = some (.cells (nums .i64 xs).toArray t fr)) (h : xs.length ≤ 9223372036854775807) : Kd.C (Kd.int .i64) W (some ⟨g, 0, none⟩) xs.length xs := by
  refine Kd.C_of_reads (d := (0 : Int)) (h1 := fun _ => rfl) ⟨rfl, h, fun hn => ⟨_, rfl, fun j hj => ?_⟩⟩
  rw [add_plain, cell_of_row _ _ _ _ _ _ hb]
  simp [nums, List.getElem?_eq_getElem hj, List.getD_eq_getElem?_getD]
theorem ways_calls (w : World) (K : Int) (h4 : 4 ≤ K) (h14 : K ≤ 14) : Calls Tryd.prog 24 #[] w fun e w' => e = .returned (.map (some w.heap.size)) ∧ ∃ A n, Wy w w' K A n := by
  refine (ways_ws w).mono ?_
  rintro e w' ⟨rfl, hs⟩
  refine ⟨rfl, some ⟨w.heap.size + 1 + widx K, 0, none⟩, (wayOf K).1.length, hs.bel, ?_, rfl, ?_⟩
  · intro W hW
    obtain ⟨K', rfl⟩ := Int.eq_ofNat_of_zero_le (show 0 ≤ K by omega)
    obtain ⟨hk1, hk2, _⟩ := widx_at ⟨K', by omega⟩ (by simp; omega)
    simp only at hk1 hk2
    have ho : W.ownsMap Tryd.prog 3 wayRead w.heap.size 11 (wD w.heap.size 11) := by
      obtain ⟨es, clock, hb, r⟩ := hs.own
      exact ⟨es, clock, by rw [hW]; exact hb, r⟩
    have hwf : (Lit.int .i64 (K' : Int)).wf = true := wf14 ⟨K', by omega⟩
    obtain ⟨v, ps, h1, h2⟩ := ho.lookup keyed3 Tryd.underlying49 (zero48 W) (wayRead_nil 0) (Go.Maps.keyOf_int_mk Tryd.underlying3 hwf)
    rw [h1]
    have h3 := wD_at w.heap.size (wdat (-1) 0 0) (widx K') hk2
    rw [hk1] at h3
    rw [h3] at h2
    rw [wayRead_inv h2]
    rfl
  · obtain ⟨K', rfl⟩ := Int.eq_ofNat_of_zero_le (show 0 ≤ K by omega)
    obtain ⟨hk1, hk2, hk3⟩ := widx_at ⟨K', by omega⟩ (by simp; omega)
    simp only at hk1 hk2 hk3
    have hb := hs.rows (widx K') hk2
    exact row_at hb (by show (wat (widx (K' : Int))).2.1.length ≤ _; omega)
end Go.Proofs.YtjflbjlkcifpdaaDoor.Ext
