/- A block: the contract of digest.block. -/
import Derived.Test.YtanafhccflmdkaaDoorShaA
import Derived.Deep.QuietTactic
import Derived.BigQuiet
import Derived.Deep.RegionHeld3
import Derived.Laws.CopyOwn
import Derived.Deep.RegionLaw
import Derived.StillTailTactics
namespace Go.Proofs.YtanafhccflmdkaaDoor.Ext
open Go.RowKit Go.Proofs.YtanafhccflmdkaaDoorW.PrintWords Go.Proofs.YtanafhccflmdkaaDoorW.PrintLast Go.Proofs.YtanafhccflmdkaaDoorW.PrintMore
set_option linter.unusedVariables false
set_option linter.unusedSimpArgs false
def tab : List Int := roots
/-- The world holds the table. -/
def Glob (w : World) : Prop := ∀ j, j < 64 → w.cell? ⟨0, j, none⟩ = some (.int .u32 (tab.getD j 0))
theorem Glob.pos {w : World} (h : Glob w) : 0 < w.heap.size := World.block_lt_of_cell? w ⟨0, 0, none⟩ (h 0 (by decide))
/-- A whole variable loaded, of which the cells are known. -/
theorem ld_cells {P : Program} {ops : Array Oper} {rest : List Oper} {o : Oper} {a : Act} {w : World} {Q : Exit → Act → World → Prop} (hgd : o.guard = none) (ty : TypeId) (x : Operand) (ho : o.op = .load ty x)
    (g : Nat) (hx : a.eval x = .pointer (some ⟨g, 0, none⟩)) (cs : Array Value) (d : TypeDesc) (hc : ∀ j v, cs[j]? = some v → w.cell? ⟨g, j, none⟩ = some v)
    (hu : P.underlying ty = some d) (hd : (match d with | .struct _ | .array _ _ => true | _ => false) = true) (hi : (P.info? ty).map (·.size) = some cs.size)
    (h : wpList P ops Q rest (a.put o.dst (.agg cs)) w) : wpList P ops Q (o :: rest) a w := by
  refine wpList_plain hgd fun K hK => ?_
  have hrun : (loadVar ty ⟨g, 0, none⟩).run P w = .ok (.agg cs) w := by
    have hl : (loadCells ⟨g, 0, none⟩ cs.toList.length).run P w = .ok cs.toList.toArray w :=
      run_loadCells_list (P := P) w ⟨g, 0, none⟩ cs.toList (fun j v hv => by
        have hadd : (⟨g, 0, none⟩ : Addr).add j = ⟨g, j, none⟩ := by unfold Addr.add; split <;> simp_all
        rw [hadd]
        exact hc j v (by simpa using hv))
    cases hq : P.info? ty with
    | none => simp [hq] at hi
    | some i =>
      have hs : i.size = cs.size := by simpa [hq] using hi
      have hagg : (isAgg ty).run P w = .ok true w := by
        unfold isAgg
        rw [Sem.run_bind, run_underlying hu w]
        cases d <;> simp_all
      simp only [Array.length_toList, Array.toArray_toList] at hl
      simp [loadVar, Sem.run_bind, hagg, sizeOf, typeInfo, hq, hs, hl]
  unfold Oper.wp execOp
  simp only [ho, hx, Instr.loadAt, Instr.sureAddr, Sem.run_bind, Sem.run_pure, Result.andThen_ok, hrun]
  exact hK _ _ h
/-- The cells of the words so far; of a state. -/
def V32 (x : BitVec 32) : Value := .int .u32 (B x)
def wc (l : List (BitVec 32)) : Array Value := (l.map V32 ++ List.replicate (64 - l.length) (Value.int .u32 0)).toArray
def sc (ws : List (BitVec 32)) (r : List Int) (n : Int) : Array Value := (ws.map V32 ++ r.map (Value.int .u8) ++ [Value.int .u64 n]).toArray
theorem wc_get (l : List (BitVec 32)) (i : Nat) (h : i < l.length) : (wc l)[i]? = some (.int .u32 (B (l.getD i 0))) := by
  unfold wc
  simp [List.getElem?_append_left, h, List.getD_eq_getElem?_getD, V32]
theorem wc_zero (l : List (BitVec 32)) (h : l.length < 64) : (wc l)[l.length]? = some (.int .u32 0) := by
  unfold wc
  rw [List.getElem?_toArray, List.getElem?_append_right (by simp), List.getElem?_replicate]
  simp; omega
theorem wc_set (l : List (BitVec 32)) (x : BitVec 32) (h : l.length < 64) : (wc l).setIfInBounds l.length (.int .u32 (B x)) = wc (l ++ [x]) := by
  unfold wc
  apply Array.ext'
  rw [Array.toList_setIfInBounds]
  simp only [List.map_append, List.length_append, List.map_cons, List.map_nil, List.length_cons, List.length_nil]
  rw [List.set_append_right _ _ (by simp), show 64 - l.length = (64 - (l.length + (0 + 1))) + 1 by omega, List.replicate_succ]
  simp [V32]
theorem wc_in (l : List (BitVec 32)) (h : l.length < 64) : wc l = (wc l).setIfInBounds l.length (.int .u32 (B 0#32)) := by
  rw [wc_set l 0#32 h]
  unfold wc
  rw [List.length_append, show 64 - l.length = (64 - (l.length + [0#32].length)) + 1 by simp; omega, List.replicate_succ]
  simp [V32, B]
theorem sc_d (ws : List (BitVec 32)) (r : List Int) (n : Int) (i : Nat) (h : i < ws.length) : (sc ws r n)[i]? = some (.int .u32 (B (ws.getD i 0))) := by
  unfold sc
  simp [List.getElem?_append_left, h, List.getD_eq_getElem?_getD, V32]
theorem sc_r (ws : List (BitVec 32)) (r : List Int) (n : Int) (i : Nat) (hw : ws.length = 8) (h : i < r.length) : (sc ws r n)[8 + i]? = some (.int .u8 (r.getD i 0)) := by
  unfold sc
  rw [List.getElem?_toArray, List.getElem?_append_left (by simp; omega), List.getElem?_append_right (by simp; omega)]
  simp [hw, h, List.getD_eq_getElem?_getD]
theorem sc_set (ws : List (BitVec 32)) (r : List Int) (n : Int) (i : Nat) (x : BitVec 32) (h : i < ws.length) : (sc ws r n).setIfInBounds i (.int .u32 (B x)) = sc (ws.set i x) r n := by
  unfold sc
  apply Array.ext'
  rw [Array.toList_setIfInBounds]
  simp [List.set_append_left _ _ (show i < (ws.map V32).length by simpa using h), List.map_set, V32]
theorem gr_alloc {w W : World} {r : Option Nat} (h : w.grownBy W r) (o : Obj) : w.grownBy (W.alloc o) r :=
  ⟨h.os, h.tape, h.output, by have := h.size; show _ ≤ (W.heap.push o).size; rw [Array.size_push]; omega, fun k hk hr => (Below.heap_alloc W o k (by have := h.size; omega)).trans (h.block k hk hr)⟩
theorem gr_set {w W : World} {g q : Nat} (h : w.grownBy W (some g)) (hq : w.heap.size ≤ q ∨ q = g) (j : Nat) (v : Value) : w.grownBy (W.setCell ⟨q, j, none⟩ v) (some g) :=
  ⟨h.os, h.tape, h.output, by have := h.size; simp [World.setCell]; omega, fun k hk hr => by
    have hne : k ≠ q := by
      rintro rfl
      rcases hq with hq | rfl
      · omega
      · exact hr rfl
    exact (Below.heap_setCell W ⟨q, j, none⟩ v k hne).trans (h.block k hk hr)⟩
theorem gr_drewN {w W : World} {r : Option Nat} (h : w.grownBy W r) (n : Nat) : w.grownBy (W.drewN n) r := ⟨h.os, h.tape, h.output, h.size, h.block⟩
/-- What the first loop holds. -/
structure L1 (w W : World) (g q : Nat) (ws : List (BitVec 32)) (r : List Int) (n : Int) (cq : Array Value) : Prop where
  gr : w.grownBy W (some g)
  blk : W.heap[g]? = some (.cells (sc ws r n) 40 (0, 0))
  row : W.heap[q]? = some (.cells cq 62 (0, 0))
  new : w.heap.size ≤ q
theorem L1.ne {w W : World} {g q : Nat} {ws : List (BitVec 32)} {r : List Int} {n : Int} {cq : Array Value} (h : L1 w W g q ws r n cq) : g ≠ q := blk_ne h.blk h.row (by decide)
theorem L1.put {w W : World} {g q : Nat} {ws : List (BitVec 32)} {r : List Int} {n : Int} {cq : Array Value} (h : L1 w W g q ws r n cq) (i : Nat) (v : Value) : L1 w (W.setCell ⟨q, i, none⟩ v) g q ws r n (cq.setIfInBounds i v) :=
  ⟨gr_set h.gr (.inl h.new) _ _, blk_far h.blk (p := ⟨q, i, none⟩) h.ne v, blk_set h.row i v, h.new⟩
theorem L1.drewN {w W : World} {g q : Nat} {ws : List (BitVec 32)} {r : List Int} {n : Int} {cq : Array Value} (h : L1 w W g q ws r n cq) (m : Nat) : L1 w (W.drewN m) g q ws r n cq := ⟨gr_drewN h.gr m, h.blk, h.row, h.new⟩
theorem word4_step (b : List Int) (i j : Nat) (hj : j < 4) (h : 4 * i + j < b.length) : ((b.drop (4 * i)).take (j + 1)).foldl push 0#32 = push (((b.drop (4 * i)).take j).foldl push 0#32) (b.getD (4 * i + j) 0) := by
  rw [List.take_succ_eq_append_getElem (by rw [List.length_drop]; omega), List.foldl_append]
  simp [List.getElem_drop, List.getD_eq_getElem?_getD, h]
theorem push_B (x : BitVec 32) (c : Int) (h0 : 0 ≤ c) (h1 : c < 256) : bits .or .u32 (B x * 256 % 4294967296) (c % 4294967296) = B (push x c) := by
  have e1 := shlB x 8
  rw [IntKind.wrap_u32, show ((2 : Int) ^ 8) = 256 from rfl] at e1
  have e2 := byteB c h0 h1
  rw [IntKind.wrap_u32] at e2
  rw [e1, e2, orB]; rfl
theorem addB4 (a b c d : BitVec 32) : (B a + B b + B c + B d) % 4294967296 = B (a + b + c + d) := by
  unfold B; rw [BitVec.toNat_add, BitVec.toNat_add, BitVec.toNat_add]; omega
/-- What the second loop holds. -/
structure L2 (w W : World) (g q p : Nat) (ws : List (BitVec 32)) (r : List Int) (n : Int) (cq : Array Value) (y : D8) : Prop where
  l1 : L1 w W g q ws r n cq
  dig : W.heap[p]? = some (.cells (y.ws.map V32).toArray 36 (0, 0))
  gp : g < p
  qp : q < p
theorem L2.drewN {w W : World} {g q p : Nat} {ws : List (BitVec 32)} {r : List Int} {n : Int} {cq : Array Value} {y : D8} (h : L2 w W g q p ws r n cq y) (m : Nat) : L2 w (W.drewN m) g q p ws r n cq y := ⟨h.l1.drewN m, h.dig, h.gp, h.qp⟩
theorem L2.below {w W W' : World} {g q p : Nat} {ws : List (BitVec 32)} {r : List Int} {n : Int} {cq : Array Value} {y y' : D8} (h : L2 w W g q p ws r n cq y) (hb : Below p W W') (hd : W'.heap[p]? = some (.cells (y'.ws.map V32).toArray 36 (0, 0))) : L2 w W' g q p ws r n cq y' :=
  ⟨⟨⟨hb.os.trans h.l1.gr.os, hb.tape.trans h.l1.gr.tape, hb.output.trans h.l1.gr.output, Nat.le_trans h.l1.gr.size hb.size, fun k hk hr => (hb.block k (by have := h.l1.new; have := h.qp; omega)).trans (h.l1.gr.block k hk hr)⟩, (hb.block g h.gp).trans h.l1.blk, (hb.block q h.qp).trans h.l1.row, h.l1.new⟩, hd, h.gp, h.qp⟩
theorem below_set {B p : Nat} {W W' : World} (h : Below B W W') (hp : B ≤ p) (j : Nat) (v : Value) : Below B W (W'.setCell ⟨p, j, none⟩ v) := Below.setCell h (p := ⟨p, j, none⟩) hp v
theorem dig_head (y : D8) (j : Nat) (v : Value) (h : [V32 y.a, V32 y.b, V32 y.c, V32 y.d, V32 y.e, V32 y.f, V32 y.g][j]? = some v) : (y.ws.map V32).toArray[j]? = some v := by
  match j with
  | 0 | 1 | 2 | 3 | 4 | 5 | 6 => exact h
  | j + 7 => simp at h
theorem dig_one (y : D8) : ∀ v ∈ [V32 y.a, V32 y.b, V32 y.c, V32 y.d, V32 y.e, V32 y.f, V32 y.g], v.oneCell' = true := by
  intro v hv
  simp only [List.mem_cons, List.not_mem_nil, or_false] at hv
  rcases hv with rfl | rfl | rfl | rfl | rfl | rfl | rfl <;> rfl
def addK (d y : D8) : Nat → List (BitVec 32)
  | 0 => d.ws
  | k + 1 => (addK d y k).set k (d.ws.getD k 0 + y.ws.getD k 0)
theorem addK_len (d y : D8) : ∀ k, (addK d y k).length = 8
  | 0 => rfl
  | k + 1 => by show ((addK d y k).set _ _).length = 8; rw [List.length_set, addK_len d y k]
theorem addK_get (d y : D8) : ∀ (k i : Nat), k ≤ i → (addK d y k).getD i 0 = d.ws.getD i 0
  | 0, i, _ => rfl
  | k + 1, i, h => by
    show ((addK d y k).set k _).getD i 0 = _
    rw [List.getD_eq_getElem?_getD, List.getElem?_set_ne (by omega), ← List.getD_eq_getElem?_getD, addK_get d y k i (by omega)]
theorem addK_end (d y : D8) : addK d y 8 = (d.add y).ws := rfl
theorem L2.putg {w W : World} {g q p : Nat} {ws : List (BitVec 32)} {r : List Int} {n : Int} {cq : Array Value} {y : D8} (h : L2 w W g q p ws r n cq y) (i : Nat) (x : BitVec 32) (hi : i < ws.length) : L2 w (W.setCell ⟨g, i, none⟩ (.int .u32 (B x))) g q p (ws.set i x) r n cq y :=
  ⟨⟨gr_set h.l1.gr (.inr rfl) _ _, blk_put h.l1.blk i _ (sc_set _ _ _ _ _ hi), blk_far h.l1.row (p := ⟨g, i, none⟩) h.l1.ne.symm _, h.l1.new⟩, blk_far h.dig (p := ⟨g, i, none⟩) (by show p ≠ g; have := h.gp; omega) _, h.gp, h.qp⟩
theorem size66 : (Tryd.prog.info? 66).map (·.size) = some 64 := by kernel_rfl
/-- The table, whole. -/
def TV : Array Value := (tab.map (Value.int .u32)).toArray
theorem TV_get (i : Nat) (h : i < 64) : TV[i]? = some (.int .u32 (B (K i))) := by
  have h1 : ∀ i : Fin 64, 0 ≤ roots.getD i.val 0 ∧ roots.getD i.val 0 < 4294967296 := by decide +kernel
  have h2 := h1 ⟨i, h⟩
  unfold K
  rw [B_ofInt _ h2.1 h2.2]
  unfold TV tab
  have hl : i < roots.length := h
  simp [hl, List.getD_eq_getElem?_getD]
theorem idx_TV (i : Nat) (h : i < 64) (w : World) : (Instr.index 66 (.agg TV) (.int .i64 i)).run Tryd.prog w = .ok (.int .u32 (B (K i))) w := by
  have e := TV_get i h
  have h0 : ¬ ((i : Int) < 0) := by omega
  have h1 : ¬ ((64 : Int) ≤ (i : Int)) := by omega
  have hi2 : ∃ x, Tryd.prog.info? 33 = some x ∧ x.size = 1 := by
    obtain ⟨x, hx, hs⟩ := Option.map_eq_some_iff.1 (show (Tryd.prog.info? 33).map (·.size) = some 1 by kernel_rfl)
    exact ⟨x, hx, hs⟩
  obtain ⟨x, hx, hs⟩ := hi2
  have h2 : 0 ≤ (i : Int) ∧ (i : Int) < 64 := by omega
  unfold Instr.index
  simp [run_underlying Tryd.underlying66, asIntOf, h2, go_sem, part, hx, hs, e, sizeOf, typeInfo]
  intro h3; omega
theorem tt_B (y : D8) (k x : BitVec 32) : (B y.h + B (be y.e) + bits BinOp.xor IntKind.u32 (bits BinOp.and IntKind.u32 (B y.e) (B y.f)) (bits BinOp.and IntKind.u32 (bits BinOp.xor IntKind.u32 IntKind.u32.max (B y.e)) (B y.g)) + B k + B x) % 4294967296 = B (tt y k x) := by
  rw [notB, andB, andB, xorB]
  unfold tt B
  rw [BitVec.toNat_add, BitVec.toNat_add, BitVec.toNat_add, BitVec.toNat_add]; omega
theorem uu_B (y : D8) : (B (ba y.a) + bits BinOp.xor IntKind.u32 (bits BinOp.xor IntKind.u32 (bits BinOp.and IntKind.u32 (B y.a) (B y.b)) (bits BinOp.and IntKind.u32 (B y.a) (B y.c))) (bits BinOp.and IntKind.u32 (B y.b) (B y.c))) % 4294967296 = B (uu y) := by
  rw [andB, andB, andB, xorB, xorB]
  unfold uu B
  rw [BitVec.toNat_add]; omega
theorem addB2 (a b : BitVec 32) : (B a + B b) % 4294967296 = B (a + b) := by
  unfold B; rw [BitVec.toNat_add]; omega
theorem size34 : (Tryd.prog.info? 34).map (·.size) = some 1 := by kernel_rfl
theorem sch_16 (r : List Int) (i : Nat) (h : i < 16) : (wc (sch r i)).setIfInBounds i (.int .u32 (B (word4 r i))) = wc (sch r (i + 1)) := by
  have e := wc_set (sch r i) (word4 r i) (by rw [sch_len]; omega)
  rw [sch_len] at e
  rw [e, sch_succ]
  unfold nxt
  rw [sch_len, if_pos h]
set_option maxHeartbeats 40000000 in
set_option maxRecDepth 100000 in
theorem block_calls (g : Nat) (d : D8) (r : List Int) (n : Int) (w : World) (hG : Glob w) (hg : w.heap[g]? = some (.cells (sc d.ws r n) 40 (0, 0)))
    (hrl : r.length = 64) (hrb : ∀ x ∈ r, 0 ≤ x ∧ x < 256) (hg0 : g ≠ 0) :
    Calls Tryd.prog 22 #[.pointer (some ⟨g, 0, none⟩), .slice (some ⟨g, 8, none⟩) 64 64] w fun e w' => e = .returned (.tuple #[]) ∧ w'.heap[g]? = some (.cells (sc (F d r).ws r n) 40 (0, 0)) ∧ w.grownBy w' (some g) := by
  have HG := Aside0.mk hG
  have HBG := Aside0.mk hg
  have HRL := Aside0.mk hrl
  have HRB := Aside0.mk hrb
  have HG0 := Aside0.mk hg0
  clear hG hg hrl hrb hg0
  go_enter Tryd.func22, Tryd.ntmps22
  go_wp2_with (fail)
  obtain ⟨q, hq⟩ : ∃ q, q = w.heap.size := ⟨_, rfl⟩
  generalize hW : w.alloc _ = W1
  rw [← hq]
  have HL := Aside0.mk (show L1 w W1 g q d.ws r n (wc []) from ⟨by rw [← hW]; exact gr_alloc ⟨rfl, rfl, rfl, Nat.le_refl _, fun _ _ _ => rfl⟩ _, by rw [← hW]; exact blk_alloc HBG.out _, by rw [← hW, hq]; exact blk_new _ _, by omega⟩)
  clear hW
  have HQ := Aside0.mk hq
  clear hq
  go_loopg [16] 64 (fun gm v16 w' => ∃ i : Nat, v16 = .int .i64 i ∧ i + gm = 64 ∧ Aside0 (L1 w w' g q d.ws r n (wc (sch r i))))
  case atStart => exact ⟨0, rfl, rfl, HL⟩
  case round =>
    obtain ⟨i, rfl, hi, HJ⟩ := hrel
    clear HL
    by_cases hlt : i < 64
    · -- a round
      -- R1 BEGIN
      have d1 : decide ((i : Int) < 64) = true := by simp only [decide_eq_true_eq]; omega
      by_cases h16 : i < 16
      · have d2 : decide ((i : Int) < 16) = true := by simp only [decide_eq_true_eq]; omega
        obtain ⟨G, hGk⟩ : ∃ G, G = gk := ⟨_, rfl⟩
        go_wp2_with (fail)
        simp only [show 4 * i + 4 - 4 * i = 4 by omega]
        go_loopg [29] 4 (fun gm v29 w' => ∃ j : Nat, v29 = .int .i64 j ∧ j + gm = 4 ∧ Aside0 (L1 w w' g q d.ws r n ((wc (sch r i)).setIfInBounds i (.int .u32 (B (((r.drop (4 * i)).take j).foldl push 0#32))))))
        case atStart => exact ⟨0, rfl, rfl, ⟨by have h_ := wc_in (sch r i) (by rw [sch_len]; omega); rw [sch_len] at h_; show L1 _ _ _ _ _ _ _ ((wc (sch r i)).setIfInBounds i (.int .u32 (B 0#32))); rw [← h_]; exact HJ.out⟩⟩
        case round =>
          obtain ⟨j, rfl, hj, HI⟩ := hrel
          clear HJ
          by_cases hj4 : j < 4
          · have d3 : decide ((j : Int) < 4) = true := by simp only [decide_eq_true_eq]; omega
            have hj0 : (j : Int) < 4 := by omega
            obtain ⟨x, hx⟩ : ∃ x, x = ((r.drop (4 * i)).take j).foldl push 0#32 := ⟨_, rfl⟩
            obtain ⟨c, hc⟩ : ∃ c, c = r.getD (4 * i + j) 0 := ⟨_, rfl⟩
            have hrl := HRL.out
            have hcr : 0 ≤ c ∧ c < 256 := by
              rw [hc, List.getD_eq_getElem?_getD, List.getElem?_eq_getElem (by omega)]
              exact HRB.out _ (List.getElem_mem _)
            have c1 : wr.cell? ⟨g, 8 + 4 * i + j, none⟩ = some (.int .u8 c) := by
              rw [show 8 + 4 * i + j = 8 + (4 * i + j) by omega, blk_cell HI.out.blk, sc_r _ _ _ _ rfl (by omega), hc]
            have c2 : wr.cell? ⟨q, i, none⟩ = some (.int .u32 (B x)) := by
              rw [blk_cell HI.out.row, hx]
              rw [Array.getElem?_setIfInBounds_self_of_lt]
              unfold wc; simp [sch_len]; omega
            have f2 := blk_frozen HI.out.row i
            have HX := Aside0.mk hx
            have HC := Aside0.mk hc
            have HCR := Aside0.mk hcr
            clear hx hc hcr hrl
            go_wp2_with (fail)
            go_roundg (gk - 1)
            case measure => omega
            case rel =>
              refine ⟨j + 1, by go_num, by omega, ⟨?_⟩⟩
              have h_ := HI.out.put i (.int .u32 (bits .or .u32 (B x * 256 % 4294967296) (c % 4294967296)))
              rw [push_B x c HCR.out.1 HCR.out.2, Array.setIfInBounds_setIfInBounds, HX.out, HC.out, ← word4_step r i j hj4 (by have := HRL.out; omega)] at h_
              rw [push_B x c HCR.out.1 HCR.out.2, HX.out, HC.out]
              rw [word4_step r i j hj4 (by have := HRL.out; omega)] at h_ ⊢
              exact h_
          · obtain rfl : j = 4 := by omega
            have hw : Aside0 (L1 w wr g q d.ws r n (wc (sch r (i + 1)))) := ⟨by rw [← sch_16 r i h16]; exact HI.out⟩
            clear HI
            go_wp2_with (fail)
            go_roundg (G - 1)
            case measure => omega
            case rel => exact ⟨i + 1, by go_num, by omega, hw⟩
      · have d2 : decide ((i : Int) < 16) = false := by simp only [decide_eq_false_iff_not]; omega
        obtain ⟨G, hGk⟩ : ∃ G, G = gk := ⟨_, rfl⟩
        obtain ⟨l, hl⟩ : ∃ l, l = sch r i := ⟨_, rfl⟩
        have hll : l.length = i := by rw [hl, sch_len]
        have hn : nxt r l = l.getD (i - 16) 0 + ss (l.getD (i - 15) 0) + l.getD (i - 7) 0 + gs (l.getD (i - 2) 0) := by
          unfold nxt; rw [hll, if_neg h16]
        obtain ⟨x1, hx1⟩ : ∃ x, x = l.getD (i - 16) 0 := ⟨_, rfl⟩
        obtain ⟨x2, hx2⟩ : ∃ x, x = l.getD (i - 15) 0 := ⟨_, rfl⟩
        obtain ⟨x3, hx3⟩ : ∃ x, x = l.getD (i - 7) 0 := ⟨_, rfl⟩
        obtain ⟨x4, hx4⟩ : ∃ x, x = l.getD (i - 2) 0 := ⟨_, rfl⟩
        rw [← hl] at HJ
        obtain ⟨p1, hp1⟩ : ∃ p, p = i - 16 := ⟨_, rfl⟩
        have c1 : wr.cell? ⟨q, p1, none⟩ = some (.int .u32 (B x1)) := by rw [hp1, blk_cell HJ.out.row, wc_get _ _ (by omega), hx1]
        have w1 : IntKind.i64.wrap ((i : Int) - 16) = (p1 : Int) := by rw [IntKind.wrap_i64]; omega
        have b1 : (p1 : Int) < 64 := by omega
        have z1 : (0 : Int) ≤ (p1 : Int) := by omega
        obtain ⟨p2, hp2⟩ : ∃ p, p = i - 15 := ⟨_, rfl⟩
        have c2 : wr.cell? ⟨q, p2, none⟩ = some (.int .u32 (B x2)) := by rw [hp2, blk_cell HJ.out.row, wc_get _ _ (by omega), hx2]
        have w2 : IntKind.i64.wrap ((i : Int) - 15) = (p2 : Int) := by rw [IntKind.wrap_i64]; omega
        have b2 : (p2 : Int) < 64 := by omega
        have z2 : (0 : Int) ≤ (p2 : Int) := by omega
        obtain ⟨p3, hp3⟩ : ∃ p, p = i - 7 := ⟨_, rfl⟩
        have c3 : wr.cell? ⟨q, p3, none⟩ = some (.int .u32 (B x3)) := by rw [hp3, blk_cell HJ.out.row, wc_get _ _ (by omega), hx3]
        have w3 : IntKind.i64.wrap ((i : Int) - 7) = (p3 : Int) := by rw [IntKind.wrap_i64]; omega
        have b3 : (p3 : Int) < 64 := by omega
        have z3 : (0 : Int) ≤ (p3 : Int) := by omega
        obtain ⟨p4, hp4⟩ : ∃ p, p = i - 2 := ⟨_, rfl⟩
        have c4 : wr.cell? ⟨q, p4, none⟩ = some (.int .u32 (B x4)) := by rw [hp4, blk_cell HJ.out.row, wc_get _ _ (by omega), hx4]
        have w4 : IntKind.i64.wrap ((i : Int) - 2) = (p4 : Int) := by rw [IntKind.wrap_i64]; omega
        have b4 : (p4 : Int) < 64 := by omega
        have z4 : (0 : Int) ≤ (p4 : Int) := by omega
        have f1 := blk_frozen HJ.out.row i
        have c5 : wr.cell? ⟨q, i, none⟩ = some (.int .u32 0) := by
          rw [blk_cell HJ.out.row, ← hll, wc_zero _ (by omega)]
        have i16 : (0 : Int) ≤ (i : Int) := by omega
        have i64 : (i : Int) < 64 := by omega
        rw [← hx1, ← hx2, ← hx3, ← hx4] at hn
        have HN := Aside0.mk hn
        have HL := Aside0.mk hl
        have HLL := Aside0.mk hll
        clear hn hl hll hx1 hx2 hx3 hx4 hp1 hp2 hp3 hp4
        go_wp2_with (fail)
        refine wp_region_still_tail 23 (by kernel_rfl) (by kernel_rfl) ?_
        simp only [List.take_succ_cons, List.take_zero, List.drop_succ_cons, List.drop_zero]
        repeat still_step
        refine wpStill_step (fun K hK => ?_)
        go_simp
        refine ⟨_, (ss_calls x2 _).mono (fun _ _ h => ⟨h.1, h.2.symm⟩), hK _ ?_⟩
        clear hK K
        repeat still_step
        refine wpStill_step (fun K hK => ?_)
        go_simp
        refine ⟨_, (gs_calls x4 _).mono (fun _ _ h => ⟨h.1, h.2.symm⟩), hK _ ?_⟩
        clear hK K
        repeat still_step
        refine wpStill_nil ?_
        change wpList _ _ _ _ _ wr.drew
        have HJ2 := Aside0.mk (show L1 w wr.drew g q d.ws r n (wc l) from HJ.out.drewN 1)
        have f2 : wr.drew.frozen? ⟨q, i, none⟩ = false := f1
        have c6 : wr.drew.cell? ⟨q, i, none⟩ = some (.int .u32 0) := c5
        generalize wr.drew = W2 at HJ2 f2 c6 ⊢
        clear c1 c2 c3 c4 c5 f1 HJ
        go_wp2_with (fail)
        go_roundg (G - 1)
        case measure => omega
        case rel =>
          refine ⟨i + 1, by go_num, by omega, ⟨?_⟩⟩
          rw [addB4, ← HN.out, sch_succ, ← HL.out, ← wc_set l _ (by have := HLL.out; omega), HLL.out]
          exact HJ2.out.put _ _
      -- R1 END
    · obtain rfl : i = 64 := by omega
      have d1 : decide (((64 : Nat) : Int) < 64) = false := by decide
      obtain ⟨ws, hws⟩ : ∃ ws, ws = sch r 64 := ⟨_, rfl⟩
      rw [← hws] at HJ
      have k0 : wr.cell? ⟨g, 0, none⟩ = some (.int .u32 (B d.a)) := by rw [blk_cell HJ.out.blk, sc_d _ _ _ _ (by simp [D8.ws])]; rfl
      have k1 : wr.cell? ⟨g, 1, none⟩ = some (.int .u32 (B d.b)) := by rw [blk_cell HJ.out.blk, sc_d _ _ _ _ (by simp [D8.ws])]; rfl
      have k2 : wr.cell? ⟨g, 2, none⟩ = some (.int .u32 (B d.c)) := by rw [blk_cell HJ.out.blk, sc_d _ _ _ _ (by simp [D8.ws])]; rfl
      have k3 : wr.cell? ⟨g, 3, none⟩ = some (.int .u32 (B d.d)) := by rw [blk_cell HJ.out.blk, sc_d _ _ _ _ (by simp [D8.ws])]; rfl
      have k4 : wr.cell? ⟨g, 4, none⟩ = some (.int .u32 (B d.e)) := by rw [blk_cell HJ.out.blk, sc_d _ _ _ _ (by simp [D8.ws])]; rfl
      have k5 : wr.cell? ⟨g, 5, none⟩ = some (.int .u32 (B d.f)) := by rw [blk_cell HJ.out.blk, sc_d _ _ _ _ (by simp [D8.ws])]; rfl
      have k6 : wr.cell? ⟨g, 6, none⟩ = some (.int .u32 (B d.g)) := by rw [blk_cell HJ.out.blk, sc_d _ _ _ _ (by simp [D8.ws])]; rfl
      have k7 : wr.cell? ⟨g, 7, none⟩ = some (.int .u32 (B d.h)) := by rw [blk_cell HJ.out.blk, sc_d _ _ _ _ (by simp [D8.ws])]; rfl
      have hix := fun (w : World) (j : Nat) (h : j < 64) => idx_TV j h w
      obtain ⟨TT, hTT⟩ : ∃ TT, TT = TV := ⟨_, rfl⟩
      have hts : TT.size = 64 := by rw [hTT]; rfl
      have hgl : ∀ j v, TT[j]? = some v → w.cell? ⟨0, j, none⟩ = some v := by
        intro j v hj
        rw [hTT] at hj
        have hjl : j < 64 := (Array.getElem?_eq_some_iff.1 hj).1
        rw [HG.out j hjl, ← hj]
        unfold TV
        have hl : j < tab.length := hjl
        simp [hl, List.getD_eq_getElem?_getD]
      rw [← hTT] at hix
      have HIX := Aside0.mk hix
      have hb0 : wr.heap[0]? = w.heap[0]? := HJ.out.gr.block 0 HG.out.pos (by have := HG0.out; simp; omega)
      have hgw : ∀ (o : Obj) j v, TT[j]? = some v → (wr.alloc o).cell? ⟨0, j, none⟩ = some v := fun o j v hj => by
        have h1_ : wr.cell? ⟨0, j, none⟩ = some v := (World.cell?_of_block (a := ⟨0, j, none⟩) hb0).trans (hgl j v hj)
        exact pw_cell_below (below_alloc (Below.refl _ _) o) h1_
      have HGL := Aside0.mk hgw
      have HTS := Aside0.mk hts
      clear hix hTT hts hgl hb0 hgw
      go_wp2_with ((with_reducible refine gate_dst (N := 70) rfl ?_); refine ld_cells ?hgd_70 66 (.global 0) ?ho_70 0 ?hx_70 TT ?d_70 ?hc_70 ?hu_70 ?hd_70 ?hi_70 ?_; (case hgd_70 => rfl); (case ho_70 => rfl); (case hx_70 => rfl); (case hc_70 => exact HGL.out _); (case hu_70 => exact Tryd.underlying66); (case hd_70 => rfl); (case hi_70 => rw [HTS.out]; exact size66))
      obtain ⟨p, hp⟩ : ∃ p, p = wr.heap.size := ⟨_, rfl⟩
      obtain ⟨W3, hW3⟩ : ∃ W3, W3 = wr.alloc (Obj.cells #[Value.int IntKind.u32 (B d.a), Value.int IntKind.u32 (B d.b), Value.int IntKind.u32 (B d.c), Value.int IntKind.u32 (B d.d), Value.int IntKind.u32 (B d.e), Value.int IntKind.u32 (B d.f), Value.int IntKind.u32 (B d.g), Value.int IntKind.u32 (B d.h)] 36) := ⟨_, rfl⟩
      rw [← hW3, ← hp]
      have H2 := Aside0.mk (show L2 w W3 g q p d.ws r n (wc ws) (rnds d ws 0) from by
        refine ⟨⟨by rw [hW3]; exact gr_alloc HJ.out.gr _, by rw [hW3]; exact blk_alloc HJ.out.blk _, by rw [hW3]; exact blk_alloc HJ.out.row _, HJ.out.new⟩, by rw [hW3, hp]; exact blk_new _ _, by rw [hp]; exact blk_lt HJ.out.blk, by rw [hp]; exact blk_lt HJ.out.row⟩)
      have HWS := Aside0.mk (show ws.length = 64 by rw [hws, sch_len])
      have HWQ := Aside0.mk hws
      clear hW3 hp hws HJ HGL k0 k1 k2 k3 k4 k5 k6 k7 hi
      go_loopg [71] 64 (fun gm v71 w' => ∃ i : Nat, v71 = .int .i64 i ∧ i + gm = 64 ∧ Aside0 (L2 w w' g q p d.ws r n (wc ws) (rnds d ws i)))
      case atStart => exact ⟨0, rfl, rfl, H2⟩
      case round =>
        obtain ⟨i, rfl, hi, HJ⟩ := hrel
        clear H2
        by_cases hlt : i < 64
        · -- a round
          -- R2 BEGIN
          have d1 : decide ((i : Int) < 64) = true := by simp only [decide_eq_true_eq]; omega
          have hix := fun (W : World) => HIX.out W i hlt
          have hk0 : (0 : Int) ≤ (i : Int) := by omega
          have hk1 : (i : Int) < 64 := by omega
          obtain ⟨k, hk⟩ : ∃ k, k = K i := ⟨_, rfl⟩
          obtain ⟨x, hx⟩ : ∃ x, x = ws.getD i 0 := ⟨_, rfl⟩
          rw [← hk] at hix
          have hwx : wr.cell? ⟨q, i, none⟩ = some (.int .u32 (B x)) := by rw [blk_cell HJ.out.l1.row, wc_get _ _ (by have := HWS.out; omega), hx]
          have hrn : Aside0 (rnds d ws (i + 1) = rnd (rnds d ws i) k x) := ⟨by rw [rnds_succ, ← hk, ← hx]⟩
          generalize rnds d ws i = y at HJ hrn
          have hpd := HJ.out.dig
          have y0 : wr.cell? ⟨p, 0, none⟩ = some (.int .u32 (B y.a)) := by rw [blk_cell hpd]; rfl
          have y1 : wr.cell? ⟨p, 1, none⟩ = some (.int .u32 (B y.b)) := by rw [blk_cell hpd]; rfl
          have y2 : wr.cell? ⟨p, 2, none⟩ = some (.int .u32 (B y.c)) := by rw [blk_cell hpd]; rfl
          have y4 : wr.cell? ⟨p, 4, none⟩ = some (.int .u32 (B y.e)) := by rw [blk_cell hpd]; rfl
          have y5 : wr.cell? ⟨p, 5, none⟩ = some (.int .u32 (B y.f)) := by rw [blk_cell hpd]; rfl
          have y6 : wr.cell? ⟨p, 6, none⟩ = some (.int .u32 (B y.g)) := by rw [blk_cell hpd]; rfl
          have y7 : wr.cell? ⟨p, 7, none⟩ = some (.int .u32 (B y.h)) := by rw [blk_cell hpd]; rfl
          clear hpd hk hx
          go_wp2_with (fail)
          go_quiet (fail)
          go_wp2_with (fail)
          go_quiet ((go_at_call 27; refine (be_calls y.e _).mono ?_; rintro e w1 ⟨rfl, rfl⟩; exact ⟨rfl, _, rfl⟩))
          go_wp2_with (fail)
          go_quiet ((go_at_call 27; refine (ba_calls y.a _).mono ?_; rintro e w1 ⟨rfl, rfl⟩; exact ⟨rfl, _, rfl⟩))
          go_wp2_with (fail)
          simp only [tt_B, uu_B]
          rw [World.drewN_drewN]
          generalize hN : wr.drewN _ = Wc
          have HJc := Aside0.mk (show L2 w Wc g q p d.ws r n (wc ws) y by rw [← hN]; exact HJ.out.drewN _)
          clear hN y0 y1 y2 y4 y5 y6 y7 hwx HJ hix
          go_region_law (refine step_copy_splice rfl (.tmp 119) (.tmp 120) 67 67 rfl 34 Tryd.underlying67 size34 (some ⟨p, 1, none⟩) (some ⟨p, 0, none⟩) 7 7 7 8 rfl rfl p 1 (y.ws.map V32) 36 HJc.out.dig [V32 y.a, V32 y.b, V32 y.c, V32 y.d, V32 y.e, V32 y.f, V32 y.g] rfl (fun _ => ⟨rfl, ⟨p, 0, none⟩, rfl, fun j v hj => by rw [add_plain]; exact (blk_cell HJc.out.dig j).trans (dig_head y j v hj)⟩) (by simp [D8.ws]) (dig_one y) p Wc (below_drew (Below.refl _ _)) (Nat.le_refl _) ?_; intro w4 hg4 hb4)
          have hd4 : w4.heap[p]? = some (.cells #[V32 y.a, V32 y.a, V32 y.b, V32 y.c, V32 y.d, V32 y.e, V32 y.f, V32 y.g] 36 (0, 0)) := hg4
          have HD4 := Aside0.mk hd4
          have HB4 := Aside0.mk hb4
          have z4 : w4.cell? ⟨p, 4, none⟩ = some (.int .u32 (B y.d)) := by rw [blk_cell hd4]; rfl
          have z0 : w4.cell? ⟨p, 0, none⟩ = some (.int .u32 (B y.a)) := by rw [blk_cell hd4]; rfl
          have g4 := blk_frozen hd4 4
          have g0 := blk_frozen hd4 0
          clear hg4 hb4 hd4
          go_wp2_with (fail)
          go_roundg (gk - 1)
          case measure => omega
          case rel =>
            refine ⟨i + 1, by go_num, by omega, ⟨?_⟩⟩
            rw [hrn.out]
            simp only [addB2]
            exact HJc.out.below (below_set (below_set HB4.out (Nat.le_refl _) _ _) (Nat.le_refl _) _ _) (blk_put (blk_put HD4.out 4 _ rfl) 0 _ rfl)
          -- R2 END
        · obtain rfl : i = 64 := by omega
          have d1 : decide (((64 : Nat) : Int) < 64) = false := by decide
          obtain ⟨y, hy⟩ : ∃ y, y = rnds d ws 64 := ⟨_, rfl⟩
          rw [← hy] at HJ
          have hF : F d r = d.add y := by unfold F; rw [hy, HWQ.out]
          have HF := Aside0.mk hF
          clear hF hy hi
          go_wp2_with (fail)
          go_loopg [132] 8 (fun gm v132 w' => ∃ i : Nat, v132 = .int .i64 i ∧ i + gm = 8 ∧ Aside0 (L2 w w' g q p (addK d y i) r n (wc ws) y))
          case atStart => exact ⟨0, rfl, rfl, HJ⟩
          case round =>
            obtain ⟨i, rfl, hi, HI⟩ := hrel
            clear HJ
            by_cases hlt : i < 8
            · have d2 : decide ((i : Int) < 8) = true := by simp only [decide_eq_true_eq]; omega
              have hk0 : (0 : Int) ≤ (i : Int) := by omega
              have hk1 : (i : Int) < 8 := by omega
              obtain ⟨u, hu⟩ : ∃ u, u = d.ws.getD i 0 := ⟨_, rfl⟩
              obtain ⟨v, hv⟩ : ∃ v, v = y.ws.getD i 0 := ⟨_, rfl⟩
              have hl8 := addK_len d y i
              have c1 : wr.cell? ⟨g, i, none⟩ = some (.int .u32 (B u)) := by rw [blk_cell HI.out.l1.blk, sc_d _ _ _ _ (by omega), addK_get d y i i (Nat.le_refl _), hu]
              have c2 : wr.cell? ⟨p, i, none⟩ = some (.int .u32 (B v)) := by
                rw [blk_cell HI.out.dig, hv]
                have : i < y.ws.length := by simp [D8.ws]; omega
                simp [this, List.getD_eq_getElem?_getD, V32]
              have f1 := blk_frozen HI.out.l1.blk i
              have HU := Aside0.mk (show addK d y (i + 1) = (addK d y i).set i (u + v) by rw [hu, hv]; rfl)
              have HL8 := Aside0.mk hl8
              clear hu hv hl8
              go_wp2_with (fail)
              go_region
              go_wp2_with (fail)
              go_roundg (gk - 1)
              case measure => omega
              case rel =>
                refine ⟨i + 1, by go_num, by omega, ⟨?_⟩⟩
                rw [HU.out]
                simp only [addB2]
                exact (HI.out.putg i (u + v) (by have := HL8.out; omega)).drewN 1
            · obtain rfl : i = 8 := by omega
              have d2 : decide (((8 : Nat) : Int) < 8) = false := by decide
              go_wp2_with (fail)
              go_end0
              exact ⟨rfl, by rw [HF.out]; exact HI.out.l1.blk, HI.out.l1.gr⟩
end Go.Proofs.YtanafhccflmdkaaDoor.Ext
