/- frame.Split: its contract by hand. -/
import Derived.Test.YtojagnoobaleaaaDoorFrI
namespace Go.Proofs.YtojagnoobaleaaaDoor.Ext
open Go.RowKit Go.Shelf Go.Proofs.YtojagnoobaleaaaDoorW.PrintWords Go.Proofs.YtojagnoobaleaaaDoorW.PrintLast Go.Proofs.YtojagnoobaleaaaDoorW.PrintMore
set_option linter.unusedVariables false
set_option linter.unusedSimpArgs false
attribute [local go_sem] Oper.semAt_some max2_int min2_int max_two min_two
abbrev KdB : Kd (List Int) := Kd.slice 5 (Kd.int .u8)
theorem Kpf.trans {n₀ Bn : Nat} {X Y Z : World} (h : Kpf n₀ Bn X Y) (k : Kpf n₀ Bn Y Z) : Kpf n₀ Bn X Z :=
  ⟨h.below.trans k.below, fun g cs hh => k.cells g cs (h.cells g cs hh), fun hb => (k.box (Nat.lt_of_lt_of_le hb h.below.size)).trans (h.box hb)⟩
theorem Kpf.put {n₀ Bn : Nat} {w : World} (hn : n₀ ≤ w.heap.size) (hb : Bn < w.heap.size) (W : World) (l : Nat) (o o' : Obj) (hl : w.heap.size ≤ l) (h : W.heap[l]? = some o) (hc : o.isCells = false) (hw : o.isWalk = false) : Kpf n₀ Bn W (W.putObj l o') :=
  ⟨belowK_b hn W l o o' hl h hc hw, fun g cs hg => ((grownBy_putObj' W l o').block g (blk_lt hg) (fun e => by cases e; rw [h] at hg; cases hg; cases hc)).trans hg, fun hB => (grownBy_putObj' W l o').block Bn hB (fun e => by cases e; omega)⟩
theorem Kpf.of_below {n₀ Bn : Nat} {W W' : World} (h : Below W.heap.size W W') (hn : n₀ ≤ W.heap.size) : Kpf n₀ Bn W W' := ⟨h.mono hn, fun g cs hg => blk_below hg h, fun hb => h.block _ hb⟩
def allOk {w0 : World} (pre : List (Found w0)) : Prop := ∀ x ∈ pre, x.1.2.2.2 = 0
def bods {w0 : World} (pre : List (Found w0)) : List (List Int) := pre.map fun x => x.1.2.1
/-- What the loop holds. -/
structure SpI (w W0 : World) (W : World) (bs : List (List Int)) (at_ er : Int) : Prop where
  row : ∃ v, Boxed W w.heap.size 24 v ∧ Kd.S KdB 22 W W0.heap.size (fun _ => True) v bs
  end_ : Boxed W (w.heap.size + 1) 3 (.int .i64 at_)
  err : Boxed W (w.heap.size + 1 + 1) 25 (.int .i64 er)
  below : Below w.heap.size w W
  size : W0.heap.size ≤ W.heap.size
theorem SpI.grown {w W0 W W' : World} {bs : List (List Int)} {at_ er : Int} (h : SpI w W0 W bs at_ er) {row : Option Nat} (hg : W.grownBy W' row) (hr : ∀ r, row = some r → w.heap.size ≤ r ∧ ∃ o : Obj, W.heap[r]? = some o ∧ o.isCells = false) : SpI w W0 W' bs at_ er := by
  obtain ⟨⟨v, h1, h2⟩, h3, h4, h5, h6⟩ := h
  have hne : ∀ {B : Nat} {cs : Array Value} {t : Nat}, W.heap[B]? = some (.cells cs t (0, 0)) → some B ≠ row := fun hB e => by
    obtain ⟨_, o, ho, hc⟩ := hr _ e.symm
    rw [hB] at ho; cases ho; cases hc
  refine ⟨⟨v, h1.kept hg (hne h1), Kd.S_mono (Kd.S_grown (Kd.S_bound h2) hg (fun k hk => ?_)) (fun _ _ => trivial)⟩, h3.kept hg (hne h3), h4.kept hg (hne h4), h5.grown hg h5.size (fun k e => (hr k e).1), Nat.le_trans h6 hg.size⟩
  obtain ⟨_, _, _, q, _, cs, hcs⟩ := hk
  exact hne hcs
theorem SpI.put7 {w W0 W : World} {bs : List (List Int)} {a e : Int} (h : SpI w W0 W bs a e) (x : Int) : SpI w W0 (W.setCell ⟨w.heap.size + 1, 0, none⟩ (.int .i64 x)) bs x e := by
  obtain ⟨⟨v, h1, h2⟩, h3, h4, h5, h6⟩ := h
  exact ⟨⟨v, h1.other (by omega) _, Kd.S_set h2 h3 (by decide) _ _⟩, h3.set _, h4.other (by omega) _, below_set h5 _ _ _ (by omega), by simpa using h6⟩
theorem SpI.put8 {w W0 W : World} {bs : List (List Int)} {a e : Int} (h : SpI w W0 W bs a e) (x : Int) : SpI w W0 (W.setCell ⟨w.heap.size + 1 + 1, 0, none⟩ (.int .i64 x)) bs a x := by
  obtain ⟨⟨v, h1, h2⟩, h3, h4, h5, h6⟩ := h
  exact ⟨⟨v, h1.other (by omega) _, Kd.S_set h2 h4 (by decide) _ _⟩, h3.other (by omega) _, h4.set _, below_set h5 _ _ _ (by omega), by simpa using h6⟩
theorem SpI.drew {w W0 W : World} {bs : List (List Int)} {a e : Int} (h : SpI w W0 W bs a e) : SpI w W0 W.drew bs a e := h.grown (grown_below (pw_below_drewN (Below.refl _ _) 1)) (fun r e => by cases e)
theorem wpIn_of_wp {P : Program} {o : Oper} {a : Act} {w : World} {K : Act → World → Prop} {Q : Exit → Act → World → Prop} {l n : Nat} (hnd : ∀ c, o.op ≠ .defer c) (h : Oper.wp P o a w K Q) : Oper.wpIn (Fence.wide.inRound l) n P o a w K Q := by
  refine ⟨fun f _ => trivial, ?_⟩
  rw [Fence.inRound_round, Oper.semAt_some _ _ _ hnd]
  unfold Oper.wp at h
  generalize (execOp a.eval o).run P w = r at h ⊢
  cases r with
  | ok x w' =>
    cases x <;> first
      | exact h
      | exact h.elim
      | exact ⟨(fun h_ => by cases h_), callsIn_wide.2 h⟩
      | exact ⟨(fun h_ => by cases h_), fun c cs _ => by obtain ⟨v, w', r, s⟩ := h c cs; exact ⟨v, w', r, stepsIn_wide.2 s⟩⟩
  | halt x w' =>
    cases x <;> exact h
theorem info22 : (Tryd.prog.info? 22).map (fun i => (i.zero, i.size, i.bytes)) = some (some (.slice none 0 0), 1, 24) := by kernel_rfl
/-- One row of bytes more, in a round. -/
theorem app_step {ops : Array Oper} {o : Oper} {a : Act} {K : Act → World → Prop} {Q : Exit → Act → World → Prop} {l n base : Nat} {W w2 : World} {v v2 : Value} {xs : List (List Int)} {p : List Int} (hw : Region.wanted o (yielded ops a.tmps) = true) (s x : Operand)
    (ho : o.op = .call { callee := .builtin .append, args := #[s, x], argTypes := #[24, 24] }) (hs : a.eval s = v) (hx : a.eval x = .slice (some ⟨w2.heap.size, 0, none⟩) 1 1)
    (hb2 : Below W.drew.heap.size W.drew w2) (hp : Kd.R (Kd.int .u8) 5 w2 W.drew.heap.size (fun _ => True) v2 p) (HO : Kd.S KdB 22 W base (fun _ => True) v xs) (hbase : base ≤ W.heap.size) (hl : (xs.length + 1) * 24 ≤ 140737488355328)
    (h : ∀ v1 w1, Kd.S KdB 22 w1 base (fun _ => True) v1 (xs ++ [p]) → w2.grownBy w1 v.ownBlock → K (a.put o.dst v1) w1) :
    if Region.wanted o (yielded ops a.tmps) = true then Oper.wpIn (Fence.wide.inRound l) n Tryd.prog o a (w2.alloc (.cells #[v2] 22)) K Q else (∀ f, o.about Tryd.prog (w2.alloc (.cells #[v2] 22)) a.eval = some f → (Fence.wide.inRound l).fn f) ∧ K (a.put o.dst undef) (w2.alloc (.cells #[v2] 22)) := by
  rw [if_pos hw]
  refine wpIn_of_wp (fun c h_ => by rw [ho] at h_; cases h_) ?_
  have hb2' : Below W.heap.size W w2 := (pw_below_drewN (Below.refl W.heap.size W) 1).trans hb2
  have hO2 := Kd.S_mono (Kd.S_old HO hb2') (fun k hk => (⟨hk.1, fun h_ => by have := hk.2; omega⟩ : True ∧ ¬ W.heap.size ≤ k))
  have hlt : ∀ k, v.ownBlock = some k → k < W.heap.size := fun k hk => Kd.S_lt HO k hk
  have st := Kd.S_append_step (P := Tryd.prog) (ops := ops) (o := o) (a := a) (Kc := K) (Q := Q) KdB (w0 := W) (W := w2) base hw s x 24 22 (.slice none 0 0) 24 ho Tryd.underlying24 info22 rfl (by decide) (by decide) v xs p [v2] (fun _ => True) (fun k => W.heap.size ≤ k) hs hx
    ⟨v2, rfl, Kd.R_lower (Kd.R_mono (Kd.R_bound hp) (fun k hk => hk.2.1)) hbase⟩ (fun k hk => ⟨trivial, fun e => by have := hlt k e.symm; omega⟩) (fun _ _ => trivial) hO2 (hb2'.mono hbase) (Nat.le_trans hbase hb2'.size) hl (fun v1 w1 h1 _ h3 _ => h v1 w1 h1 h3)
  rw [if_pos hw] at st
  exact st
theorem SpI.appended {w W0 W w2 w1 : World} {bs : List (List Int)} {b : List Int} {N : Int} {v6 v1 : Value} (x6 : Boxed W w.heap.size 24 v6) (x7 : Boxed W (w.heap.size + 1) 3 (.int .i64 N)) (x8 : Boxed W (w.heap.size + 1 + 1) 25 (.int .i64 0)) (hB : Below w.heap.size w W) (hZ : W0.heap.size ≤ W.heap.size)
    (hR : Kd.S KdB 22 W W0.heap.size (fun _ => True) v6 bs) (hb2 : Below W.drew.heap.size W.drew w2) (hg : w2.grownBy w1 v6.ownBlock) (h1 : Kd.S KdB 22 w1 W0.heap.size (fun _ => True) v1 (bs ++ [b])) (hW0 : W0.heap.size = w.heap.size + 4 := by assumption) :
    Boxed w1 w.heap.size 24 v6 ∧ KeepsFrom W0.heap.size W (w1.setCell ⟨w.heap.size, 0, none⟩ v1) ∧ Kpf w.heap.size (w.heap.size + 1 + 1 + 1) W (w1.setCell ⟨w.heap.size, 0, none⟩ v1) ∧ SpI w W0 (w1.setCell ⟨w.heap.size, 0, none⟩ v1) (bs ++ [b]) N 0 := by
  have hb : Below W.heap.size W w2 := (pw_below_drewN (Below.refl W.heap.size W) 1).trans hb2
  have ne : ∀ {g t : Nat} {cs : Array Value}, W.heap[g]? = some (.cells cs t (0, 0)) → (22 : Nat) ≠ t → some g ≠ v6.ownBlock := fun hh ht => Kd.S_ne hR hh ht
  have mv : ∀ {g t : Nat} {cs : Array Value}, W.heap[g]? = some (.cells cs t (0, 0)) → some g ≠ v6.ownBlock → w1.heap[g]? = some (.cells cs t (0, 0)) := fun hh hn => (hg.block _ (Nat.lt_of_lt_of_le (blk_lt hh) hb.size) hn).trans (blk_below hh hb)
  have b6 : Boxed w1 w.heap.size 24 v6 := mv x6 (ne x6 (by decide))
  have b7 : Boxed w1 (w.heap.size + 1) 3 (.int .i64 N) := mv x7 (ne x7 (by decide))
  have b8 : Boxed w1 (w.heap.size + 1 + 1) 25 (.int .i64 0) := mv x8 (ne x8 (by decide))
  have own : ∀ k, v6.ownBlock = some k → W0.heap.size ≤ k ∧ ∃ cs : Array Value, W.heap[k]? = some (.cells cs 22 (0, 0)) := fun k hk => by
    obtain ⟨inner, ho⟩ := Kd.S_own hR
    exact ⟨own_base ho k hk, own_typed ho k hk⟩
  have hB1 : Below w.heap.size W w1 := (hb.mono hB.size).grown hg (Nat.le_trans hB.size hb.size) (fun k e => by have := (own k e).1; omega)
  have hs : (w1.setCell ⟨w.heap.size, 0, none⟩ v1).heap.size = w1.heap.size := by simp
  refine ⟨b6, (((KeepsOthers.of_grownBy (grown_below hb) (fun j o e => by cases e)).trans (KeepsOthers.of_grownBy hg (fun j o e ho => ?_))).trans (KeepsOthers.setCell _ _ _)).from _, ⟨below_set hB1 _ _ _ (Nat.le_refl _), fun g cs hh => ?_, fun hlt => ?_⟩, ⟨⟨v1, b6.set _, Kd.S_set h1 b6 (by decide) _ _⟩, b7.other (by omega) _, b8.other (by omega) _, below_set (hB.trans hB1) _ _ _ (Nat.le_refl _), ?_⟩⟩
  · obtain ⟨_, cs, hc⟩ := own j e
    have := blk_below hc hb
    rw [this] at ho; cases ho; rfl
  · have h51 := mv hh (ne hh (by decide))
    exact blk_far h51 (p := ⟨w.heap.size, 0, none⟩) (blk_ne h51 b6 (by decide)) _
  · have hn : some (w.heap.size + 1 + 1 + 1) ≠ v6.ownBlock := fun e => by have := (own _ e.symm).1; omega
    rw [Below.heap_setCell _ _ _ _ (by simp; omega), hg.block _ (Nat.lt_of_lt_of_le hlt hb.size) hn, hb.block _ hlt]
  · rw [hs]; exact Nat.le_trans hZ (Nat.le_trans hb.size hg.size)
theorem allOk_snoc {w0 : World} {pre : List (Found w0)} {x : Found w0} (h : allOk pre) (hx : x.1.2.2.2 = 0) : allOk (pre ++ [x]) := fun y hy => (List.mem_append.1 hy).elim (h y) (fun e => by rw [List.mem_singleton.1 e]; exact hx)
theorem bods_snoc {w0 : World} (pre : List (Found w0)) (x : Found w0) : bods (pre ++ [x]) = bods pre ++ [x.1.2.1] := by simp [bods]
theorem col_ok {w0 : World} (len : Int) : ∀ (xs : List (Found w0)), allOk xs → colF len (xs.map fP) = (bods xs, len, 0)
  | [], _ => rfl
  | x :: xs, h => by
    have hx : x.1.2.2.2 = 0 := h x (by simp)
    have ih := col_ok len xs (fun y hy => h y (List.mem_cons_of_mem _ hy))
    simp only [List.map_cons, colF, fP, hx, if_true]
    rw [ih]; simp [bods]
theorem col_stop {w0 : World} (len : Int) (x : Found w0) (r : List (List Int × Int × Int)) (hx : x.1.2.2.2 ≠ 0) : ∀ (ini : List (Found w0)), allOk ini → colF len ((ini ++ [x]).map fP ++ r) = (bods ini, x.1.2.2.1, x.1.2.2.2)
  | [], _ => by simp only [List.nil_append, List.map_cons, List.map_nil, List.cons_append, colF, fP, if_neg hx]; rfl
  | y :: ini, h => by
    have hy : y.1.2.2.2 = 0 := h y (by simp)
    have ih := col_stop len x r hx ini (fun z hz => h z (List.mem_cons_of_mem _ hz))
    simp only [List.cons_append, List.map_cons, colF, fP, hy, if_true]
    rw [ih]; simp [bods]
/-- What Split answers of what the loop found. -/
theorem split_of {l : List Int} {N : Nat} (hN : N = min l.length 1048576) (bs : List (List Int)) (a e : Int) (h : logF (l.take N) = (bs, a, e)) :
    splitF l = if 1048576 < l.length ∧ (e = 0 ∨ e = 2) then (bs, 1048576, 5) else (bs, a, e) := by
  have ht : l.take 1048576 = l.take N := by
    rw [hN]
    by_cases hl : l.length ≤ 1048576
    · rw [Nat.min_eq_left hl, List.take_length, List.take_of_length_le hl]
    · rw [Nat.min_eq_right (by omega)]
  unfold splitF
  rw [ht, h]
theorem SpI.final {w W0 W : World} {bs : List (List Int)} {a e : Int} {v : Value} {D : Nat} {o : Obj} (h : SpI w W0 W bs a e) (hv : Boxed W w.heap.size 24 v) (hD : w.heap.size ≤ D) (hK : W.heap[D]? = some (.deferred (some []))) (h0 : w.heap.size ≤ W0.heap.size) :
    Kd.S KdB 22 (W.putObj D o) w.heap.size (fun _ => True) v bs ∧ Below w.heap.size w (W.putObj D o) := by
  have hg := h.grown (grownBy_putObj' W D o) (fun r e => by cases e; exact ⟨hD, _, hK, rfl⟩)
  obtain ⟨⟨v', h1, h2⟩, _, _, h3, _⟩ := hg
  have h4 : Boxed (W.putObj D o) w.heap.size 24 v := hv.kept (grownBy_putObj' W D o) (fun e => by have hv' : W.heap[w.heap.size]? = _ := hv; cases e; rw [hK] at hv'; cases hv')
  have : v' = v := by
    have := h1.symm.trans h4
    simpa using this
  subst this
  exact ⟨Kd.S_lower h2 h0, h3⟩
set_option maxRecDepth 100000 in
set_option maxHeartbeats 2000000 in
theorem split_loop (A : Option Addr) (c : Nat) (l : List Int) (w : World) (hG : Glob w) (hr : Kd.C (Kd.int .u8) w A l.length l) (hc : l.length ≤ c) (hl : Bytes l) (hn : l.length ≤ 140737488355328) :
    Calls Tryd.prog 14 #[.slice A l.length c] w fun e w' => ∃ v, e = .returned (.tuple #[v, .int .i64 (splitF l).2.1, .int .i64 (splitF l).2.2]) ∧ Kd.S KdB 22 w' w.heap.size (fun _ => True) v (splitF l).1 ∧ Below w.heap.size w w' := by
  obtain ⟨N, hN⟩ : ∃ N : Nat, N = min l.length 1048576 := ⟨_, rfl⟩
  have hmin : (if (1048576 : Int) < (l.length : Int) then (1048576 : Int) else (l.length : Int)) = (N : Int) := by split <;> omega
  have hmin2 : (if (1048576 : Nat) < l.length then (1048576 : Int) else (l.length : Int)) = (N : Int) := by split <;> omega
  obtain ⟨i5, hi5, _, hsz5, _⟩ := info_parts info5
  obtain ⟨f1, g1, k1⟩ := print_take_of (P := Tryd.prog) (Value.int .u8) 0 22 5 .i64 Tryd.underlying22 hi5 hsz5 A c l N (by omega) (by omega) hc
  simp only [Int.toNat_natCast] at f1 g1 k1
  obtain ⟨m, hm⟩ : ∃ m, m = l.take N := ⟨_, rfl⟩
  have hml : m.length = N := by rw [hm, List.length_take]; omega
  have C1 := Aside0.mk (Kd.C_of_reads (h1 := fun _ => rfl) (g1 w (Kd.reads_of_C hr)))
  rw [← hm] at f1 k1 C1
  rw [hml] at f1 k1 C1
  have HR := Aside0.mk hr
  have HG := Aside0.mk hG
  have HL := Aside0.mk hl
  have HN := Aside0.mk hN
  have HM := Aside0.mk hm
  have HML := Aside0.mk hml
  have HC := Aside0.mk hc
  clear hG hr hc hl hN hm hml g1 hi5 hsz5
  refine (callsIn_wide (n := 6)).1 ?_
  refine callsIn_of_wp_marks Tryd.func14 rfl trivial ?_ rfl
  simp only [Tryd.ntmps14, List.size_toArray, List.length_cons, List.length_nil, Nat.reduceAdd, Nat.reduceSub, Array.replicate_succ, Array.replicate_zero, List.push_toArray, List.append_toArray, List.nil_append, List.cons_append]
  gi_wp2_with ((refine ⟨trivial, ?_⟩; gi_at_call 23; refine (callsIn_wide.2 (frames_calls _ _ _ _ _ rfl)).mono ?_; rintro e w' ⟨rfl, rfl⟩))
  have b6 := (((Boxed.new w 24 (.slice none 0 0)).alloc (.cells #[.int .i64 N] 3)).alloc (.cells #[.int .i64 0] 25)).alloc (.cells #[.slice A N c] 22)
  have b7 := ((Boxed.new (w.alloc (.cells #[.slice none 0 0] 24)) 3 (.int .i64 N)).alloc (.cells #[.int .i64 0] 25)).alloc (.cells #[.slice A N c] 22)
  have b8 := (Boxed.new ((w.alloc (.cells #[.slice none 0 0] 24)).alloc (.cells #[.int .i64 N] 3)) 25 (.int .i64 0)).alloc (.cells #[.slice A N c] 22)
  have b9 := Boxed.new (((w.alloc (.cells #[.slice none 0 0] 24)).alloc (.cells #[.int .i64 N] 3)).alloc (.cells #[.int .i64 0] 25)) 22 (.slice A N c)
  simp only [World.size_alloc] at b7 b8 b9
  have hB0 : Below w.heap.size w ((((w.alloc (.cells #[.slice none 0 0] 24)).alloc (.cells #[.int .i64 N] 3)).alloc (.cells #[.int .i64 0] 25)).alloc (.cells #[.slice A N c] 22)) := below_alloc (below_alloc (below_alloc (below_alloc (Below.refl _ _) _) _) _) _
  have hsz : ((((w.alloc (.cells #[.slice none 0 0] 24)).alloc (.cells #[.int .i64 N] 3)).alloc (.cells #[.int .i64 0] 25)).alloc (.cells #[.slice A N c] 22)).heap.size = w.heap.size + 4 := by simp
  obtain ⟨W0, hW0⟩ : ∃ W0, (((w.alloc (.cells #[.slice none 0 0] 24)).alloc (.cells #[.int .i64 N] 3)).alloc (.cells #[.int .i64 0] 25)).alloc (.cells #[.slice A N c] 22) = W0 := ⟨_, rfl⟩
  rw [hW0] at b6 b7 b8 b9 hB0 hsz ⊢
  have HI0 := Aside0.mk (show SpI w W0 W0 [] N 0 from ⟨⟨_, b6, Kd.S_nil _ _ _ _ _⟩, b7, b8, hB0, Nat.le_refl _⟩)
  have B9 := Aside0.mk b9
  have HB0 := Aside0.mk hB0
  clear hW0 b6 b7 b8 b9 hB0 hmin hmin2
  refine wpIn_rangeFunc_ownH rfl (by omega) (gf := 31) (lb := #[.pointer (some ⟨w.heap.size + 1 + 1 + 1, 0, none⟩)]) rfl trivial (enters_of Tryd.func31 (by kernel_rfl) rfl)
    (frames_stops (w0 := w) (W := W0) (A := A) (c := c) (l := m) (n₀ := w.heap.size) (by omega) (by rw [HML.out]; exact C1.out) (by rw [HM.out]; exact HL.out.take _) (by rw [HML.out]; have := HN.out; omega) HB0.out (by rw [HML.out]; exact B9.out) HG.out (by rw [HML.out]; exact k1) (Nat.le_refl _))
    Kpf.trans (Kpf.put (by omega) (by omega)) (Below.refl _ _) (fun _ => rfl)
    (fun (pre : List (Found w)) W' => allOk pre ∧ SpI w W0 W' (bods pre) N 0)
    (fun cd (pre : List (Found w)) W' => cd = .exit 0 ∧ ∃ (ini : List (Found w)) (x : Found w), pre = ini ++ [x] ∧ allOk ini ∧ x.1.2.2.2 ≠ 0 ∧ SpI w W0 W' (bods ini) x.1.2.2.1 x.1.2.2.2)
    (fun s X Y row hs hg hr => ⟨hs.1, hs.2.grown hg (fun r e => ⟨by have := (hr r e).1; omega, (hr r e).2⟩)⟩)
    (fun cd s X Y row hs hg hr => by obtain ⟨h1, ini, x, h2, h3, h4, h5⟩ := hs; exact ⟨h1, ini, x, h2, h3, h4, h5.grown hg (fun r e => ⟨by have := (hr r e).1; omega, (hr r e).2⟩)⟩)
    ⟨(fun _ h => by cases h), HI0.out⟩
    (fun (x : Found w) a' W' => ∃ Bx, W0.heap.size ≤ Bx ∧ W'.heap[Bx]? = some (.cells #[x.1.1, .int .i64 x.1.2.2.1, .int .i64 x.1.2.2.2] 51 (0, 0)) ∧ a' = { tmps := #[.slice A N c, undef, .slice none 0 0, .int .i64 0, .int .i64 0, .int .i64 l.length, .pointer (some ⟨w.heap.size, 0, none⟩), .pointer (some ⟨w.heap.size + 1, 0, none⟩), .pointer (some ⟨w.heap.size + 1 + 1, 0, none⟩), .pointer (some ⟨Bx, 0, none⟩), .slice A l.length c, .int .i64 l.length, .slice A l.length c, .int .i64 l.length, .int .i64 N, .slice A N c, .slice A N c, .int .i64 N, .slice A N c, .func (.func 31) #[] #[.pointer (some ⟨w.heap.size + 1 + 1 + 1, 0, none⟩)], .agg #[x.1.1, .int .i64 x.1.2.2.1, .int .i64 x.1.2.2.2], undef, undef, undef, undef, undef, undef, undef, undef, undef, undef, undef, undef, undef, undef, undef, undef, undef, undef, undef, undef, undef, undef, undef, undef, undef, undef, undef], defers := [] })
    (fun x a' _ X Y row hs hg hr => by obtain ⟨Bx, h1, h2, h3⟩ := hs; exact ⟨Bx, h1, (hg.block Bx (blk_lt h2) (fun e => by obtain ⟨_, o, ho, hc⟩ := hr _ e.symm; rw [h2] at ho; cases ho; cases hc)).trans h2, h3⟩)
    ?assign ?body ?done ?stop
  case assign =>
    rintro l_ pre ⟨⟨v, b, at_, er⟩, hx1, hx2, hx4⟩ W K ⟨hp, hI⟩ hK
    obtain ⟨A2, n2, c2, rfl⟩ := OneV.form hx1
    dsimp only [fEnc] at hK ⊢
    have HK := Aside0.mk hK
    have HI := Aside0.mk hI
    clear hK hI
    gi_wp2
    have hb := below_alloc (Below.refl W.heap.size W) (.cells #[.slice A2 n2 c2, .int .i64 at_, .int .i64 er] 51)
    refine HK.out _ _ ((KeepsOthers.alloc _ _).from _) (Kpf.of_below hb HI.out.below.size) ⟨hp, HI.out.grown (grown_below hb) (fun r e => by cases e)⟩ ⟨W.heap.size, HI.out.size, blk_new _ _, rfl⟩
  case body =>
    rintro l_ pre ⟨⟨v, b, at_, er⟩, hx1, hx2, hx4⟩ a' W hl_ ⟨r, hr⟩ ⟨hp, hI⟩ ⟨Bx, hBx, bX, rfl⟩ hlt
    dsimp only at hx1 hx2 bX ⊢
    have HI := Aside0.mk hI
    have HX1 := Aside0.mk hx1
    have HX2 := Aside0.mk hx2
    have HX := Aside0.mk bX
    have HP := Aside0.mk hp
    clear hI hp hr
    have e1 : W.cell? ⟨Bx, 1, none⟩ = some (.int .i64 at_) := blk_cell HX.out 1
    have e2 : W.cell? ⟨Bx, 2, none⟩ = some (.int .i64 er) := blk_cell HX.out 2
    obtain ⟨⟨v6, x6, R6⟩, x7, x8, xb, xs⟩ := HI.out
    have HR6 := Aside0.mk R6
    have X6 := Aside0.mk x6
    have X7 := Aside0.mk x7
    have X8 := Aside0.mk x8
    clear R6 xb xs
    have y6 := x6.cell
    have y7 := x7.cell
    have y8 := x8.cell
    have z6 := x6.frozen
    have z7 := x7.frozen
    have z8 := x8.frozen
    clear x6 x7 x8 bX
    by_cases he : er = 0
    · subst he
      have hx3 := HX1.out
      unfold OneV at hx3
      rw [if_pos rfl] at hx3
      obtain ⟨A2, c2, rfl, hc2, hC2⟩ := hx3
      have e0 : W.cell? ⟨Bx, 0, none⟩ = some (.slice A2 b.length c2) := blk_cell HX.out 0
      have HC2 := Aside0.mk hC2
      clear hC2
      have hmx : Tryd.prog.follows .mixedOrders = true := by kernel_rfl
      have HBL := Aside0.mk (show b.length ≤ 140737488355000 from by have h_ : b.length ≤ 20000 := hx4; omega)
      have HBO := Aside0.mk (show (bods pre).length ≤ 4097 from by unfold bods; rw [List.length_map]; omega)
      have HBS := Aside0.mk (bods_snoc (w0 := w) pre ⟨(.slice A2 b.length c2, b, at_, 0), hx1, hx2, hx4⟩)
      gi_wp2
      refine wpIn_region_any hmx ?_
      refine wpAnyIn_ready (rs := [0, 1]) (by kernel_rfl) (by simp) ?_
      refine AllReadyIn.cons rfl (fun K hK => ?_) (AllReadyIn.cons rfl (fun K hK => ?_) AllReadyIn.nil)
      · go_simp
        refine hK _ _ ?_
        clear hK K
        refine wpAnyIn_ready (rs := [1]) (by kernel_rfl) (by simp) ?_
        refine AllReadyIn.cons rfl (fun K hK => ?_) AllReadyIn.nil
        · go_simp
          refine hK _ _ ?_
          clear hK K
          refine wpAnyIn_ready (rs := [2]) (by kernel_rfl) (by simp) ?_
          refine AllReadyIn.cons rfl (fun K hK => ?_) AllReadyIn.nil
          · go_simp
            refine hK _ _ ?_
            clear hK K
            refine wpAnyIn_ready (rs := [3]) (by kernel_rfl) (by simp) ?_
            refine AllReadyIn.cons rfl (fun K hK => ?_) AllReadyIn.nil
            · go_simp
              refine ⟨trivial, ?_⟩
              gi_at_call 24
              refine (CallsIn.inRound l_ (callsIn_wide.2 (clone_calls A2 c2 b.length b _ rfl (Kd.C_drew (Kd.C_below HC2.out HI.out.below)) hc2 HBL.out))).mono ?_
              rintro e w2 ⟨v2, rfl, hv2, hb2⟩
              obtain ⟨q2, k2, rfl⟩ := Kd.R_slice hv2
              refine hK _ _ ?_
              clear hK K
              have HV2 := Aside0.mk hv2
              have HB2 := Aside0.mk hb2
              clear hv2 hb2
              have y62 : w2.cell? ⟨w.heap.size, 0, none⟩ = some v6 := pw_cell_below HB2.out y6
              have y63 : (w2.alloc (.cells #[.slice q2 b.length k2] 22)).cell? ⟨w.heap.size, 0, none⟩ = some v6 := pw_cell_below (below_alloc (Below.refl _ _) _) y62
              refine wpAnyIn_ready (rs := [4]) (by kernel_rfl) (by simp) ?_
              refine AllReadyIn.cons rfl (fun K hK => ?_) AllReadyIn.nil
              · go_simp
                refine hK _ _ ?_
                clear hK K
                refine wpAnyIn_ready (rs := [5]) (by kernel_rfl) (by simp) ?_
                refine AllReadyIn.cons rfl (fun K hK => ?_) AllReadyIn.nil
                · refine app_step (by rfl) (.tmp 28) (.tmp 32) rfl rfl rfl HB2.out HV2.out HR6.out HI.out.size (by have h_ := HBO.out; omega) ?_
                  intro v1 w1 h1 hg1
                  obtain ⟨q3, k3, e3⟩ := Kd.S_slice h1
                  rw [List.length_append, List.length_singleton] at e3
                  subst e3
                  have HD := Aside0.mk (SpI.appended X6.out X7.out X8.out HI.out.below HI.out.size HR6.out HB2.out hg1 h1)
                  have y61 := HD.out.1.cell
                  have z61 := HD.out.1.frozen
                  clear h1 hg1 y62 y63 y6 z6
                  refine hK _ _ ?_
                  clear hK K
                  refine wpAnyIn_ready (rs := [6]) (by kernel_rfl) (by simp) ?_
                  refine AllReadyIn.cons rfl (fun K hK => ?_) AllReadyIn.nil
                  go_simp
                  refine hK _ _ ?_
                  clear hK K
                  refine wpAnyIn_done (by kernel_rfl) ?_ _
                  exact ⟨HD.out.2.1, HD.out.2.2.1, allOk_snoc HP.out rfl, by rw [HBS.out]; exact HD.out.2.2.2⟩
      · go_simp
        refine hK _ _ ?_
        clear hK K
        refine wpAnyIn_ready (rs := [0, 2]) (by kernel_rfl) (by simp) ?_
        refine AllReadyIn.cons rfl (fun K hK => ?_) (AllReadyIn.cons rfl (fun K hK => ?_) AllReadyIn.nil)
        · go_simp
          refine hK _ _ ?_
          clear hK K
          refine wpAnyIn_ready (rs := [2]) (by kernel_rfl) (by simp) ?_
          refine AllReadyIn.cons rfl (fun K hK => ?_) AllReadyIn.nil
          · go_simp
            refine hK _ _ ?_
            clear hK K
            refine wpAnyIn_ready (rs := [3]) (by kernel_rfl) (by simp) ?_
            refine AllReadyIn.cons rfl (fun K hK => ?_) AllReadyIn.nil
            · go_simp
              refine ⟨trivial, ?_⟩
              gi_at_call 24
              refine (CallsIn.inRound l_ (callsIn_wide.2 (clone_calls A2 c2 b.length b _ rfl (Kd.C_drew (Kd.C_below HC2.out HI.out.below)) hc2 HBL.out))).mono ?_
              rintro e w2 ⟨v2, rfl, hv2, hb2⟩
              obtain ⟨q2, k2, rfl⟩ := Kd.R_slice hv2
              refine hK _ _ ?_
              clear hK K
              have HV2 := Aside0.mk hv2
              have HB2 := Aside0.mk hb2
              clear hv2 hb2
              have y62 : w2.cell? ⟨w.heap.size, 0, none⟩ = some v6 := pw_cell_below HB2.out y6
              have y63 : (w2.alloc (.cells #[.slice q2 b.length k2] 22)).cell? ⟨w.heap.size, 0, none⟩ = some v6 := pw_cell_below (below_alloc (Below.refl _ _) _) y62
              refine wpAnyIn_ready (rs := [4]) (by kernel_rfl) (by simp) ?_
              refine AllReadyIn.cons rfl (fun K hK => ?_) AllReadyIn.nil
              · go_simp
                refine hK _ _ ?_
                clear hK K
                refine wpAnyIn_ready (rs := [5]) (by kernel_rfl) (by simp) ?_
                refine AllReadyIn.cons rfl (fun K hK => ?_) AllReadyIn.nil
                · refine app_step (by rfl) (.tmp 28) (.tmp 32) rfl rfl rfl HB2.out HV2.out HR6.out HI.out.size (by have h_ := HBO.out; omega) ?_
                  intro v1 w1 h1 hg1
                  obtain ⟨q3, k3, e3⟩ := Kd.S_slice h1
                  rw [List.length_append, List.length_singleton] at e3
                  subst e3
                  have HD := Aside0.mk (SpI.appended X6.out X7.out X8.out HI.out.below HI.out.size HR6.out HB2.out hg1 h1)
                  have y61 := HD.out.1.cell
                  have z61 := HD.out.1.frozen
                  clear h1 hg1 y62 y63 y6 z6
                  refine hK _ _ ?_
                  clear hK K
                  refine wpAnyIn_ready (rs := [6]) (by kernel_rfl) (by simp) ?_
                  refine AllReadyIn.cons rfl (fun K hK => ?_) AllReadyIn.nil
                  go_simp
                  refine hK _ _ ?_
                  clear hK K
                  refine wpAnyIn_done (by kernel_rfl) ?_ _
                  exact ⟨HD.out.2.1, HD.out.2.2.1, allOk_snoc HP.out rfl, by rw [HBS.out]; exact HD.out.2.2.2⟩
        · go_simp
          refine hK _ _ ?_
          clear hK K
          refine wpAnyIn_ready (rs := [0, 3]) (by kernel_rfl) (by simp) ?_
          refine AllReadyIn.cons rfl (fun K hK => ?_) (AllReadyIn.cons rfl (fun K hK => ?_) AllReadyIn.nil)
          · go_simp
            refine hK _ _ ?_
            clear hK K
            refine wpAnyIn_ready (rs := [3]) (by kernel_rfl) (by simp) ?_
            refine AllReadyIn.cons rfl (fun K hK => ?_) AllReadyIn.nil
            · go_simp
              refine ⟨trivial, ?_⟩
              gi_at_call 24
              refine (CallsIn.inRound l_ (callsIn_wide.2 (clone_calls A2 c2 b.length b _ rfl (Kd.C_drew (Kd.C_below HC2.out HI.out.below)) hc2 HBL.out))).mono ?_
              rintro e w2 ⟨v2, rfl, hv2, hb2⟩
              obtain ⟨q2, k2, rfl⟩ := Kd.R_slice hv2
              refine hK _ _ ?_
              clear hK K
              have HV2 := Aside0.mk hv2
              have HB2 := Aside0.mk hb2
              clear hv2 hb2
              have y62 : w2.cell? ⟨w.heap.size, 0, none⟩ = some v6 := pw_cell_below HB2.out y6
              have y63 : (w2.alloc (.cells #[.slice q2 b.length k2] 22)).cell? ⟨w.heap.size, 0, none⟩ = some v6 := pw_cell_below (below_alloc (Below.refl _ _) _) y62
              refine wpAnyIn_ready (rs := [4]) (by kernel_rfl) (by simp) ?_
              refine AllReadyIn.cons rfl (fun K hK => ?_) AllReadyIn.nil
              · go_simp
                refine hK _ _ ?_
                clear hK K
                refine wpAnyIn_ready (rs := [5]) (by kernel_rfl) (by simp) ?_
                refine AllReadyIn.cons rfl (fun K hK => ?_) AllReadyIn.nil
                · refine app_step (by rfl) (.tmp 28) (.tmp 32) rfl rfl rfl HB2.out HV2.out HR6.out HI.out.size (by have h_ := HBO.out; omega) ?_
                  intro v1 w1 h1 hg1
                  obtain ⟨q3, k3, e3⟩ := Kd.S_slice h1
                  rw [List.length_append, List.length_singleton] at e3
                  subst e3
                  have HD := Aside0.mk (SpI.appended X6.out X7.out X8.out HI.out.below HI.out.size HR6.out HB2.out hg1 h1)
                  have y61 := HD.out.1.cell
                  have z61 := HD.out.1.frozen
                  clear h1 hg1 y62 y63 y6 z6
                  refine hK _ _ ?_
                  clear hK K
                  refine wpAnyIn_ready (rs := [6]) (by kernel_rfl) (by simp) ?_
                  refine AllReadyIn.cons rfl (fun K hK => ?_) AllReadyIn.nil
                  go_simp
                  refine hK _ _ ?_
                  clear hK K
                  refine wpAnyIn_done (by kernel_rfl) ?_ _
                  exact ⟨HD.out.2.1, HD.out.2.2.1, allOk_snoc HP.out rfl, by rw [HBS.out]; exact HD.out.2.2.2⟩
          · go_simp
            refine ⟨trivial, ?_⟩
            gi_at_call 24
            refine (CallsIn.inRound l_ (callsIn_wide.2 (clone_calls A2 c2 b.length b _ rfl (Kd.C_drew (Kd.C_below HC2.out HI.out.below)) hc2 HBL.out))).mono ?_
            rintro e w2 ⟨v2, rfl, hv2, hb2⟩
            obtain ⟨q2, k2, rfl⟩ := Kd.R_slice hv2
            refine hK _ _ ?_
            clear hK K
            have HV2 := Aside0.mk hv2
            have HB2 := Aside0.mk hb2
            clear hv2 hb2
            have y62 : w2.cell? ⟨w.heap.size, 0, none⟩ = some v6 := pw_cell_below HB2.out y6
            have y63 : (w2.alloc (.cells #[.slice q2 b.length k2] 22)).cell? ⟨w.heap.size, 0, none⟩ = some v6 := pw_cell_below (below_alloc (Below.refl _ _) _) y62
            refine wpAnyIn_ready (rs := [0, 4]) (by kernel_rfl) (by simp) ?_
            refine AllReadyIn.cons rfl (fun K hK => ?_) (AllReadyIn.cons rfl (fun K hK => ?_) AllReadyIn.nil)
            · go_simp
              refine hK _ _ ?_
              clear hK K
              refine wpAnyIn_ready (rs := [4]) (by kernel_rfl) (by simp) ?_
              refine AllReadyIn.cons rfl (fun K hK => ?_) AllReadyIn.nil
              · go_simp
                refine hK _ _ ?_
                clear hK K
                refine wpAnyIn_ready (rs := [5]) (by kernel_rfl) (by simp) ?_
                refine AllReadyIn.cons rfl (fun K hK => ?_) AllReadyIn.nil
                · refine app_step (by rfl) (.tmp 28) (.tmp 32) rfl rfl rfl HB2.out HV2.out HR6.out HI.out.size (by have h_ := HBO.out; omega) ?_
                  intro v1 w1 h1 hg1
                  obtain ⟨q3, k3, e3⟩ := Kd.S_slice h1
                  rw [List.length_append, List.length_singleton] at e3
                  subst e3
                  have HD := Aside0.mk (SpI.appended X6.out X7.out X8.out HI.out.below HI.out.size HR6.out HB2.out hg1 h1)
                  have y61 := HD.out.1.cell
                  have z61 := HD.out.1.frozen
                  clear h1 hg1 y62 y63 y6 z6
                  refine hK _ _ ?_
                  clear hK K
                  refine wpAnyIn_ready (rs := [6]) (by kernel_rfl) (by simp) ?_
                  refine AllReadyIn.cons rfl (fun K hK => ?_) AllReadyIn.nil
                  go_simp
                  refine hK _ _ ?_
                  clear hK K
                  refine wpAnyIn_done (by kernel_rfl) ?_ _
                  exact ⟨HD.out.2.1, HD.out.2.2.1, allOk_snoc HP.out rfl, by rw [HBS.out]; exact HD.out.2.2.2⟩
            · go_simp
              refine hK _ _ ?_
              clear hK K
              refine wpAnyIn_ready (rs := [0]) (by kernel_rfl) (by simp) ?_
              refine AllReadyIn.cons rfl (fun K hK => ?_) AllReadyIn.nil
              · go_simp
                refine hK _ _ ?_
                clear hK K
                refine wpAnyIn_ready (rs := [5]) (by kernel_rfl) (by simp) ?_
                refine AllReadyIn.cons rfl (fun K hK => ?_) AllReadyIn.nil
                · refine app_step (by rfl) (.tmp 28) (.tmp 32) rfl rfl rfl HB2.out HV2.out HR6.out HI.out.size (by have h_ := HBO.out; omega) ?_
                  intro v1 w1 h1 hg1
                  obtain ⟨q3, k3, e3⟩ := Kd.S_slice h1
                  rw [List.length_append, List.length_singleton] at e3
                  subst e3
                  have HD := Aside0.mk (SpI.appended X6.out X7.out X8.out HI.out.below HI.out.size HR6.out HB2.out hg1 h1)
                  have y61 := HD.out.1.cell
                  have z61 := HD.out.1.frozen
                  clear h1 hg1 y62 y63 y6 z6
                  refine hK _ _ ?_
                  clear hK K
                  refine wpAnyIn_ready (rs := [6]) (by kernel_rfl) (by simp) ?_
                  refine AllReadyIn.cons rfl (fun K hK => ?_) AllReadyIn.nil
                  go_simp
                  refine hK _ _ ?_
                  clear hK K
                  refine wpAnyIn_done (by kernel_rfl) ?_ _
                  exact ⟨HD.out.2.1, HD.out.2.2.1, allOk_snoc HP.out rfl, by rw [HBS.out]; exact HD.out.2.2.2⟩
    · have he1 : (er == 0) = false := by simpa using he
      have he2 : (er != 0) = true := by simpa using he
      have hmx : Tryd.prog.follows .mixedOrders = true := by kernel_rfl
      gi_wp2
      gi_region_with_o (fail)
      all_goals gi_wp2
      all_goals
        refine ⟨?_, rfl, pre, _, rfl, HP.out, he, ?_⟩
        · first | exact (((KeepsOthers.setCell _ _ _).trans (KeepsOthers.setCell _ _ _)).trans (KeepsOthers.drew _)).from _ | exact ((KeepsOthers.drew _).trans ((KeepsOthers.setCell _ _ _).trans (KeepsOthers.setCell _ _ _))).from _
        · first | exact ((HI.out.put7 _).put8 _).drew | exact ((HI.out.put8 _).put7 _).drew
  case done =>
    rintro D xs W hD hS ⟨hp, hI⟩ hK
    have hD' : w.heap.size ≤ D := by omega
    have HSP := Aside0.mk (split_of HN.out (bods xs) N 0 (by rw [← HM.out, ← col_seq m (by rw [HM.out]; exact HL.out.take _), ← hS, HML.out]; exact col_ok N xs hp))
    have HI := Aside0.mk hI
    have HK := Aside0.mk hK
    clear hS hp hI hK
    obtain ⟨⟨v6, x6, _⟩, x7, x8, _, _⟩ := HI.out
    have X6 := Aside0.mk x6
    have y6 := x6.cell
    have y7 := x7.cell
    have y8 := x8.cell
    clear x6 x7 x8
    by_cases hlt : 1048576 < l.length
    · have d1 : decide ((1048576 : Int) < (l.length : Int)) = true := by simp only [decide_eq_true_eq]; omega
      have d2 : decide (1048576 < l.length) = true := by simpa using hlt
      gi_wp2
      refine ⟨by simp, .inl ⟨_, _, rfl, run_takeDeferred HK.out, ?_⟩⟩
      have hf := SpI.final (D := D) (o := .deferred none) HI.out X6.out hD' HK.out (by omega)
      refine ⟨.tuple #[v6, .int .i64 1048576, .int .i64 5], by simp [results, Tryd.f14, go_sem], v6, ?_, ?_, hf.2⟩
      · rw [HSP.out, if_pos (by first | exact ⟨hlt, .inl rfl⟩ | exact ⟨hlt, .inl trivial⟩ | exact ⟨hlt, .inr rfl⟩ | exact ⟨hlt, .inr trivial⟩)]
      · rw [HSP.out, if_pos (by first | exact ⟨hlt, .inl rfl⟩ | exact ⟨hlt, .inl trivial⟩ | exact ⟨hlt, .inr rfl⟩ | exact ⟨hlt, .inr trivial⟩)]; exact hf.1
    · have d1 : decide ((1048576 : Int) < (l.length : Int)) = false := by simp only [decide_eq_false_iff_not]; omega
      have d2 : decide (1048576 < l.length) = false := by simpa using hlt
      gi_wp2
      gi_region
      gi_wp2
      refine ⟨by simp, .inl ⟨_, _, rfl, run_takeDeferred (show W.drew.heap[D]? = some (.deferred (some [])) from HK.out), ?_⟩⟩
      have hf := SpI.final (D := D) (o := .deferred none) HI.out.drew X6.out hD' (show W.drew.heap[D]? = some (.deferred (some [])) from HK.out) (by omega)
      refine ⟨.tuple #[v6, .int .i64 N, .int .i64 0], by simp [results, Tryd.f14, go_sem], v6, ?_, ?_, hf.2⟩
      · rw [HSP.out, if_neg (fun z => hlt z.1)]
      · rw [HSP.out, if_neg (fun z => hlt z.1)]; exact hf.1
  case stop =>
    rintro D cd pre W hD hS ⟨rfl, ini, x, rfl, hp, hx, hI⟩ hK
    have hD' : w.heap.size ≤ D := by omega
    have HSP := Aside0.mk (split_of HN.out (bods ini) x.1.2.2.1 x.1.2.2.2 (by
      obtain ⟨r, hr⟩ := hS
      rw [← HM.out, ← col_seq m (by rw [HM.out]; exact HL.out.take _), ← hr, HML.out]; exact col_stop N x r hx ini hp))
    obtain ⟨at_, hat⟩ : ∃ a, a = x.1.2.2.1 := ⟨_, rfl⟩
    obtain ⟨er, her⟩ : ∃ a, a = x.1.2.2.2 := ⟨_, rfl⟩
    rw [← hat, ← her] at hI HSP
    rw [← her] at hx
    have HI := Aside0.mk hI
    have HK := Aside0.mk hK
    clear hS hp hI hK hat her
    obtain ⟨⟨v6, x6, _⟩, x7, x8, _, _⟩ := HI.out
    have X6 := Aside0.mk x6
    have y6 := x6.cell
    have y7 := x7.cell
    have y8 := x8.cell
    have he1 : (er == 0) = false := by simpa using hx
    clear x6 x7 x8
    by_cases hlt : 1048576 < l.length
    · have d1 : decide ((1048576 : Int) < (l.length : Int)) = true := by simp only [decide_eq_true_eq]; omega
      have d2 : decide (1048576 < l.length) = true := by simpa using hlt
      by_cases h2 : er = 2
      · subst h2
        gi_wp2
        refine ⟨by simp, .inl ⟨_, _, rfl, run_takeDeferred HK.out, ?_⟩⟩
        have hf := SpI.final (D := D) (o := .deferred none) HI.out X6.out hD' HK.out (by omega)
        refine ⟨.tuple #[v6, .int .i64 1048576, .int .i64 5], by simp [results, Tryd.f14, go_sem], v6, ?_, ?_, hf.2⟩
        · rw [HSP.out, if_pos (by first | exact ⟨hlt, .inl rfl⟩ | exact ⟨hlt, .inl trivial⟩ | exact ⟨hlt, .inr rfl⟩ | exact ⟨hlt, .inr trivial⟩)]
        · rw [HSP.out, if_pos (by first | exact ⟨hlt, .inl rfl⟩ | exact ⟨hlt, .inl trivial⟩ | exact ⟨hlt, .inr rfl⟩ | exact ⟨hlt, .inr trivial⟩)]; exact hf.1
      · have he2 : (er == 2) = false := by simpa using h2
        gi_wp2
        gi_region
        gi_wp2
        refine ⟨by simp, .inl ⟨_, _, rfl, run_takeDeferred (show W.drew.heap[D]? = some (.deferred (some [])) from HK.out), ?_⟩⟩
        have hf := SpI.final (D := D) (o := .deferred none) HI.out.drew X6.out hD' (show W.drew.heap[D]? = some (.deferred (some [])) from HK.out) (by omega)
        refine ⟨.tuple #[v6, .int .i64 at_, .int .i64 er], by simp [results, Tryd.f14, go_sem], v6, ?_, ?_, hf.2⟩
        · rw [HSP.out, if_neg (fun z => z.2.elim hx h2)]
        · rw [HSP.out, if_neg (fun z => z.2.elim hx h2)]; exact hf.1
    · have d1 : decide ((1048576 : Int) < (l.length : Int)) = false := by simp only [decide_eq_false_iff_not]; omega
      have d2 : decide (1048576 < l.length) = false := by simpa using hlt
      gi_wp2
      gi_region
      gi_wp2
      refine ⟨by simp, .inl ⟨_, _, rfl, run_takeDeferred (show W.drew.heap[D]? = some (.deferred (some [])) from HK.out), ?_⟩⟩
      have hf := SpI.final (D := D) (o := .deferred none) HI.out.drew X6.out hD' (show W.drew.heap[D]? = some (.deferred (some [])) from HK.out) (by omega)
      refine ⟨.tuple #[v6, .int .i64 at_, .int .i64 er], by simp [results, Tryd.f14, go_sem], v6, ?_, ?_, hf.2⟩
      · rw [HSP.out, if_neg (fun z => hlt z.1)]
      · rw [HSP.out, if_neg (fun z => hlt z.1)]; exact hf.1
/-- What Split answers, of bytes that are bytes. -/
def frame_Split.f (l0 : List Int) : Option (List (List Int) × Int × Int) := if l0.all (fun x => decide (0 ≤ x) && decide (x < 256)) && decide (l0.length ≤ 140737488355328) then some (splitF l0) else none
theorem frame_Split.calls (A0 : Option Addr) (c0 : Nat) (l0 : List Int) (r1 : List (List Int)) (r2 r3 : Int) (w : World) (hG : Glob w) (hr0 : Kd.C (Kd.int .u8) w A0 l0.length l0) (hc0 : l0.length ≤ c0) (h : frame_Split.f l0 = some (r1, r2, r3)) :
    Calls Tryd.prog 14 #[.slice A0 l0.length c0] w fun e w' => ∃ v0_, e = .returned (.tuple #[v0_, .int .i64 r2, .int .i64 r3]) ∧ Kd.S KdB 22 w' w.heap.size (fun _ => True) v0_ r1 ∧ Below w.heap.size w w' := by
  unfold frame_Split.f at h
  split at h
  · rename_i hb
    simp only [Bool.and_eq_true, List.all_eq_true, decide_eq_true_eq] at hb
    have h5 := Option.some.inj h
    have hd := split_loop A0 c0 l0 w hG hr0 hc0 hb.1 hb.2
    rw [h5] at hd
    exact hd
  · simp at h
theorem split_f {l : List Int} (hl : Bytes l) (hn : l.length ≤ 140737488355328) : frame_Split.f l = some (splitF l) := by
  unfold frame_Split.f
  rw [if_pos]
  simp only [Bool.and_eq_true, List.all_eq_true, decide_eq_true_eq]
  exact ⟨hl, hn⟩
end Go.Proofs.YtojagnoobaleaaaDoor.Ext
