/- The contract of event.Decode, by hand. -/
import Derived.Test.YtmlhlcdamppbfaaDoorRdr2
import Derived.Test.YtmlhlcdamppbfaaDoorEnc
import Derived.Deep.Cut
namespace Go.Proofs.YtmlhlcdamppbfaaDoor.Ext
open Go.RowKit Go.Proofs.YtmlhlcdamppbfaaDoor.Xp Go.Proofs.YtmlhlcdamppbfaaDoorW.PrintWords Go.Proofs.YtmlhlcdamppbfaaDoorW.PrintLast Go.Proofs.YtmlhlcdamppbfaaDoorW.PrintMore
set_option linter.unusedVariables false
set_option linter.unusedSimpArgs false
attribute [local go_sem] max2_int min2_int max_two min_two
/-- What Decode holds in memory: the reader, the event that is being read, and the one that is handed back. -/
structure DI (w0 W : World) (r g h : Nat) (A : Option Addr) (c n : Nat) (p e : Int) (cs : Array Value) : Prop where
  rd : Rd w0 W g A c n p e
  ev : W.heap[h]? = some (.cells cs 24 (0, 0))
  res : W.heap[r]? = some (.cells #[.int .i64 0, .int .u64 0, .int .u64 0, .string ⟨#[]⟩, .string ⟨#[]⟩, .string ⟨#[]⟩, .string ⟨#[]⟩, .int .i64 0, .int .i64 0, .int .i64 0] 24 (0, 0))
  hg : h ≠ g
  rg : r ≠ g
  rh : r ≠ h
  bh : w0.heap.size ≤ h
section
variable {w0 W : World} {r g h : Nat} {A : Option Addr} {c n : Nat} {p e : Int} {cs : Array Value}
theorem DI.step {W' : World} {p' e' : Int} (d : DI w0 W r g h A c n p e cs) (hr : Rd w0 W' g A c n p' e') (o : Oth g W W') : DI w0 W' r g h A c n p' e' cs := ⟨hr, o _ _ d.hg d.ev, o _ _ d.rg d.res, d.hg, d.rg, d.rh, d.bh⟩
theorem DI.then_ {W' : World} (d : DI w0 W r g h A c n p e cs) (hb : Below W.heap.size W W') : DI w0 W' r g h A c n p e cs := d.step (d.rd.then_ hb) (Oth.of_below hb)
theorem DI.drew (d : DI w0 W r g h A c n p e cs) : DI w0 W.drew r g h A c n p e cs := d.then_ (pw_below_drewN (Below.refl _ _) 1)
theorem DI.drewN (d : DI w0 W r g h A c n p e cs) (m : Nat) : DI w0 (W.drewN m) r g h A c n p e cs := d.then_ (pw_below_drewN (Below.refl _ _) m)
theorem DI.alloc (d : DI w0 W r g h A c n p e cs) (o : Obj) : DI w0 (W.alloc o) r g h A c n p e cs := d.then_ (below_alloc (Below.refl _ _) o)
theorem DI.set (d : DI w0 W r g h A c n p e cs) (j : Nat) (v : Value) (cs' : Array Value) (hc : cs.setIfInBounds j v = cs') : DI w0 (W.setCell ⟨h, j, none⟩ v) r g h A c n p e cs' :=
  ⟨⟨d.rd.below.setCell d.bh _, d.rd.base, blk_far d.rd.rd (fun z => d.hg z.symm) v⟩, blk_put d.ev j v hc, blk_far d.res d.rh v, d.hg, d.rg, d.rh, d.bh⟩
end
theorem size24 : (Tryd.prog.info? 24).map (·.size) = some 10 := by kernel_rfl
theorem there_block {w : World} {b : Nat} {C : Array Value} {t : TypeId} (hb : w.heap[b]? = some (.cells C t (0, 0))) {n : Nat} (hn : C.size = n := by rfl) : w.there b 0 n := fun j hj => by
  rw [Nat.zero_add, blk_cell hb j]
  exact ⟨by rw [Array.getElem?_eq_getElem (by omega)]; rfl, blk_frozen hb j⟩
theorem range_block {w : World} {b : Nat} {l : List Value} {t : TypeId} (hb : w.heap[b]? = some (.cells l.toArray t (0, 0))) : w.rangeAt b 0 l := fun j v hv => by
  rw [Nat.zero_add, blk_cell hb j]; simpa using hv
theorem cell_apart {w : World} {g j r o : Nat} {v : Value} {vs : List Value} (h : w.cell? ⟨g, j, none⟩ = some v) (hne : r ≠ g) : (w.setCells r o vs).cell? ⟨g, j, none⟩ = some v := by
  have h1 : w.rangeAt g j [v] := fun i u hu => by
    cases i with
    | zero => simp at hu; rw [← hu]; exact h
    | succ i => simp at hu
  exact World.rangeAt_setCells_apart h1 r o vs (.inl hne.symm) 0 v rfl
theorem cell_far {w : World} {g j r i : Nat} {v : Value} (h : w.cell? ⟨g, j, none⟩ = some v) (hne : r ≠ g) (u : Value) (_ : True := trivial) : (w.setCell ⟨r, i, none⟩ u).cell? ⟨g, j, none⟩ = some v := by
  rw [World.cell?_setCell_other _ _ _ _ (by simp [hne])]; exact h
theorem frozen_far {w : World} {g j : Nat} (h : w.frozen? ⟨g, j, none⟩ = false) (p : Addr) (u : Value) : (w.setCell p u).frozen? ⟨g, j, none⟩ = false := by rw [World.frozen?_setCell]; exact h
theorem rc_keep {r : Nat} {rc : World → Nat → Value} (hrc : ∀ W i, rc W i = (W.cell? ⟨r, i, none⟩).getD undef) {W : World} {i : Nat} (h : (W.cell? ⟨r, i, none⟩).isSome = true) : W.cell? ⟨r, i, none⟩ = some (rc W i) := by
  obtain ⟨v, hv⟩ := Option.isSome_iff_exists.1 h
  rw [hrc, hv]; rfl
theorem some_set {w : World} {x : Addr} (h : (w.cell? x).isSome = true) (p : Addr) (u : Value) : ((w.setCell p u).cell? x).isSome = true := by
  obtain ⟨v, hv⟩ := Option.isSome_iff_exists.1 h
  by_cases e : p = x
  · subst e; rw [World.cell?_setCell_same _ _ _ hv]; rfl
  · rw [World.cell?_setCell_other _ _ _ _ e, hv]; rfl
theorem some_of {α : Type} {o : Option α} {v : α} (h : o = some v) : o.isSome = true := by rw [h]; rfl
theorem drew_heap (W : World) : W.drew.heap = W.heap := rfl
theorem put10 {W : World} {r t : Nat} {z0 z1 z2 z3 z4 z5 z6 z7 z8 z9 : Value} (v0 v1 v2 v3 v4 v5 v6 v7 v8 v9 : Value) (h : W.heap[r]? = some (.cells #[z0, z1, z2, z3, z4, z5, z6, z7, z8, z9] t (0, 0))) :
    (((((((((((W.setCell ⟨r, 0, none⟩ v0).setCell ⟨r, 1, none⟩ v1).setCell ⟨r, 2, none⟩ v2).setCell ⟨r, 3, none⟩ v3).setCell ⟨r, 4, none⟩ v4).setCell ⟨r, 5, none⟩ v5).setCell ⟨r, 6, none⟩ v6).setCell ⟨r, 7, none⟩ v7).setCell ⟨r, 8, none⟩ v8).setCell ⟨r, 9, none⟩ v9)).drew.heap[r]? = some (.cells #[v0, v1, v2, v3, v4, v5, v6, v7, v8, v9] t (0, 0)) := by
  have h_0 := h
  have h_1 := blk_put (cs' := #[v0, z1, z2, z3, z4, z5, z6, z7, z8, z9]) h_0 0 v0 rfl
  have h_2 := blk_put (cs' := #[v0, v1, z2, z3, z4, z5, z6, z7, z8, z9]) h_1 1 v1 rfl
  have h_3 := blk_put (cs' := #[v0, v1, v2, z3, z4, z5, z6, z7, z8, z9]) h_2 2 v2 rfl
  have h_4 := blk_put (cs' := #[v0, v1, v2, v3, z4, z5, z6, z7, z8, z9]) h_3 3 v3 rfl
  have h_5 := blk_put (cs' := #[v0, v1, v2, v3, v4, z5, z6, z7, z8, z9]) h_4 4 v4 rfl
  have h_6 := blk_put (cs' := #[v0, v1, v2, v3, v4, v5, z6, z7, z8, z9]) h_5 5 v5 rfl
  have h_7 := blk_put (cs' := #[v0, v1, v2, v3, v4, v5, v6, z7, z8, z9]) h_6 6 v6 rfl
  have h_8 := blk_put (cs' := #[v0, v1, v2, v3, v4, v5, v6, v7, z8, z9]) h_7 7 v7 rfl
  have h_9 := blk_put (cs' := #[v0, v1, v2, v3, v4, v5, v6, v7, v8, z9]) h_8 8 v8 rfl
  have h_10 := blk_put (cs' := #[v0, v1, v2, v3, v4, v5, v6, v7, v8, v9]) h_9 9 v9 rfl
  rw [drew_heap]
  exact h_10
theorem below10 {w W : World} {r b : Nat} (v0 v1 v2 v3 v4 v5 v6 v7 v8 v9 : Value) (h : Below b w W) (hr : b ≤ r) : Below b w (((((((((((W.setCell ⟨r, 0, none⟩ v0).setCell ⟨r, 1, none⟩ v1).setCell ⟨r, 2, none⟩ v2).setCell ⟨r, 3, none⟩ v3).setCell ⟨r, 4, none⟩ v4).setCell ⟨r, 5, none⟩ v5).setCell ⟨r, 6, none⟩ v6).setCell ⟨r, 7, none⟩ v7).setCell ⟨r, 8, none⟩ v8).setCell ⟨r, 9, none⟩ v9)).drew :=
  pw_below_drewN ((((((((((h.setCell (p := ⟨r, 0, none⟩) hr v0).setCell (p := ⟨r, 1, none⟩) hr v1).setCell (p := ⟨r, 2, none⟩) hr v2).setCell (p := ⟨r, 3, none⟩) hr v3).setCell (p := ⟨r, 4, none⟩) hr v4).setCell (p := ⟨r, 5, none⟩) hr v5).setCell (p := ⟨r, 6, none⟩) hr v6).setCell (p := ⟨r, 7, none⟩) hr v7).setCell (p := ⟨r, 8, none⟩) hr v8).setCell (p := ⟨r, 9, none⟩) hr v9) 1
/-- .. and the kind. -/
structure DQ (w0 W : World) (r g h q : Nat) (A : Option Addr) (c n : Nat) (p e : Int) (cs cq : Array Value) : Prop where
  d : DI w0 W r g h A c n p e cs
  kind : W.heap[q]? = some (.cells cq 47 (0, 0))
  qg : q ≠ g
  qh : q ≠ h
section
variable {w0 W : World} {r g h q : Nat} {A : Option Addr} {c n : Nat} {p e : Int} {cs cq : Array Value}
theorem DQ.then_ {W' : World} (d : DQ w0 W r g h q A c n p e cs cq) (hb : Below W.heap.size W W') : DQ w0 W' r g h q A c n p e cs cq := ⟨d.d.then_ hb, by rw [hb.block q (Array.getElem?_eq_some_iff.1 d.kind).1]; exact d.kind, d.qg, d.qh⟩
theorem DQ.drew (d : DQ w0 W r g h q A c n p e cs cq) : DQ w0 W.drew r g h q A c n p e cs cq := d.then_ (pw_below_drewN (Below.refl _ _) 1)
theorem DQ.step {W' : World} {p' e' : Int} (d : DQ w0 W r g h q A c n p e cs cq) (hr : Rd w0 W' g A c n p' e') (o : Oth g W W') : DQ w0 W' r g h q A c n p' e' cs cq := ⟨d.d.step hr o, o _ _ d.qg d.kind, d.qg, d.qh⟩
theorem DQ.set (d : DQ w0 W r g h q A c n p e cs cq) (j : Nat) (v : Value) (cs' : Array Value) (hc : cs.setIfInBounds j v = cs') : DQ w0 (W.setCell ⟨h, j, none⟩ v) r g h q A c n p e cs' cq := ⟨d.d.set j v cs' hc, blk_far d.kind d.qh v, d.qg, d.qh⟩
end
theorem eachF_err {α : Type} {take : List Int → α × Int × Int} {d : α} {l : List Int} {p e : Int} (h : (eachF take d l p e).2.2 = 0) : e = 0 := by
  apply Classical.byContradiction
  intro hne
  unfold eachF at h
  rw [if_neg hne] at h
  exact hne h
theorem idF_err {k : Int} {l : List Int} {p e : Int} (h : (idF k l p e).2.2 = 0) : e = 0 := by
  unfold idF at h
  split at h
  · exact eachF_err h
  · split at h
    · simp at h
    · exact eachF_err h
theorem results_cell3 {P : Program} {fn : Func} {p u q : Tmp} {ty : TypeId} (h : fn.results = #[.cell p ty, .tmp u, .tmp q]) (tmps : Array Value) (w : World) (g : Nat) (t : TypeId) (cs : Array Value) (fr : Nat × Nat) (d : TypeDesc)
    (hp : tmps.getD p undef = .pointer (some ⟨g, 0, none⟩)) (hg : w.heap[g]? = some (.cells cs t fr))
    (hu : P.underlying ty = some d) (hd : (match d with | .struct _ | .array _ _ => true | _ => false) = true) (hi : (P.info? ty).map (·.size) = some cs.size) :
    (results fn tmps).run P w = .ok (.tuple #[.agg cs, tmps.getD u undef, tmps.getD q undef]) w := by
  have hp' : tmps[p]?.getD undef = .pointer (some ⟨g, 0, none⟩) := by simpa using hp
  simp [results, h, hp', asAddr, run_loadVar_row w g t ty cs fr d hg hu hd hi]
/-- The kind. -/
def kindF (l : List Int) : Int × Int × Int :=
  if (eachF (boundF 14) 0 l 0 0).2.2 = 0 ∧ ¬(1 ≤ (eachF (boundF 14) 0 l 0 0).1 ∧ (eachF (boundF 14) 0 l 0 0).1 ≤ 14) then ((eachF (boundF 14) 0 l 0 0).1, 0, 3) else eachF (boundF 14) 0 l 0 0
/-- Kind, time and fetch. -/
def startF (l : List Int) : Int × Int × Int × Int × Int :=
  let a := kindF l
  let b := eachF (gl 0 0) 0 l a.2.1 a.2.2
  let d := idF a.1 l b.2.1 b.2.2
  (a.1, b.1, d.1, d.2.1, d.2.2)
/-- The texts, one by one. -/
def chT (l : List Int) (s : Int × Int) : Nat → ByteArray × Int × Int
  | 0 => (⟨#[]⟩, s)
  | j + 1 => eachF textF ⟨#[]⟩ l (chT l s j).2.1 (chT l s j).2.2
def txt (l : List Int) (s : Int × Int) (i j : Nat) : ByteArray := if j < i then (chT l s (j + 1)).1 else ⟨#[]⟩
/-- The numbers, one by one. -/
def chN (l : List Int) (k : Int) (s : Int × Int) : Nat → Int × Int × Int
  | 0 => (0, s)
  | j + 1 => if 0 < TN k j then belowF (TN k j) l (chN l k s j).2.1 (chN l k s j).2.2 else (0, (chN l k s j).2)
def num (l : List Int) (k : Int) (s : Int × Int) (i j : Nat) : Int := if j < i then (chN l k s (j + 1)).1 else 0
/-- Where it ends, and how. -/
def endF (n : Nat) (s : Int × Int) : Int × Int := if s.2 = 0 ∧ s.1 < n then (s.1, 8) else s
/-- All of it: what stands behind the fields. -/
def stopF (l : List Int) : Int × Int :=
  let s := startF l
  endF l.length (if s.2.2.2.2 = 0 then (chN l s.1 (chT l s.2.2.2 (T0 s.1).toNat).2 3).2 else s.2.2.2)
/-- The event that is handed back, as cells. -/
def decC (l : List Int) : Array Value :=
  if (stopF l).2 = 0 then
    #[.int .i64 (startF l).1, .int .u64 (startF l).2.1, .int .u64 (startF l).2.2.1,
      .string (txt l (startF l).2.2.2 (T0 (startF l).1).toNat 0), .string (txt l (startF l).2.2.2 (T0 (startF l).1).toNat 1), .string (txt l (startF l).2.2.2 (T0 (startF l).1).toNat 2), .string (txt l (startF l).2.2.2 (T0 (startF l).1).toNat 3),
      .int .i64 (num l (startF l).1 (chT l (startF l).2.2.2 (T0 (startF l).1).toNat).2 3 0), .int .i64 (num l (startF l).1 (chT l (startF l).2.2.2 (T0 (startF l).1).toNat).2 3 1), .int .i64 (num l (startF l).1 (chT l (startF l).2.2.2 (T0 (startF l).1).toNat).2 3 2)]
  else #[.int .i64 0, .int .u64 0, .int .u64 0, .string ⟨#[]⟩, .string ⟨#[]⟩, .string ⟨#[]⟩, .string ⟨#[]⟩, .int .i64 0, .int .i64 0, .int .i64 0]
theorem kindF_ok {l : List Int} (h : (kindF l).2.2 = 0) : 1 ≤ (kindF l).1 ∧ (kindF l).1 ≤ 14 := by
  unfold kindF at h ⊢
  split
  · rename_i z; rw [if_pos z] at h; simp at h
  · rename_i z
    rw [if_neg z] at h
    apply Classical.byContradiction
    intro hne
    exact z ⟨h, hne⟩
theorem textR (l : List Int) (hl : ∀ x ∈ l, 0 ≤ x ∧ x < 256) (hn : l.length ≤ 140737488355328) : ∀ L : List Int, (∀ x ∈ L, x ∈ l) → L.length ≤ l.length → 0 ≤ (textF L).2.1 ∧ (textF L).2.1 ≤ L.length :=
  fun L h1 h2 => textF_range L (fun x hx => hl x (h1 x hx)) (by omega)
theorem chT_range (l : List Int) (hl : ∀ x ∈ l, 0 ≤ x ∧ x < 256) (hn : l.length ≤ 140737488355328) (s : Int × Int) (h0 : 0 ≤ s.1) (h1 : s.1 ≤ l.length) : ∀ j, 0 ≤ (chT l s j).2.1 ∧ (chT l s j).2.1 ≤ l.length
  | 0 => ⟨h0, h1⟩
  | j + 1 => by
    have ih := chT_range l hl hn s h0 h1 j
    exact eachF_range _ _ _ _ _ (textR l hl hn) ih.1 ih.2
theorem belowF_range (m : Int) (l : List Int) (p e : Int) (h0 : 0 ≤ p) (h1 : p ≤ l.length) : 0 ≤ (belowF m l p e).2.1 ∧ (belowF m l p e).2.1 ≤ l.length := by
  unfold belowF
  split
  · exact eachF_range _ _ _ _ _ (fun L _ _ => boundF_range _ L) h0 h1
  · have a := eachF_range (boundF ((m - 1) / 256)) 0 l p e (fun L _ _ => boundF_range _ L) h0 h1
    exact eachF_range _ _ _ _ _ (fun L _ _ => boundF_range _ L) a.1 a.2
theorem chN_range (l : List Int) (k : Int) (s : Int × Int) (h0 : 0 ≤ s.1) (h1 : s.1 ≤ l.length) : ∀ j, 0 ≤ (chN l k s j).2.1 ∧ (chN l k s j).2.1 ≤ l.length
  | 0 => ⟨h0, h1⟩
  | j + 1 => by
    have ih := chN_range l k s h0 h1 j
    rw [chN]
    split
    · exact belowF_range _ _ _ _ ih.1 ih.2
    · exact ih
theorem kindF_range (l : List Int) : 0 ≤ (kindF l).2.1 ∧ (kindF l).2.1 ≤ l.length := by
  unfold kindF
  split
  · simp
  · exact eachF_range _ _ _ _ _ (fun L _ _ => boundF_range _ L) (by omega) (by omega)
theorem idF_range (k : Int) (l : List Int) (p e : Int) (h0 : 0 ≤ p) (h1 : p ≤ l.length) : 0 ≤ (idF k l p e).2.1 ∧ (idF k l p e).2.1 ≤ l.length := by
  unfold idF
  split
  · exact eachF_range _ _ _ _ _ (fun L _ _ => boundF_range _ L) h0 h1
  · split
    · exact ⟨h0, h1⟩
    · exact eachF_range _ _ _ _ _ (fun L _ _ => gl_range L) h0 h1
set_option maxHeartbeats 20000000 in
set_option maxRecDepth 100000 in
theorem decode_calls (l : List Int) (hl : ∀ x ∈ l, 0 ≤ x ∧ x < 256) (hn : l.length ≤ 140737488355328) {w : World} {A : Option Addr} {c : Nat} (hG : Glob w) (hr : Kd.C (Kd.int .u8) w A l.length l) (hc : l.length ≤ c) :
    Calls Tryd.prog 17 #[.slice A l.length c] w fun rr W' => rr = .returned (.tuple #[.agg (decC l), .int .i64 (stopF l).1, .int .i64 (stopF l).2]) ∧ Below w.heap.size w W' := by
  obtain ⟨RV, hRV⟩ : ∃ v : Value, v = (.tuple #[.agg (decC l), .int .i64 (stopF l).1, .int .i64 (stopF l).2]) := ⟨_, rfl⟩
  rw [← hRV]
  have HRV := Aside0.mk hRV
  clear hRV
  have HG := Aside0.mk hG
  have HL := Aside0.mk hl
  have HC := Aside0.mk hr
  clear hG hl hr
  go_enter Tryd.func17, Tryd.ntmps17
  go_wp2_with (fail)
  obtain ⟨r, hrr⟩ : ∃ r, r = w.heap.size := ⟨_, rfl⟩
  obtain ⟨g, hgg⟩ : ∃ g, g = w.heap.size + 1 := ⟨_, rfl⟩
  obtain ⟨h, hhh⟩ : ∃ h, h = w.heap.size + 1 + 1 := ⟨_, rfl⟩
  obtain ⟨W0, hW0⟩ : ∃ W0, W0 = (((w.alloc (Obj.cells #[Value.int IntKind.i64 0, Value.int IntKind.u64 0, Value.int IntKind.u64 0, Value.string { data := #[] }, Value.string { data := #[] }, Value.string { data := #[] }, Value.string { data := #[] }, Value.int IntKind.i64 0, Value.int IntKind.i64 0, Value.int IntKind.i64 0] 24)).alloc (Obj.cells #[Value.slice A l.length c, Value.int IntKind.i64 0, Value.int IntKind.i64 0] 68)).alloc (Obj.cells #[Value.int IntKind.i64 0, Value.int IntKind.u64 0, Value.int IntKind.u64 0, Value.string { data := #[] }, Value.string { data := #[] }, Value.string { data := #[] }, Value.string { data := #[] }, Value.int IntKind.i64 0, Value.int IntKind.i64 0, Value.int IntKind.i64 0] 24)) := ⟨_, rfl⟩
  have hD : DI w W0 r g h A c l.length 0 0 #[Value.int IntKind.i64 0, Value.int IntKind.u64 0, Value.int IntKind.u64 0, Value.string { data := #[] }, Value.string { data := #[] }, Value.string { data := #[] }, Value.string { data := #[] }, Value.int IntKind.i64 0, Value.int IntKind.i64 0, Value.int IntKind.i64 0] := by
    have s1 : ∀ o : Obj, (w.alloc o).heap.size = w.heap.size + 1 := fun o => by simp
    have s2 : ∀ o o2 : Obj, ((w.alloc o).alloc o2).heap.size = w.heap.size + 1 + 1 := fun o o2 => by simp
    rw [hW0]
    refine ⟨⟨below_alloc (below_alloc (below_alloc (Below.refl _ _) _) _) _, by omega, ?_⟩, ?_, ?_, by omega, by omega, by omega, by omega⟩
    · rw [hgg, ← s1]; exact blk_alloc (blk_new _ _) _
    · rw [hhh, ← s2]; exact blk_new _ _
    · rw [hrr]; exact blk_alloc (blk_alloc (blk_new _ _) _) _
  rw [← hW0, ← hhh, ← hgg, ← hrr]
  have HD := Aside0.mk hD
  clear hD hW0 hhh hgg
  have HRR := Aside0.mk hrr
  clear hrr
  obtain ⟨s1, hs1⟩ : ∃ s, s = eachF (boundF 14) 0 l 0 0 := ⟨_, rfl⟩
  have hv := eachB_val 14 l 0 0 HL.out
  have hkf : kindF l = if s1.2.2 = 0 ∧ ¬(1 ≤ s1.1 ∧ s1.1 ≤ 14) then (s1.1, 0, 3) else s1 := by unfold kindF; rw [← hs1]
  rw [← hs1] at hv
  obtain ⟨k, p1, e1⟩ := s1
  simp only at hv hkf
  have HS1 := Aside0.mk hs1
  have HKF := Aside0.mk hkf
  clear hs1 hkf
  refine Calls.mono (by have t_ := eachI_calls 14 l HL.out hn HC.out hc HD.out.rd (by omega) (by omega); rw [← HS1.out] at t_; exact t_) ?_
  rintro rr W1 ⟨rfl, h2, o2⟩
  have D1 := Aside0.mk (HD.out.step h2 o2)
  clear h2 o2 HD
  have f0 : W1.frozen? ⟨h, 0, none⟩ = false := blk_frozen D1.out.ev 0
  have x0 : W1.cell? ⟨h, 0, none⟩ = some (.int .i64 0) := blk_cell D1.out.ev 0
  have y2 : W1.cell? ⟨g, 2, none⟩ = some (.int .i64 e1) := D1.out.rd.c2
  obtain ⟨W2, hW2⟩ : ∃ W2, W2 = W1.setCell ⟨h, 0, none⟩ (.int .i64 k) := ⟨_, rfl⟩
  have D2 := Aside0.mk (show DI w W2 r g h A c l.length p1 e1 #[Value.int IntKind.i64 k, Value.int IntKind.u64 0, Value.int IntKind.u64 0, Value.string { data := #[] }, Value.string { data := #[] }, Value.string { data := #[] }, Value.string { data := #[] }, Value.int IntKind.i64 0, Value.int IntKind.i64 0, Value.int IntKind.i64 0] from by rw [hW2]; exact D1.out.set 0 _ _ rfl)
  go_upto_region 4 with (fail)
  rw [← hW2]
  clear hW2 f0 x0 y2 D1
  have y2 : W2.cell? ⟨g, 2, none⟩ = some (.int .i64 e1) := D2.out.rd.c2
  have x0 : W2.cell? ⟨h, 0, none⟩ = some (.int .i64 k) := blk_cell D2.out.ev 0
  obtain ⟨b1, hb1⟩ : ∃ b, b = decide (e1 = 0 ∧ ¬(1 ≤ k ∧ k ≤ 14)) := ⟨_, rfl⟩
  have HB1 := Aside0.mk hb1
  clear hb1
  go_cut [29] from 12 (fun v29 wc => v29 = .bool b1 ∧ wc = W2)
  case first =>
    by_cases he : e1 = 0
    · subst he
      obtain ⟨kn, hkn⟩ : ∃ kn, (decide (1 ≤ k) && decide (k ≤ 14)) = kn := ⟨_, rfl⟩
      have hb : b1 = !kn := by rw [HB1.out, ← hkn]; by_cases u : 1 ≤ k <;> by_cases v : k ≤ 14 <;> simp [u, v]
      go_wp2_with (fail)
      refine (known_calls k _).mono ?_
      rw [hkn]
      rintro rr W3 ⟨rfl, rfl⟩
      go_wp2
      go_meet
      case rel => exact ⟨by rw [hb], rfl⟩
    · have hb : b1 = false := by rw [HB1.out]; simp [he]
      have he' : (e1 == 0) = false := by simpa using he
      go_wp2
      go_meet
      case rel => exact ⟨by rw [hb], rfl⟩
  case rest =>
    obtain ⟨rfl, rfl⟩ := hcut
    go_upto_if 29 with (fail)
    have hkr := kindF_range l
    obtain ⟨⟨K, q1, f1⟩, hKK⟩ : ∃ s, s = kindF l := ⟨_, rfl⟩
    rw [← hKK] at hkr
    have HKK := Aside0.mk hKK
    have hKk : K = k := by
      have h_ := hKK.trans HKF.out
      by_cases u : e1 = 0 ∧ ¬(1 ≤ k ∧ k ≤ 14)
      · rw [if_pos u] at h_; exact congrArg Prod.fst h_
      · rw [if_neg u] at h_; exact congrArg Prod.fst h_
    clear hKK
    simp only at hkr
    obtain ⟨hq0, hq1⟩ := hkr
    go_cut [] from 12 (fun wc' => Aside0 (DI w wc' r g h A c l.length q1 f1 #[Value.int IntKind.i64 k, Value.int IntKind.u64 0, Value.int IntKind.u64 0, Value.string { data := #[] }, Value.string { data := #[] }, Value.string { data := #[] }, Value.string { data := #[] }, Value.int IntKind.i64 0, Value.int IntKind.i64 0, Value.int IntKind.i64 0]))
    case first =>
      by_cases hb : e1 = 0 ∧ ¬(1 ≤ k ∧ k ≤ 14)
      · have hb' : b1 = true := by rw [HB1.out]; exact decide_eq_true hb
        have hz := HKK.out.trans (HKF.out.trans (if_pos hb))
        obtain ⟨rfl, rfl, rfl⟩ : K = k ∧ q1 = 0 ∧ f1 = 3 := by simpa using hz
        subst hb'
        have he := hb.1
        subst he
        clear hb hz
        go_wp2_with (fail)
        refine (fail_calls 0 3 D2.out.rd).mono ?_
        rintro rr W3 ⟨⟨v, rfl⟩, h3, o3⟩
        have D3 := Aside0.mk (D2.out.step (by simpa using h3) o3)
        clear h3 o3
        go_wp2
        go_meet
        case rel => exact D3
      · have hb' : b1 = false := by rw [HB1.out]; exact decide_eq_false hb
        have hz := HKK.out.trans (HKF.out.trans (if_neg hb))
        obtain ⟨rfl, rfl, rfl⟩ : K = k ∧ q1 = p1 ∧ f1 = e1 := by simpa using hz
        subst hb'
        clear hb hz
        go_wp2
        go_meet
        case rel => exact D2
    case rest =>
      subst hKk
      have D3 := Aside0.mk hcut.out
      clear hcut D2 y2 x0 HB1 HKF HS1 hv
      obtain ⟨⟨T, q2, f2⟩, hT⟩ : ∃ s, s = eachF (gl 0 0) 0 l q1 f1 := ⟨_, rfl⟩
      have hr2 := eachF_range (gl 0 0) (0 : Int) l q1 f1 (fun L _ _ => gl_range L) hq0 hq1
      rw [← hT] at hr2
      obtain ⟨hq2, hq3⟩ := hr2
      simp only at hq2 hq3
      obtain ⟨⟨I, q3, f3⟩, hI⟩ : ∃ s, s = idF K l q2 f2 := ⟨_, rfl⟩
      have hr3 := idF_range K l q2 f2 hq2 hq3
      rw [← hI] at hr3
      obtain ⟨hq4, hq5⟩ := hr3
      simp only at hq4 hq5
      have HT := Aside0.mk hT
      have HI := Aside0.mk hI
      clear hT hI
      go_wp2_with (fail)
      refine Calls.mono (by have t_ := eachU_calls l HL.out hn HC.out hc D3.out.rd hq0 hq1; rw [← HT.out] at t_; exact t_) ?_
      rintro rr W4 ⟨rfl, h4, o4⟩
      have D4 := Aside0.mk (D3.out.step h4 o4)
      clear h4 o4 D3
      have z1 : W4.frozen? ⟨h, 1, none⟩ = false := blk_frozen D4.out.ev 1
      have z2 : W4.cell? ⟨h, 1, none⟩ = some (.int .u64 0) := blk_cell D4.out.ev 1
      have z3 : W4.cell? ⟨h, 0, none⟩ = some (.int .i64 K) := blk_cell D4.out.ev 0
      obtain ⟨W5, hW5⟩ : ∃ W5, W5 = W4.setCell ⟨h, 1, none⟩ (.int .u64 T) := ⟨_, rfl⟩
      have D5 := Aside0.mk (show DI w W5 r g h A c l.length q2 f2 #[Value.int IntKind.i64 K, Value.int IntKind.u64 T, Value.int IntKind.u64 0, Value.string { data := #[] }, Value.string { data := #[] }, Value.string { data := #[] }, Value.string { data := #[] }, Value.int IntKind.i64 0, Value.int IntKind.i64 0, Value.int IntKind.i64 0] from by rw [hW5]; exact D4.out.set 1 _ _ rfl)
      go_wp2_with (fail)
      rw [← hW5]
      clear hW5 z1 z2 z3 D4
      refine Calls.mono (by have t_ := id_calls K l HL.out hn HC.out hc D5.out.rd hq2 hq3; rw [← HI.out] at t_; exact t_) ?_
      rintro rr W6 ⟨rfl, h6, o6⟩
      have D6 := Aside0.mk (D5.out.step h6 o6)
      clear h6 o6 D5
      have z1 : W6.frozen? ⟨h, 2, none⟩ = false := blk_frozen D6.out.ev 2
      have z2 : W6.cell? ⟨h, 2, none⟩ = some (.int .u64 0) := blk_cell D6.out.ev 2
      have z4 : W6.cell? ⟨g, 2, none⟩ = some (.int .i64 f3) := D6.out.rd.c2
      obtain ⟨W7, hW7⟩ : ∃ W7, W7 = W6.setCell ⟨h, 2, none⟩ (.int .u64 I) := ⟨_, rfl⟩
      have D7 := Aside0.mk (show DI w W7 r g h A c l.length q3 f3 #[Value.int IntKind.i64 K, Value.int IntKind.u64 T, Value.int IntKind.u64 I, Value.string { data := #[] }, Value.string { data := #[] }, Value.string { data := #[] }, Value.string { data := #[] }, Value.int IntKind.i64 0, Value.int IntKind.i64 0, Value.int IntKind.i64 0] from by rw [hW7]; exact D6.out.set 2 _ _ rfl)
      go_upto_region 8 with (fail)
      rw [← hW7]
      clear hW7 z1 z2 z4 D6
      have z4 : W7.cell? ⟨g, 2, none⟩ = some (.int .i64 f3) := D7.out.rd.c2
      have z3 : W7.cell? ⟨h, 0, none⟩ = some (.int .i64 K) := blk_cell D7.out.ev 0
      obtain ⟨s, hs⟩ : ∃ s : Int × Int, s = (q3, f3) := ⟨_, rfl⟩
      have HS := Aside0.mk hs
      clear hs
      go_upto_if 44 with (fail)
      go_cut [] from 12 (fun wc' => Aside0 (DI w wc' r g h A c l.length (if f3 = 0 then (chN l K (chT l s (T0 K).toNat).2 3).2 else s).1 (if f3 = 0 then (chN l K (chT l s (T0 K).toNat).2 3).2 else s).2 (if f3 = 0 then #[Value.int IntKind.i64 K, Value.int IntKind.u64 T, Value.int IntKind.u64 I, .string (txt l s (T0 K).toNat 0), .string (txt l s (T0 K).toNat 1), .string (txt l s (T0 K).toNat 2), .string (txt l s (T0 K).toNat 3), .int .i64 (num l K (chT l s (T0 K).toNat).2 3 0), .int .i64 (num l K (chT l s (T0 K).toNat).2 3 1), .int .i64 (num l K (chT l s (T0 K).toNat).2 3 2)] else #[Value.int IntKind.i64 K, Value.int IntKind.u64 T, Value.int IntKind.u64 I, Value.string { data := #[] }, Value.string { data := #[] }, Value.string { data := #[] }, Value.string { data := #[] }, Value.int IntKind.i64 0, Value.int IntKind.i64 0, Value.int IntKind.i64 0])))
      case first =>
        by_cases hf : f3 = 0
        · subst hf
          have hf2 : f2 = 0 := idF_err (by rw [← HI.out])
          subst hf2
          have hf1 : f1 = 0 := eachF_err (by rw [← HT.out])
          subst hf1
          have hk := kindF_ok (l := l) (by rw [← HKK.out])
          rw [← HKK.out] at hk
          obtain ⟨hk0, hk1⟩ := hk
          have hk0 : 1 ≤ K := hk0
          have hk1 : K ≤ 14 := hk1
          have hk2 : 0 ≤ K := by omega
          have hk3 : K < 15 := by omega
          have hs0 : 0 ≤ s.1 := by rw [HS.out]; exact hq4
          have hs1 : s.1 ≤ l.length := by rw [HS.out]; exact hq5
          obtain ⟨hT0, hT1, hN⟩ := kind_range K hk0 hk1
          obtain ⟨g0, g1, g2, g3⟩ := (HG.out.below D7.out.rd.below).kind K hk0 hk1
          obtain ⟨N0, hN0⟩ : ∃ v, TN K 0 = v := ⟨_, rfl⟩
          obtain ⟨N1, hN1⟩ : ∃ v, TN K 1 = v := ⟨_, rfl⟩
          obtain ⟨N2, hN2⟩ : ∃ v, TN K 2 = v := ⟨_, rfl⟩
          obtain ⟨TT, hTT⟩ := Int.eq_ofNat_of_zero_le hT0
          have r0 := (hN 0 (by omega)).2
          have r1 := (hN 1 (by omega)).2
          have r2 := (hN 2 (by omega)).2
          rw [hTT] at g0 hT1
          rw [hN0] at g1 r0
          rw [hN1] at g2 r1
          rw [hN2] at g3 r2
          have NB0 := Aside0.mk r0
          have NB1 := Aside0.mk r1
          have NB2 := Aside0.mk r2
          have TN0 := Aside0.mk hN0
          have TN1 := Aside0.mk hN1
          have TN2 := Aside0.mk hN2
          have HTT := Aside0.mk hTT
          have HZ := Aside0.mk (show T0 K = (TT : Int) from hTT)
          clear r0 r1 r2 hN0 hN1 hN2 hTT hT0 hN
          obtain ⟨q, hq⟩ : ∃ q, q = W7.heap.size := ⟨_, rfl⟩
          obtain ⟨cq, hcq⟩ : ∃ cq : Array Value, cq = #[.int .i64 TT, .int .i64 N0, .int .i64 N1, .int .i64 N2] := ⟨_, rfl⟩
          obtain ⟨W8, hW8⟩ : ∃ W8, W8 = W7.alloc (Obj.cells #[.int .i64 TT, .int .i64 N0, .int .i64 N1, .int .i64 N2] 47) := ⟨_, rfl⟩
          have hQ : DQ w W8 r g h q A c l.length q3 0 #[Value.int IntKind.i64 K, Value.int IntKind.u64 T, Value.int IntKind.u64 I, .string (txt l s 0 0), .string (txt l s 0 1), .string (txt l s 0 2), .string (txt l s 0 3), .int .i64 0, .int .i64 0, .int .i64 0] cq := by
            have gl_ := (Array.getElem?_eq_some_iff.1 D7.out.rd.rd).1
            have hl_ := (Array.getElem?_eq_some_iff.1 D7.out.ev).1
            refine ⟨?_, by rw [hW8, hcq, hq]; exact blk_new _ _, by omega, by omega⟩
            rw [hW8]
            have e_ := D7.out.alloc (Obj.cells #[.int .i64 TT, .int .i64 N0, .int .i64 N1, .int .i64 N2] 47)
            simpa [txt] using e_
          go_upto_region 10 with (fail)
          rw [← hW8, ← hq]
          have Q8 := Aside0.mk hQ
          have CQ := Aside0.mk hcq
          clear hQ hcq hW8 hq g0 g1 g2 g3 z4 z3 D7
          have q0 : W8.cell? ⟨q, 0, none⟩ = some (.int .i64 TT) := by rw [blk_cell Q8.out.kind 0, CQ.out]; rfl
          go_region_held3 (fun W' => W'.cell? ⟨q, 0, none⟩ = some (.int .i64 TT) ∧ DQ w W' r g h q A c l.length q3 0 #[Value.int IntKind.i64 K, Value.int IntKind.u64 T, Value.int IntKind.u64 I, .string (txt l s 0 0), .string (txt l s 0 1), .string (txt l s 0 2), .string (txt l s 0 3), .int .i64 0, .int .i64 0, .int .i64 0] cq) (first | exact ⟨q0, DQ.drew Q8.out⟩ | exact ⟨by rw [blk_cell (DQ.kind hQ9) 0, CQ.out]; rfl, hQ9⟩ | exact ⟨by rw [blk_cell (DQ.kind (DQ.drew hQ9)) 0, CQ.out]; rfl, DQ.drew hQ9⟩) (first | (go_at_call 20; refine (texts_w h _).mono ?_; rintro e w4 ⟨p, rfl, hp4, hB4⟩; have hQ9 := DQ.then_ (by first | exact DQ.drew Q8.out | exact Q8.out) hB4))
          rename_i hHeld_
          clear hHeld_ q0
          have Q9 := Aside0.mk hQ9
          have HP9 := Aside0.mk hp4
          have PG := Aside0.mk (blk_ne hp4 hQ9.d.rd.rd (by decide) : p ≠ g)
          have PH := Aside0.mk (blk_ne hp4 hQ9.d.ev (by decide) : p ≠ h)
          clear hQ9 hp4 hB4 Q8
          go_wp2
          go_loopg [54] TT (fun m v54 w' => ∃ i : Nat, v54 = .int .i64 i ∧ i + m = TT ∧ Aside0 (DQ w w' r g h q A c l.length (chT l s i).2.1 (chT l s i).2.2 #[Value.int IntKind.i64 K, Value.int IntKind.u64 T, Value.int IntKind.u64 I, .string (txt l s i 0), .string (txt l s i 1), .string (txt l s i 2), .string (txt l s i 3), .int .i64 0, .int .i64 0, .int .i64 0] cq) ∧ Aside0 (w'.heap[p]? = some (.cells #[.pointer (some ⟨h, 3, none⟩), .pointer (some ⟨h, 4, none⟩), .pointer (some ⟨h, 5, none⟩), .pointer (some ⟨h, 6, none⟩)] 53 (0, 0))))
          case atStart => exact ⟨0, rfl, by omega, ⟨by have e_ := Q9.out; simp only [chT]; rw [HS.out] at e_ ⊢; exact e_⟩, HP9⟩
          case round =>
            obtain ⟨i, rfl, hm, DL, HP⟩ := hrel
            clear Q9 HP9
            by_cases hi : i < TT
            · have : i = 0 ∨ i = 1 ∨ i = 2 ∨ i = 3 := by omega
              rcases this with rfl | rfl | rfl | rfl
              · have u1 : wr.cell? ⟨p, 0, none⟩ = some (.pointer (some ⟨h, 3, none⟩)) := blk_cell HP.out 0
                have rg_ := chT_range l HL.out hn s hs0 hs1 0
                go_wp2_with (fail)
                refine (eachS_calls l HL.out hn HC.out hc DL.out.d.rd rg_.1 rg_.2).mono ?_
                rintro rr W12 ⟨rfl, h12, o12⟩
                have D12 := Aside0.mk (DL.out.step h12 o12)
                have HP12 := Aside0.mk (o12 _ _ (PG.out) HP.out)
                clear h12 o12 u1 rg_
                have f_ : W12.frozen? ⟨h, 3, none⟩ = false := blk_frozen D12.out.d.ev 3
                have x_ : W12.cell? ⟨h, 3, none⟩ = some (.string (txt l s 0 0)) := blk_cell D12.out.d.ev 3
                go_wp2
                go_roundg (gk - 1)
                case measure => omega
                case rel => exact ⟨1, by go_num, by omega, ⟨D12.out.set 3 _ _ (by simp [txt, chT])⟩, ⟨blk_far HP12.out PH.out _⟩⟩
              · have u1 : wr.cell? ⟨p, 1, none⟩ = some (.pointer (some ⟨h, 4, none⟩)) := blk_cell HP.out 1
                have rg_ := chT_range l HL.out hn s hs0 hs1 1
                go_wp2_with (fail)
                refine (eachS_calls l HL.out hn HC.out hc DL.out.d.rd rg_.1 rg_.2).mono ?_
                rintro rr W12 ⟨rfl, h12, o12⟩
                have D12 := Aside0.mk (DL.out.step h12 o12)
                have HP12 := Aside0.mk (o12 _ _ (PG.out) HP.out)
                clear h12 o12 u1 rg_
                have f_ : W12.frozen? ⟨h, 4, none⟩ = false := blk_frozen D12.out.d.ev 4
                have x_ : W12.cell? ⟨h, 4, none⟩ = some (.string (txt l s 1 1)) := blk_cell D12.out.d.ev 4
                go_wp2
                go_roundg (gk - 1)
                case measure => omega
                case rel => exact ⟨2, by go_num, by omega, ⟨D12.out.set 4 _ _ (by simp [txt, chT])⟩, ⟨blk_far HP12.out PH.out _⟩⟩
              · have u1 : wr.cell? ⟨p, 2, none⟩ = some (.pointer (some ⟨h, 5, none⟩)) := blk_cell HP.out 2
                have rg_ := chT_range l HL.out hn s hs0 hs1 2
                go_wp2_with (fail)
                refine (eachS_calls l HL.out hn HC.out hc DL.out.d.rd rg_.1 rg_.2).mono ?_
                rintro rr W12 ⟨rfl, h12, o12⟩
                have D12 := Aside0.mk (DL.out.step h12 o12)
                have HP12 := Aside0.mk (o12 _ _ (PG.out) HP.out)
                clear h12 o12 u1 rg_
                have f_ : W12.frozen? ⟨h, 5, none⟩ = false := blk_frozen D12.out.d.ev 5
                have x_ : W12.cell? ⟨h, 5, none⟩ = some (.string (txt l s 2 2)) := blk_cell D12.out.d.ev 5
                go_wp2
                go_roundg (gk - 1)
                case measure => omega
                case rel => exact ⟨3, by go_num, by omega, ⟨D12.out.set 5 _ _ (by simp [txt, chT])⟩, ⟨blk_far HP12.out PH.out _⟩⟩
              · have u1 : wr.cell? ⟨p, 3, none⟩ = some (.pointer (some ⟨h, 6, none⟩)) := blk_cell HP.out 3
                have rg_ := chT_range l HL.out hn s hs0 hs1 3
                go_wp2_with (fail)
                refine (eachS_calls l HL.out hn HC.out hc DL.out.d.rd rg_.1 rg_.2).mono ?_
                rintro rr W12 ⟨rfl, h12, o12⟩
                have D12 := Aside0.mk (DL.out.step h12 o12)
                have HP12 := Aside0.mk (o12 _ _ (PG.out) HP.out)
                clear h12 o12 u1 rg_
                have f_ : W12.frozen? ⟨h, 6, none⟩ = false := blk_frozen D12.out.d.ev 6
                have x_ : W12.cell? ⟨h, 6, none⟩ = some (.string (txt l s 3 3)) := blk_cell D12.out.d.ev 6
                go_wp2
                go_roundg (gk - 1)
                case measure => omega
                case rel => exact ⟨4, by go_num, by omega, ⟨D12.out.set 6 _ _ (by simp [txt, chT])⟩, ⟨blk_far HP12.out PH.out _⟩⟩
            · obtain rfl : i = TT := by omega
              have D10 := DL
              clear DL HP PG PH hm hi
              go_wp2_with (fail)
              refine (numbers_w h _).mono ?_
              rintro rr W11 ⟨p2, rfl, hp11, hB11⟩
              have Q11 := Aside0.mk (DQ.then_ D10.out hB11)
              have HP11 := Aside0.mk hp11
              have PG2 := Aside0.mk (blk_ne hp11 Q11.out.d.rd.rd (by decide) : p2 ≠ g)
              have PH2 := Aside0.mk (blk_ne hp11 Q11.out.d.ev (by decide) : p2 ≠ h)
              clear hp11 hB11 D10
              have rgs := chT_range l HL.out hn s hs0 hs1 i
              obtain ⟨s2, hs2_⟩ : ∃ s2, s2 = (chT l s i).2 := ⟨_, rfl⟩
              have Q12 := Q11.out
              rw [← hs2_] at Q12 rgs
              obtain ⟨hs2, hs3⟩ := rgs
              have HS2 := Aside0.mk hs2_
              have Q11 := Aside0.mk Q12
              clear Q12 hs2_
              go_wp2
              go_loopg [65] 3 (fun m v65 w' => ∃ j : Nat, v65 = .int .i64 j ∧ j + m = 3 ∧ Aside0 (DQ w w' r g h q A c l.length (chN l K s2 j).2.1 (chN l K s2 j).2.2 #[Value.int IntKind.i64 K, Value.int IntKind.u64 T, Value.int IntKind.u64 I, .string (txt l s i 0), .string (txt l s i 1), .string (txt l s i 2), .string (txt l s i 3), .int .i64 (num l K s2 j 0), .int .i64 (num l K s2 j 1), .int .i64 (num l K s2 j 2)] cq) ∧ Aside0 (w'.heap[p2]? = some (.cells #[.pointer (some ⟨h, 7, none⟩), .pointer (some ⟨h, 8, none⟩), .pointer (some ⟨h, 9, none⟩)] 57 (0, 0))))
              case atStart => exact ⟨0, rfl, by omega, ⟨by simpa [num, chN] using Q11.out⟩, HP11⟩
              case round =>
                obtain ⟨j, rfl, hm, DL, HP⟩ := hrel
                clear Q11 HP11
                by_cases hj : j < 3
                · have : j = 0 ∨ j = 1 ∨ j = 2 := by omega
                  rcases this with rfl | rfl | rfl
                  · have u1 : wr.cell? ⟨p2, 0, none⟩ = some (.pointer (some ⟨h, 7, none⟩)) := blk_cell HP.out 0
                    have u2 : wr.cell? ⟨q, 1, none⟩ = some (.int .i64 N0) := by rw [blk_cell DL.out.kind 1, CQ.out]; rfl
                    have rg_ := chN_range l K s2 hs2 hs3 0
                    have tn_ : TN K 0 = N0 := TN0.out
                    by_cases hN : 0 < N0
                    · have step_ : chN l K s2 1 = belowF N0 l (chN l K s2 0).2.1 (chN l K s2 0).2.2 := by show (if 0 < TN K 0 then belowF (TN K 0) l (chN l K s2 0).2.1 (chN l K s2 0).2.2 else (0, (chN l K s2 0).2)) = _; rw [tn_, if_pos hN]
                      have STEP := Aside0.mk step_
                      clear step_ tn_
                      go_wp2_with (fail)
                      refine Calls.mono (by have t_ := below_calls N0 hN (NB0.out) l HL.out hn HC.out hc DL.out.d.rd rg_.1 rg_.2; rw [← STEP.out] at t_; exact t_) ?_
                      rintro rr W14 ⟨rfl, h14, o14⟩
                      have D14 := Aside0.mk (DL.out.step h14 o14)
                      have HP14 := Aside0.mk (o14 _ _ (PG2.out) HP.out)
                      clear h14 o14 u1 u2 rg_
                      have f_ : W14.frozen? ⟨h, 7, none⟩ = false := blk_frozen D14.out.d.ev 7
                      have x_ : W14.cell? ⟨h, 7, none⟩ = some (.int .i64 (num l K s2 0 0)) := blk_cell D14.out.d.ev 7
                      go_wp2
                      go_roundg (gk - 1)
                      case measure => omega
                      case rel => exact ⟨1, by go_num, by omega, ⟨D14.out.set 7 _ _ (by simp [num])⟩, ⟨blk_far HP14.out PH2.out _⟩⟩
                    · have step_ : chN l K s2 1 = (0, (chN l K s2 0).2) := by show (if 0 < TN K 0 then belowF (TN K 0) l (chN l K s2 0).2.1 (chN l K s2 0).2.2 else (0, (chN l K s2 0).2)) = _; rw [tn_, if_neg hN]
                      have STEP := Aside0.mk step_
                      clear step_ tn_
                      go_wp2
                      go_roundg (gk - 1)
                      case measure => omega
                      case rel =>
                        refine ⟨1, by go_num, by omega, ⟨?_⟩, HP⟩
                        have e_ := DL.out
                        rw [STEP.out]
                        simp only [num, STEP.out] at e_ ⊢
                        simpa using e_
                  · have u1 : wr.cell? ⟨p2, 1, none⟩ = some (.pointer (some ⟨h, 8, none⟩)) := blk_cell HP.out 1
                    have u2 : wr.cell? ⟨q, 2, none⟩ = some (.int .i64 N1) := by rw [blk_cell DL.out.kind 2, CQ.out]; rfl
                    have rg_ := chN_range l K s2 hs2 hs3 1
                    have tn_ : TN K 1 = N1 := TN1.out
                    by_cases hN : 0 < N1
                    · have step_ : chN l K s2 2 = belowF N1 l (chN l K s2 1).2.1 (chN l K s2 1).2.2 := by show (if 0 < TN K 1 then belowF (TN K 1) l (chN l K s2 1).2.1 (chN l K s2 1).2.2 else (0, (chN l K s2 1).2)) = _; rw [tn_, if_pos hN]
                      have STEP := Aside0.mk step_
                      clear step_ tn_
                      go_wp2_with (fail)
                      refine Calls.mono (by have t_ := below_calls N1 hN (NB1.out) l HL.out hn HC.out hc DL.out.d.rd rg_.1 rg_.2; rw [← STEP.out] at t_; exact t_) ?_
                      rintro rr W14 ⟨rfl, h14, o14⟩
                      have D14 := Aside0.mk (DL.out.step h14 o14)
                      have HP14 := Aside0.mk (o14 _ _ (PG2.out) HP.out)
                      clear h14 o14 u1 u2 rg_
                      have f_ : W14.frozen? ⟨h, 8, none⟩ = false := blk_frozen D14.out.d.ev 8
                      have x_ : W14.cell? ⟨h, 8, none⟩ = some (.int .i64 (num l K s2 1 1)) := blk_cell D14.out.d.ev 8
                      go_wp2
                      go_roundg (gk - 1)
                      case measure => omega
                      case rel => exact ⟨2, by go_num, by omega, ⟨D14.out.set 8 _ _ (by simp [num])⟩, ⟨blk_far HP14.out PH2.out _⟩⟩
                    · have step_ : chN l K s2 2 = (0, (chN l K s2 1).2) := by show (if 0 < TN K 1 then belowF (TN K 1) l (chN l K s2 1).2.1 (chN l K s2 1).2.2 else (0, (chN l K s2 1).2)) = _; rw [tn_, if_neg hN]
                      have STEP := Aside0.mk step_
                      clear step_ tn_
                      go_wp2
                      go_roundg (gk - 1)
                      case measure => omega
                      case rel =>
                        refine ⟨2, by go_num, by omega, ⟨?_⟩, HP⟩
                        have e_ := DL.out
                        rw [STEP.out]
                        simp only [num, STEP.out] at e_ ⊢
                        simpa using e_
                  · have u1 : wr.cell? ⟨p2, 2, none⟩ = some (.pointer (some ⟨h, 9, none⟩)) := blk_cell HP.out 2
                    have u2 : wr.cell? ⟨q, 3, none⟩ = some (.int .i64 N2) := by rw [blk_cell DL.out.kind 3, CQ.out]; rfl
                    have rg_ := chN_range l K s2 hs2 hs3 2
                    have tn_ : TN K 2 = N2 := TN2.out
                    by_cases hN : 0 < N2
                    · have step_ : chN l K s2 3 = belowF N2 l (chN l K s2 2).2.1 (chN l K s2 2).2.2 := by show (if 0 < TN K 2 then belowF (TN K 2) l (chN l K s2 2).2.1 (chN l K s2 2).2.2 else (0, (chN l K s2 2).2)) = _; rw [tn_, if_pos hN]
                      have STEP := Aside0.mk step_
                      clear step_ tn_
                      go_wp2_with (fail)
                      refine Calls.mono (by have t_ := below_calls N2 hN (NB2.out) l HL.out hn HC.out hc DL.out.d.rd rg_.1 rg_.2; rw [← STEP.out] at t_; exact t_) ?_
                      rintro rr W14 ⟨rfl, h14, o14⟩
                      have D14 := Aside0.mk (DL.out.step h14 o14)
                      have HP14 := Aside0.mk (o14 _ _ (PG2.out) HP.out)
                      clear h14 o14 u1 u2 rg_
                      have f_ : W14.frozen? ⟨h, 9, none⟩ = false := blk_frozen D14.out.d.ev 9
                      have x_ : W14.cell? ⟨h, 9, none⟩ = some (.int .i64 (num l K s2 2 2)) := blk_cell D14.out.d.ev 9
                      go_wp2
                      go_roundg (gk - 1)
                      case measure => omega
                      case rel => exact ⟨3, by go_num, by omega, ⟨D14.out.set 9 _ _ (by simp [num])⟩, ⟨blk_far HP14.out PH2.out _⟩⟩
                    · have step_ : chN l K s2 3 = (0, (chN l K s2 2).2) := by show (if 0 < TN K 2 then belowF (TN K 2) l (chN l K s2 2).2.1 (chN l K s2 2).2.2 else (0, (chN l K s2 2).2)) = _; rw [tn_, if_neg hN]
                      have STEP := Aside0.mk step_
                      clear step_ tn_
                      go_wp2
                      go_roundg (gk - 1)
                      case measure => omega
                      case rel =>
                        refine ⟨3, by go_num, by omega, ⟨?_⟩, HP⟩
                        have e_ := DL.out
                        rw [STEP.out]
                        simp only [num, STEP.out] at e_ ⊢
                        simpa using e_
                · obtain rfl : j = 3 := by omega
                  go_wp2
                  go_meet
                  case rel =>
                    have ez_ : (T0 K).toNat = i := by rw [HZ.out]; rfl
                    simp only [if_true]
                    rw [ez_, ← HS2.out]
                    exact ⟨DL.out.d⟩
        · have hf' : (f3 == 0) = false := by simpa using hf
          go_wp2
          go_meet
          case rel =>
            rw [if_neg hf, if_neg hf, HS.out]
            exact D7
      case rest =>
        have D8 := Aside0.mk hcut.out
        clear hcut D7 z3 z4
        obtain ⟨⟨P, E⟩, hPE⟩ : ∃ x : Int × Int, x = (if f3 = 0 then (chN l K (chT l s (T0 K).toNat).2 3).2 else s) := ⟨_, rfl⟩
        obtain ⟨cs, hcs⟩ : ∃ x : Array Value, x = (if f3 = 0 then #[Value.int IntKind.i64 K, Value.int IntKind.u64 T, Value.int IntKind.u64 I, .string (txt l s (T0 K).toNat 0), .string (txt l s (T0 K).toNat 1), .string (txt l s (T0 K).toNat 2), .string (txt l s (T0 K).toNat 3), .int .i64 (num l K (chT l s (T0 K).toNat).2 3 0), .int .i64 (num l K (chT l s (T0 K).toNat).2 3 1), .int .i64 (num l K (chT l s (T0 K).toNat).2 3 2)] else #[Value.int IntKind.i64 K, Value.int IntKind.u64 T, Value.int IntKind.u64 I, Value.string { data := #[] }, Value.string { data := #[] }, Value.string { data := #[] }, Value.string { data := #[] }, Value.int IntKind.i64 0, Value.int IntKind.i64 0, Value.int IntKind.i64 0]) := ⟨_, rfl⟩
        have D9 := D8.out
        rw [← hPE, ← hcs] at D9
        have D8 := Aside0.mk D9
        have HPE := Aside0.mk hPE
        have HCS := Aside0.mk hcs
        clear D9 hPE hcs
        simp only at D8
        have y1 : wc.cell? ⟨g, 1, none⟩ = some (.int .i64 P) := D8.out.rd.c1
        have y2 : wc.cell? ⟨g, 2, none⟩ = some (.int .i64 E) := D8.out.rd.c2
        obtain ⟨b2, hb2⟩ : ∃ b, b = decide (E = 0 ∧ P < l.length) := ⟨_, rfl⟩
        have HB2 := Aside0.mk hb2
        clear hb2
        go_upto_region 21 with (fail)
        go_cut [97] from 12 (fun v97 wc' => v97 = .bool b2 ∧ wc' = wc)
        case first =>
          by_cases he : E = 0
          · subst he
            have hb : b2 = decide (P < l.length) := by rw [HB2.out]; simp
            go_wp2
            go_meet
            case rel => exact ⟨by rw [hb], rfl⟩
          · have hb : b2 = false := by rw [HB2.out]; simp [he]
            have he' : (E == 0) = false := by simpa using he
            go_wp2
            go_meet
            case rel => exact ⟨by rw [hb], rfl⟩
        case rest =>
          obtain ⟨rfl, rfl⟩ := hcut
          obtain ⟨⟨P2, E2⟩, hP2⟩ : ∃ x : Int × Int, x = endF l.length (P, E) := ⟨_, rfl⟩
          have HP2 := Aside0.mk hP2
          clear hP2
          go_upto_if 97 with (fail)
          go_cut [] from 12 (fun wc' => Aside0 (DI w wc' r g h A c l.length P2 E2 cs))
          case first =>
            by_cases hb : E = 0 ∧ P < l.length
            · have hb' : b2 = true := by rw [HB2.out]; exact decide_eq_true hb
              have hz := HP2.out
              simp only [endF] at hz
              rw [if_pos hb] at hz
              obtain ⟨rfl, rfl⟩ : P2 = P ∧ E2 = 8 := by simpa using hz
              subst hb'
              have he := hb.1
              subst he
              clear hb hz
              go_wp2_with (fail)
              refine (fail_calls P2 8 D8.out.rd).mono ?_
              rintro rr W9 ⟨⟨v, rfl⟩, h9, o9⟩
              have D9 := Aside0.mk (D8.out.step (by simpa using h9) o9)
              clear h9 o9
              go_wp2
              go_meet
              case rel => exact D9
            · have hb' : b2 = false := by rw [HB2.out]; exact decide_eq_false hb
              have hz := HP2.out
              simp only [endF] at hz
              rw [if_neg hb] at hz
              obtain ⟨rfl, rfl⟩ : P2 = P ∧ E2 = E := by simpa using hz
              subst hb'
              clear hb hz
              go_wp2
              go_meet
              case rel => exact D8
          case rest =>
            have D9 := Aside0.mk hcut.out
            clear hcut D8 y1 y2
            obtain ⟨a, b, d, f, x, y, z, hcs⟩ : ∃ (a b d f : ByteArray) (x y z : Int), cs = #[.int .i64 K, .int .u64 T, .int .u64 I, .string a, .string b, .string d, .string f, .int .i64 x, .int .i64 y, .int .i64 z] := by
              rw [HCS.out]; split <;> exact ⟨_, _, _, _, _, _, _, rfl⟩
            have HCS2 := Aside0.mk hcs
            have D10 := D9.out
            rw [hcs] at D10
            clear hcs
            have y1 : wc.cell? ⟨g, 1, none⟩ = some (.int .i64 P2) := D10.rd.c1
            have y2 : wc.cell? ⟨g, 2, none⟩ = some (.int .i64 E2) := D10.rd.c2
            have D9 := Aside0.mk D10
            clear D10
            have hrg : r ≠ g := D9.out.rg
            have hrh : r ≠ h := D9.out.rh
            obtain ⟨rc, hrc⟩ : ∃ rc : World → Nat → Value, ∀ W i, rc W i = (W.cell? ⟨r, i, none⟩).getD undef := ⟨_, fun _ _ => rfl⟩
            have HRC := Aside0.mk hrc
            clear hrc
            have o0 : wc.frozen? ⟨r, 0, none⟩ = false := blk_frozen D9.out.res 0
            have n0 : wc.cell? ⟨r, 0, none⟩ = some (.int .i64 0) := blk_cell D9.out.res 0
            have o1 : wc.frozen? ⟨r, 1, none⟩ = false := blk_frozen D9.out.res 1
            have n1 : wc.cell? ⟨r, 1, none⟩ = some (.int .u64 0) := blk_cell D9.out.res 1
            have o2 : wc.frozen? ⟨r, 2, none⟩ = false := blk_frozen D9.out.res 2
            have n2 : wc.cell? ⟨r, 2, none⟩ = some (.int .u64 0) := blk_cell D9.out.res 2
            have o3 : wc.frozen? ⟨r, 3, none⟩ = false := blk_frozen D9.out.res 3
            have n3 : wc.cell? ⟨r, 3, none⟩ = some (.string ⟨#[]⟩) := blk_cell D9.out.res 3
            have o4 : wc.frozen? ⟨r, 4, none⟩ = false := blk_frozen D9.out.res 4
            have n4 : wc.cell? ⟨r, 4, none⟩ = some (.string ⟨#[]⟩) := blk_cell D9.out.res 4
            have o5 : wc.frozen? ⟨r, 5, none⟩ = false := blk_frozen D9.out.res 5
            have n5 : wc.cell? ⟨r, 5, none⟩ = some (.string ⟨#[]⟩) := blk_cell D9.out.res 5
            have o6 : wc.frozen? ⟨r, 6, none⟩ = false := blk_frozen D9.out.res 6
            have n6 : wc.cell? ⟨r, 6, none⟩ = some (.string ⟨#[]⟩) := blk_cell D9.out.res 6
            have o7 : wc.frozen? ⟨r, 7, none⟩ = false := blk_frozen D9.out.res 7
            have n7 : wc.cell? ⟨r, 7, none⟩ = some (.int .i64 0) := blk_cell D9.out.res 7
            have o8 : wc.frozen? ⟨r, 8, none⟩ = false := blk_frozen D9.out.res 8
            have n8 : wc.cell? ⟨r, 8, none⟩ = some (.int .i64 0) := blk_cell D9.out.res 8
            have o9 : wc.frozen? ⟨r, 9, none⟩ = false := blk_frozen D9.out.res 9
            have n9 : wc.cell? ⟨r, 9, none⟩ = some (.int .i64 0) := blk_cell D9.out.res 9
            have hst : startF l = (K, T, I, q3, f3) := by
              simp only [startF]
              rw [← HKK.out]
              simp only
              rw [← HT.out]
              simp only
              rw [← HI.out]
            have hsp : stopF l = (P2, E2) := by
              unfold stopF
              rw [hst]
              simp only
              rw [HP2.out, HPE.out, HS.out]
            have HST := Aside0.mk hst
            have HSP := Aside0.mk hsp
            clear hst hsp
            by_cases hE : E2 = 0
            · subst hE
              have hf3 : f3 = 0 := by
                apply Classical.byContradiction
                intro hne
                have h1_ := HPE.out
                rw [if_neg hne, HS.out] at h1_
                obtain ⟨rfl, rfl⟩ : P = q3 ∧ E = f3 := by simpa using h1_
                have h2_ := HP2.out
                simp only [endF] at h2_
                rw [if_neg (fun z => hne z.1)] at h2_
                exact hne (by simpa using (congrArg Prod.snd h2_).symm)
              have hdec : decC l = #[.int .i64 K, .int .u64 T, .int .u64 I, .string a, .string b, .string d, .string f, .int .i64 x, .int .i64 y, .int .i64 z] := by
                unfold decC
                rw [HSP.out]
                simp only
                simp only [if_true]
                rw [HST.out]
                simp only
                rw [← HCS2.out, HCS.out, if_pos hf3, HS.out]
              have hRV : RV = .tuple #[.agg #[.int .i64 K, .int .u64 T, .int .u64 I, .string a, .string b, .string d, .string f, .int .i64 x, .int .i64 y, .int .i64 z], .int .i64 P2, .int .i64 0] := by rw [HRV.out, hdec, HSP.out]
              have HRV2 := Aside0.mk hRV
              clear hf3 hdec hRV
              have m0 : wc.cell? ⟨h, 0, none⟩ = some (.int .i64 K) := blk_cell D9.out.ev 0
              have m1 : wc.cell? ⟨h, 1, none⟩ = some (.int .u64 T) := blk_cell D9.out.ev 1
              have m2 : wc.cell? ⟨h, 2, none⟩ = some (.int .u64 I) := blk_cell D9.out.ev 2
              have m3 : wc.cell? ⟨h, 3, none⟩ = some (.string a) := blk_cell D9.out.ev 3
              have m4 : wc.cell? ⟨h, 4, none⟩ = some (.string b) := blk_cell D9.out.ev 4
              have m5 : wc.cell? ⟨h, 5, none⟩ = some (.string d) := blk_cell D9.out.ev 5
              have m6 : wc.cell? ⟨h, 6, none⟩ = some (.string f) := blk_cell D9.out.ev 6
              have m7 : wc.cell? ⟨h, 7, none⟩ = some (.int .i64 x) := blk_cell D9.out.ev 7
              have m8 : wc.cell? ⟨h, 8, none⟩ = some (.int .i64 y) := blk_cell D9.out.ev 8
              have m9 : wc.cell? ⟨h, 9, none⟩ = some (.int .i64 z) := blk_cell D9.out.ev 9
              go_wp2
              go_region
              clear n0 n1 n2 n3 n4 n5 n6 n7 n8 n9 o0 o1 o2 o3 o4 o5 o6 o7 o8 o9 m0 m1 m2 m3 m4 m5 m6 m7 m8 m9 y1 y2
              obtain ⟨V, hV⟩ : ∃ V, V = (((((((((((wc.setCell ⟨r, 0, none⟩ (.int .i64 K)).setCell ⟨r, 1, none⟩ (.int .u64 T)).setCell ⟨r, 2, none⟩ (.int .u64 I)).setCell ⟨r, 3, none⟩ (.string a)).setCell ⟨r, 4, none⟩ (.string b)).setCell ⟨r, 5, none⟩ (.string d)).setCell ⟨r, 6, none⟩ (.string f)).setCell ⟨r, 7, none⟩ (.int .i64 x)).setCell ⟨r, 8, none⟩ (.int .i64 y)).setCell ⟨r, 9, none⟩ (.int .i64 z))).drew := ⟨_, rfl⟩
              have hbV : V.heap[r]? = some (.cells #[.int .i64 K, .int .u64 T, .int .u64 I, .string a, .string b, .string d, .string f, .int .i64 x, .int .i64 y, .int .i64 z] 24 (0, 0)) := by rw [hV]; exact put10 (.int .i64 K) (.int .u64 T) (.int .u64 I) (.string a) (.string b) (.string d) (.string f) (.int .i64 x) (.int .i64 y) (.int .i64 z) D9.out.res
              have hBV : Below w.heap.size w V := by
                have hwr : w.heap.size ≤ r := by rw [HRR.out]; exact Nat.le_refl _
                rw [hV]
                exact below10 (.int .i64 K) (.int .u64 T) (.int .u64 I) (.string a) (.string b) (.string d) (.string f) (.int .i64 x) (.int .i64 y) (.int .i64 z) D9.out.rd.below hwr
              rw [← hV]
              have HBV := Aside0.mk hBV
              have v0 : V.cell? ⟨r, 0, none⟩ = some (.int .i64 K) := blk_cell hbV 0
              have v1 : V.cell? ⟨r, 1, none⟩ = some (.int .u64 T) := blk_cell hbV 1
              have v2 : V.cell? ⟨r, 2, none⟩ = some (.int .u64 I) := blk_cell hbV 2
              have v3 : V.cell? ⟨r, 3, none⟩ = some (.string a) := blk_cell hbV 3
              have v4 : V.cell? ⟨r, 4, none⟩ = some (.string b) := blk_cell hbV 4
              have v5 : V.cell? ⟨r, 5, none⟩ = some (.string d) := blk_cell hbV 5
              have v6 : V.cell? ⟨r, 6, none⟩ = some (.string f) := blk_cell hbV 6
              have v7 : V.cell? ⟨r, 7, none⟩ = some (.int .i64 x) := blk_cell hbV 7
              have v8 : V.cell? ⟨r, 8, none⟩ = some (.int .i64 y) := blk_cell hbV 8
              have v9 : V.cell? ⟨r, 9, none⟩ = some (.int .i64 z) := blk_cell hbV 9
              have HbV := Aside0.mk hbV
              clear hV hBV hbV v0 v1 v2 v3 v4 v5 v6 v7 v8 v9
              repeat go_step
              refine bodyPost_ret (results_cell3 (p := 2) (u := 3) (q := 4) rfl _ _ r 24 _ (0, 0) _ rfl HbV.out Tryd.underlying24 rfl size24) rfl ?_
              rw [HRV2.out]
              exact ⟨rfl, HBV.out⟩
            · have hE' : (E2 == 0) = false := by simpa using hE
              have hdec : decC l = #[.int .i64 0, .int .u64 0, .int .u64 0, .string ⟨#[]⟩, .string ⟨#[]⟩, .string ⟨#[]⟩, .string ⟨#[]⟩, .int .i64 0, .int .i64 0, .int .i64 0] := by
                unfold decC
                rw [HSP.out]
                simp only
                rw [if_neg hE]
              have hRV : RV = .tuple #[.agg #[.int .i64 0, .int .u64 0, .int .u64 0, .string ⟨#[]⟩, .string ⟨#[]⟩, .string ⟨#[]⟩, .string ⟨#[]⟩, .int .i64 0, .int .i64 0, .int .i64 0], .int .i64 P2, .int .i64 E2] := by rw [HRV.out, hdec, HSP.out]
              have HRV2 := Aside0.mk hRV
              clear hdec hRV
              go_wp2
              go_region
              clear n0 n1 n2 n3 n4 n5 n6 n7 n8 n9 o0 o1 o2 o3 o4 o5 o6 o7 o8 o9 y1 y2
              obtain ⟨V, hV⟩ : ∃ V, V = (((((((((((wc.setCell ⟨r, 0, none⟩ (.int .i64 0)).setCell ⟨r, 1, none⟩ (.int .u64 0)).setCell ⟨r, 2, none⟩ (.int .u64 0)).setCell ⟨r, 3, none⟩ (.string ⟨#[]⟩)).setCell ⟨r, 4, none⟩ (.string ⟨#[]⟩)).setCell ⟨r, 5, none⟩ (.string ⟨#[]⟩)).setCell ⟨r, 6, none⟩ (.string ⟨#[]⟩)).setCell ⟨r, 7, none⟩ (.int .i64 0)).setCell ⟨r, 8, none⟩ (.int .i64 0)).setCell ⟨r, 9, none⟩ (.int .i64 0))).drew := ⟨_, rfl⟩
              have hbV : V.heap[r]? = some (.cells #[.int .i64 0, .int .u64 0, .int .u64 0, .string ⟨#[]⟩, .string ⟨#[]⟩, .string ⟨#[]⟩, .string ⟨#[]⟩, .int .i64 0, .int .i64 0, .int .i64 0] 24 (0, 0)) := by rw [hV]; exact put10 (.int .i64 0) (.int .u64 0) (.int .u64 0) (.string ⟨#[]⟩) (.string ⟨#[]⟩) (.string ⟨#[]⟩) (.string ⟨#[]⟩) (.int .i64 0) (.int .i64 0) (.int .i64 0) D9.out.res
              have hBV : Below w.heap.size w V := by
                have hwr : w.heap.size ≤ r := by rw [HRR.out]; exact Nat.le_refl _
                rw [hV]
                exact below10 (.int .i64 0) (.int .u64 0) (.int .u64 0) (.string ⟨#[]⟩) (.string ⟨#[]⟩) (.string ⟨#[]⟩) (.string ⟨#[]⟩) (.int .i64 0) (.int .i64 0) (.int .i64 0) D9.out.rd.below hwr
              rw [← hV]
              have HBV := Aside0.mk hBV
              have v0 : V.cell? ⟨r, 0, none⟩ = some (.int .i64 0) := blk_cell hbV 0
              have v1 : V.cell? ⟨r, 1, none⟩ = some (.int .u64 0) := blk_cell hbV 1
              have v2 : V.cell? ⟨r, 2, none⟩ = some (.int .u64 0) := blk_cell hbV 2
              have v3 : V.cell? ⟨r, 3, none⟩ = some (.string ⟨#[]⟩) := blk_cell hbV 3
              have v4 : V.cell? ⟨r, 4, none⟩ = some (.string ⟨#[]⟩) := blk_cell hbV 4
              have v5 : V.cell? ⟨r, 5, none⟩ = some (.string ⟨#[]⟩) := blk_cell hbV 5
              have v6 : V.cell? ⟨r, 6, none⟩ = some (.string ⟨#[]⟩) := blk_cell hbV 6
              have v7 : V.cell? ⟨r, 7, none⟩ = some (.int .i64 0) := blk_cell hbV 7
              have v8 : V.cell? ⟨r, 8, none⟩ = some (.int .i64 0) := blk_cell hbV 8
              have v9 : V.cell? ⟨r, 9, none⟩ = some (.int .i64 0) := blk_cell hbV 9
              have HbV := Aside0.mk hbV
              clear hV hBV hbV v0 v1 v2 v3 v4 v5 v6 v7 v8 v9
              repeat go_step
              refine bodyPost_ret (results_cell3 (p := 2) (u := 3) (q := 4) rfl _ _ r 24 _ (0, 0) _ rfl HbV.out Tryd.underlying24 rfl size24) rfl ?_
              rw [HRV2.out]
              exact ⟨rfl, HBV.out⟩
end Go.Proofs.YtmlhlcdamppbfaaDoor.Ext
