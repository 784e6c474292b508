/- The cache: what it holds; New, Len, Has, Next. By hand. -/
import Derived.Test.YtkomjplajfjpkaaHpp
namespace Go.Proofs.Ytkomjplajfjpkaa.Ext
open Go.RowKit Go.Proofs.Ytkomjplajfjpkaa.Hea Go.Proofs.YtkomjplajfjpkaaW.PrintWords Go.Proofs.YtkomjplajfjpkaaW.PrintLast Go.Proofs.YtkomjplajfjpkaaW.PrintMore
open Go.Maps (Keyed)
set_option linter.unusedVariables false
set_option linter.unusedSimpArgs false
/-- How the map's pointers read: as the block's number. -/
def ptrRead : Value → Option (DataW Unit × List MemPlace)
  | .pointer (some ⟨b, 0, none⟩) => some (.lit (.int .i64 (b : Int)), [])
  | .pointer none => some (.lit (.int .i64 (-1)), [])
  | _ => none
theorem ptrRead_mk (b : Nat) : ptrRead (.pointer (some ⟨b, 0, none⟩)) = some (.lit (.int .i64 (b : Int)), []) := rfl
theorem ptrRead_nil : ptrRead (.pointer none) = some (.lit (.int .i64 (-1)), []) := rfl
theorem ptrRead_inv {v : Value} {b : Nat} {ps : List MemPlace} (h : ptrRead v = some (.lit (.int .i64 (b : Int)), ps)) : v = .pointer (some ⟨b, 0, none⟩) := by
  unfold ptrRead at h
  split at h
  · rename_i b'
    simp only [Option.some.injEq, Prod.mk.injEq, DataW.lit.injEq, Lit.int.injEq, true_and] at h
    have : b' = b := by omega
    rw [this]
  · simp only [Option.some.injEq, Prod.mk.injEq, DataW.lit.injEq, Lit.int.injEq, true_and] at h
    omega
  · cases h
theorem ptrRead_inv_nil {v : Value} {ps : List MemPlace} (h : ptrRead v = some (.lit (.int .i64 (-1)), ps)) : v = .pointer none := by
  unfold ptrRead at h
  split at h
  · rename_i b'
    simp only [Option.some.injEq, Prod.mk.injEq, DataW.lit.injEq, Lit.int.injEq, true_and] at h
    omega
  · rfl
  · cases h
def kk (k : ByteArray) : Lit := .string k.data.toList
def zd : DataW Unit := .lit (.int .i64 (-1))
theorem kk_inj {k k' : ByteArray} (h : kk k = kk k') : k = k' := by
  unfold kk at h
  injection h with h
  exact ByteArray.ext (Array.toList_inj.1 h)
theorem kk_key (k : ByteArray) : WideAt.IsKeyLit (kk k) := by simp [WideAt.IsKeyLit, kk]
structure MapIs (D : DataW Unit) (l : List Ent) : Prop where
  hit : ∀ e ∈ l, Go.Maps.has D (kk e.k) = true ∧ D.atKey (kk e.k) zd = .lit (.int .i64 (e.b : Int))
  miss : ∀ k, (∀ e ∈ l, e.k ≠ k) → Go.Maps.has D (kk k) = false
  size : Go.Maps.size D = l.length
  tidy : Go.Maps.Tidy D
section
variable {D : DataW Unit} {l l' : List Ent}
theorem MapIs.perm (h : MapIs D l) (hp : l'.Perm l) : MapIs D l' :=
  ⟨fun e he => h.hit e (hp.mem_iff.1 he), fun k hk => h.miss k (fun e he => hk e (hp.mem_iff.2 he)), h.size.trans hp.length_eq.symm, h.tidy⟩
theorem MapIs.put (h : MapIs D l) (e : Ent) (hn : ∀ x ∈ l, x.k ≠ e.k) : MapIs (D.put (kk e.k) (.lit (.int .i64 (e.b : Int)))) (e :: l) := by
  have him := h.tidy.isMap
  refine ⟨fun x hx => ?_, fun k hk => ?_, ?_, h.tidy.put (kk_key _) _⟩
  · rcases List.mem_cons.1 hx with rfl | hx
    · exact ⟨Go.Maps.has_put_same him (kk_key _) _, Go.Maps.atKey_put_same him (kk_key _) _ _⟩
    · have hne : kk x.k ≠ kk e.k := fun e' => hn x hx (kk_inj e')
      rw [Go.Maps.has_put_other hne, Go.Maps.atKey_put_other hne]
      exact h.hit x hx
  · rw [Go.Maps.has_put_other (fun e' => hk e (List.mem_cons_self ..) (kk_inj e').symm)]
    exact h.miss k (fun x hx => hk x (List.mem_cons_of_mem _ hx))
  · rw [Go.Maps.size_put h.tidy, h.miss e.k hn, h.size]
    simp
theorem MapIs.del {e : Ent} (h : MapIs D (e :: l)) (hn : ∀ x ∈ l, x.k ≠ e.k) : MapIs (D.del (kk e.k)) l := by
  refine ⟨fun x hx => ?_, fun k hk => ?_, ?_, h.tidy.del _⟩
  · have hne : kk x.k ≠ kk e.k := fun e' => hn x hx (kk_inj e')
    rw [Go.Maps.has_del_other hne, Go.Maps.atKey_del_other hne]
    exact h.hit x (List.mem_cons_of_mem _ hx)
  · by_cases he : kk k = kk e.k
    · rw [he]; exact Go.Maps.has_del_same
    · rw [Go.Maps.has_del_other he]
      refine h.miss k (fun x hx => ?_)
      rcases List.mem_cons.1 hx with rfl | hx
      · exact fun e' => he (by rw [e'])
      · exact hk x hx
  · have h1 := Go.Maps.size_del h.tidy (k := kk e.k)
    rw [(h.hit e (List.mem_cons_self ..)).1, h.size] at h1
    simp at h1
    omega
end
theorem keyed9 : Keyed Try.prog 9 := Go.Maps.string_keyed Try.underlying9
theorem keyOf9 {k : ByteArray} (h : k.size ≤ maxLen) : keyOf Try.prog 9 (.string k) = some (kk k) := Go.WideMaps.keyOf_string_mk Try.underlying9 h
theorem zero54 (w : World) : (zeroValue 54).run Try.prog w = .ok (.pointer none) w := by simp [go_sem]
def U64 : Int := 18446744073709551616
/-- The cache at c: its map, its queue, what they hold. -/
structure Cb (W : World) (c gm : Nat) (o : Obj) (F : Nat → Prop) (v : Value) (l : List Ent) (D : DataW Unit) (M : List (ByteArray × Int)) (N : Nat) : Prop where
  q : Qu W c gm o F v l
  own : W.ownsMap Try.prog 9 ptrRead gm N D
  map : MapIs D l
  kd : (l.map Ent.k).Nodup
  hp : HeapN lessE l l.length
  pm : (l.map (fun e => (e.k, e.t))).Perm M
  ok : ∀ e ∈ l, e.k.size ≤ maxLen ∧ 0 ≤ e.t ∧ e.t < 18446744073709551616
def Ca (W : World) (c : Nat) (F : Nat → Prop) (M : List (ByteArray × Int)) (N : Nat) : Prop := ∃ gm o v l D, Cb W c gm o F v l D M N
section
variable {W W' : World} {c gm : Nat} {o : Obj} {F : Nat → Prop} {v : Value} {l : List Ent} {D : DataW Unit} {M : List (ByteArray × Int)} {N : Nat}
theorem Cb.step (h : Cb W c gm o F v l D M N) (hs : W.heap.size ≤ W'.heap.size) (hk : ∀ k, F k → W'.heap[k]? = W.heap[k]?) : Cb W' c gm o F v l D M N := by
  refine ⟨Q0.step h.q hs hk, ?_, h.map, h.kd, h.hp, h.pm, h.ok⟩
  obtain ⟨es, cl, hb, r⟩ := h.own
  exact ⟨es, cl, (hk gm h.q.fm).trans hb, r⟩
theorem Ca.step (h : Ca W c F M N) (hs : W.heap.size ≤ W'.heap.size) (hk : ∀ k, F k → W'.heap[k]? = W.heap[k]?) : Ca W' c F M N := by
  obtain ⟨gm, o, v, l, D, h⟩ := h
  exact ⟨gm, o, v, l, D, h.step hs hk⟩
theorem Ca.lt (h : Ca W c F M N) : ∀ k, F k → k < W.heap.size := by
  obtain ⟨gm, o, v, l, D, h⟩ := h
  exact h.q.lt
theorem Ca.below (h : Ca W c F M N) (hb : Below W.heap.size W W') : Ca W' c F M N := h.step hb.size (fun k hk => hb.block k (h.lt k hk))
theorem Ca.apart {G : Nat → Prop} (h : Ca W c F M N) (hm : Mvs G W W') (hG : ∀ k, F k → ¬ G k) : Ca W' c F M N := h.step hm.size (fun k hk => hm.block k (h.lt k hk) (hG k hk))
theorem Cb.len (h : Cb W c gm o F v l D M N) : Go.Maps.size D = M.length := by
  rw [h.map.size, ← h.pm.length_eq, List.length_map]
theorem Cb.lN (h : Cb W c gm o F v l D M N) : l.length ≤ N := by
  rw [← h.map.size]; exact h.own.size_le
theorem Cb.find (h : Cb W c gm o F v l D M N) {p : ByteArray × Int} (hp : p ∈ M) : ∃ i, i < l.length ∧ (at_ l i).k = p.1 ∧ (at_ l i).t = p.2 := by
  obtain ⟨e, he, rfl⟩ := List.mem_map.1 (h.pm.mem_iff.2 hp)
  obtain ⟨i, hi, rfl⟩ := List.mem_iff_getElem.1 he
  exact ⟨i, hi, by rw [at_lt hi], by rw [at_lt hi]⟩
theorem at_mem {l : List Ent} {i : Nat} (h : i < l.length) : at_ l i ∈ l := by rw [at_lt h]; exact List.getElem_mem h
theorem Cb.mem (h : Cb W c gm o F v l D M N) {i : Nat} (hi : i < l.length) : ((at_ l i).k, (at_ l i).t) ∈ M :=
  h.pm.mem_iff.1 (List.mem_map.2 ⟨_, at_mem hi, rfl⟩)
theorem Cb.nd (h : Cb W c gm o F v l D M N) : (M.map Prod.fst).Nodup := by
  have h1 := h.pm.map Prod.fst
  rw [List.map_map] at h1
  exact h1.nodup_iff.1 h.kd
theorem Cb.look (h : Cb W c gm o F v l D M N) {k : ByteArray} (hk : k.size ≤ maxLen) : ∃ u, (Instr.lookup 47 (.map (some gm)) (.string k) true).run Try.prog W = .ok (.tuple #[u, .bool (Go.Maps.has D (kk k))]) W ∧ ∃ ps, ptrRead u = some (D.atKey (kk k) zd, ps) := by
  obtain ⟨u, ps, h1, h2⟩ := h.own.look_ok keyed9 Try.underlying47 (zero54 W) ptrRead_nil (keyOf9 hk)
  exact ⟨u, h1, ps, h2⟩
end
theorem key_fun : ∀ {M : List (ByteArray × Int)}, (M.map Prod.fst).Nodup → ∀ {k : ByteArray} {a b : Int}, (k, a) ∈ M → (k, b) ∈ M → a = b
  | [], _, _, _, _, h, _ => by simp at h
  | p :: M, hnd, k, a, b, h1, h2 => by
    rw [List.map_cons, List.nodup_cons] at hnd
    rcases List.mem_cons.1 h1 with e1 | e1 <;> rcases List.mem_cons.1 h2 with e2 | e2
    · rw [← e1] at e2; injection e2 with _ e3; exact e3.symm
    · exact absurd (List.mem_map.2 ⟨_, e2, by rw [← e1]⟩) hnd.1
    · exact absurd (List.mem_map.2 ⟨_, e1, by rw [← e2]⟩) hnd.1
    · exact key_fun hnd.2 e1 e2
/-- Is a key there, with a later time? -/
def hasF (M : List (ByteArray × Int)) (k : ByteArray) (t : Int) : Bool := M.any (fun p => decide (p.1 = k) && decide (t < p.2))
theorem hasF_in {M : List (ByteArray × Int)} (hnd : (M.map Prod.fst).Nodup) {k : ByteArray} {t0 : Int} (hm : (k, t0) ∈ M) (t : Int) : hasF M k t = decide (t < t0) := by
  unfold hasF
  rw [Bool.eq_iff_iff, List.any_eq_true]
  simp only [Bool.and_eq_true, decide_eq_true_eq]
  constructor
  · rintro ⟨p, hp, rfl, hlt⟩
    rw [← key_fun hnd (k := p.1) (a := p.2) (b := t0) hp hm]; exact hlt
  · intro hlt; exact ⟨_, hm, rfl, hlt⟩
theorem hasF_out {M : List (ByteArray × Int)} {k : ByteArray} (hm : ∀ t0, (k, t0) ∉ M) (t : Int) : hasF M k t = false := by
  unfold hasF
  rw [List.any_eq_false]
  rintro ⟨x, y⟩ hp
  simp only [Bool.and_eq_true, decide_eq_true_eq, not_and]
  rintro rfl
  exact absurd hp (hm y)
theorem clen_calls {W : World} {c : Nat} {F : Nat → Prop} {M : List (ByteArray × Int)} {N : Nat} (h : Ca W c F M N) : Calls Try.prog 13 #[.pointer (some ⟨c, 0, none⟩)] W fun e w' => e = .returned (.int .i64 (M.length : Int)) ∧ w' = W := by
  obtain ⟨gm, o, v, l, D, h⟩ := h
  have c0 := h.q.cell0
  have hl := fun ty => h.own.len Try.underlying47 ty
  rw [h.len] at hl
  clear h
  go_enter Try.func13, Try.ntmps13
  go_wp2
  go_ret
  exact ⟨rfl, rfl⟩
theorem Cb.miss {W : World} {c gm : Nat} {o : Obj} {F : Nat → Prop} {v : Value} {l : List Ent} {D : DataW Unit} {M : List (ByteArray × Int)} {N : Nat} (h : Cb W c gm o F v l D M N) {k : ByteArray} (hm : ∀ t0, (k, t0) ∉ M) : ∀ e ∈ l, e.k ≠ k := by
  rintro e he rfl
  exact hm e.t (h.pm.mem_iff.1 (List.mem_map.2 ⟨_, he, rfl⟩))
theorem Cb.look_no {W : World} {c gm : Nat} {o : Obj} {F : Nat → Prop} {v : Value} {l : List Ent} {D : DataW Unit} {M : List (ByteArray × Int)} {N : Nat} (h : Cb W c gm o F v l D M N) {k : ByteArray} (hk : k.size ≤ maxLen) (hm : ∀ t0, (k, t0) ∉ M) : (Instr.lookup 47 (.map (some gm)) (.string k) true).run Try.prog W = .ok (.tuple #[.pointer none, .bool false]) W := by
  obtain ⟨u, hl, ps, hu⟩ := h.look hk
  have h1 := h.map.miss k (h.miss hm)
  rw [h1] at hl
  rw [Go.Maps.atKey_of_not_has h1] at hu
  rw [ptrRead_inv_nil hu] at hl
  exact hl
theorem Cb.look_yes {W : World} {c gm : Nat} {o : Obj} {F : Nat → Prop} {v : Value} {l : List Ent} {D : DataW Unit} {M : List (ByteArray × Int)} {N : Nat} (h : Cb W c gm o F v l D M N) {i : Nat} (hi : i < l.length) : (Instr.lookup 47 (.map (some gm)) (.string (at_ l i).k) true).run Try.prog W = .ok (.tuple #[.pointer (some ⟨(at_ l i).b, 0, none⟩), .bool true]) W := by
  obtain ⟨u, hl, ps, hu⟩ := h.look (h.ok _ (at_mem hi)).1
  have h1 := h.map.hit _ (at_mem hi)
  rw [h1.1] at hl
  rw [h1.2] at hu
  rw [ptrRead_inv hu] at hl
  exact hl
theorem has_calls {W : World} {c : Nat} {F : Nat → Prop} {M : List (ByteArray × Int)} {N : Nat} (h : Ca W c F M N) {k : ByteArray} (hk : k.size ≤ maxLen) (t : Int) : Calls Try.prog 14 #[.pointer (some ⟨c, 0, none⟩), .string k, .int .u64 t] W fun e w' => e = .returned (.bool (hasF M k t)) ∧ w' = W := by
  obtain ⟨gm, o, v, l, D, h⟩ := h
  have c0 := h.q.cell0
  by_cases hm : ∃ t0, (k, t0) ∈ M
  · obtain ⟨t0, hm⟩ := hm
    obtain ⟨i, hi, ek, et⟩ := h.find hm
    simp only at ek et
    have hl := h.look_yes hi
    have c1 := (h.q.celle hi).2.1
    rw [et] at c1
    rw [ek] at hl
    generalize (at_ l i).b = B at *
    rw [hasF_in h.nd hm]
    clear h hm
    go_enter Try.func14, Try.ntmps14
    go_wp2
    go_ret
    exact ⟨rfl, rfl⟩
  · have hm : ∀ t0, (k, t0) ∉ M := fun t0 h => hm ⟨t0, h⟩
    have hl := h.look_no hk hm
    rw [hasF_out hm]
    clear h hm
    go_enter Try.func14, Try.ntmps14
    go_wp2
    go_ret
    exact ⟨rfl, rfl⟩
/-- Which of two goes first. -/
def plt (p q : ByteArray × Int) : Bool := decide (p.2 < q.2) || (decide (p.2 = q.2) && slt p.1 q.1)
def IsNext (M : List (ByteArray × Int)) (k : ByteArray) (t : Int) (b : Bool) : Prop :=
  (M = [] ∧ k = ⟨#[]⟩ ∧ t = 0 ∧ b = false) ∨ ((k, t) ∈ M ∧ b = true ∧ ∀ p ∈ M, plt p (k, t) = false)
theorem IsNext.one {M : List (ByteArray × Int)} {k k' : ByteArray} {t t' : Int} {b b' : Bool} (h : IsNext M k t b) (h' : IsNext M k' t' b') : k = k' ∧ t = t' ∧ b = b' := by
  rcases h with ⟨h0, h1, h2, h3⟩ | ⟨h1, h2, h3⟩
  · rcases h' with ⟨_, g1, g2, g3⟩ | ⟨g1, g2, g3⟩
    · exact ⟨h1.trans g1.symm, h2.trans g2.symm, h3.trans g3.symm⟩
    · rw [h0] at g1; simp at g1
  · rcases h' with ⟨g0, g1, g2, g3⟩ | ⟨g1, g2, g3⟩
    · rw [g0] at h1; simp at h1
    · have := less_conn (a := ⟨0, k, t⟩) (b := ⟨0, k', t'⟩) (g3 _ h1) (h3 _ g1)
      exact ⟨this.2, this.1, h2.trans g2.symm⟩
theorem IsNext.perm {M M' : List (ByteArray × Int)} {k : ByteArray} {t : Int} {b : Bool} (h : IsNext M k t b) (hp : M.Perm M') : IsNext M' k t b := by
  rcases h with ⟨h0, h1, h2, h3⟩ | ⟨h1, h2, h3⟩
  · left; subst h0; exact ⟨List.nil_perm.1 hp, h1, h2, h3⟩
  · right; exact ⟨hp.mem_iff.1 h1, h2, fun p hp' => h3 p (hp.mem_iff.2 hp')⟩
theorem Cb.next {W : World} {c gm : Nat} {o : Obj} {F : Nat → Prop} {v : Value} {l : List Ent} {D : DataW Unit} {M : List (ByteArray × Int)} {N : Nat} (h : Cb W c gm o F v l D M N) (hl : 0 < l.length) : IsNext M (at_ l 0).k (at_ l 0).t true := by
  refine .inr ⟨h.mem hl, rfl, fun p hp => ?_⟩
  obtain ⟨i, hi, ek, et⟩ := h.find hp
  have := heap_root lessO h.hp less_irr i hi
  unfold lessE at this
  unfold plt
  rw [← ek, ← et]
  exact this
theorem next_calls {W : World} {c : Nat} {F : Nat → Prop} {M : List (ByteArray × Int)} {N : Nat} (h : Ca W c F M N) : Calls Try.prog 11 #[.pointer (some ⟨c, 0, none⟩)] W fun e w' => ∃ k t b, e = .returned (.tuple #[.string k, .int .u64 t, .bool b]) ∧ IsNext M k t b ∧ Below W.heap.size W w' := by
  obtain ⟨gm, o, v, l, D, h⟩ := h
  have cQ := h.q.cell1
  by_cases hl : 0 < l.length
  · obtain ⟨g, cap, rfl⟩ := h.q.slot hl
    have HI := Aside0.mk (h.next hl)
    have cq := h.q.cellq hl
    obtain ⟨c0, c1, c2⟩ := h.q.celle hl
    simp only [pv] at *
    have hsm := h.q.sm
    have hz : ((l.length : Int) == 0) = false := by rw [beq_eq_false_iff_ne]; omega
    clear h
    go_enter Try.func11, Try.ntmps11
    go_wp2
    go_region
    all_goals
      go_wp2
      go_returns
      exact ⟨_, _, _, rfl, HI.out, below_drew (Below.refl _ _)⟩
  · obtain ⟨A, cap, rfl⟩ := h.q.form
    have h0 : l.length = 0 := by omega
    have HI : Aside0 (IsNext M ⟨#[]⟩ 0 false) := by
      refine ⟨.inl ⟨?_, rfl, rfl, rfl⟩⟩
      have := h.pm.length_eq
      rw [List.length_map, h0] at this
      exact List.length_eq_zero_iff.1 this.symm
    rw [h0] at cQ
    clear h
    go_enter Try.func11, Try.ntmps11
    go_wp2
    go_returns
    exact ⟨_, _, _, rfl, HI.out, Below.refl _ _⟩
theorem new_calls (w : World) : Calls Try.prog 9 #[] w fun e w' => ∃ c F, e = .returned (.pointer (some ⟨c, 0, none⟩)) ∧ Ca w' c F [] 0 ∧ (∀ k, F k → w.heap.size ≤ k) ∧ Below w.heap.size w w' := by
  have hmm := @run_makeMap Try.prog
  go_enter Try.func9, Try.ntmps9
  go_wp2
  go_ret
  have hb1 : ((w.alloc (.map #[] 0)).alloc (.cells #[.map (some w.heap.size), .slice none 0 0] 51)).heap[w.heap.size + 1]? = some (.cells #[.map (some w.heap.size), .slice none 0 0] 51 (0, 0)) := by
    rw [← (show (w.alloc (.map #[] 0)).heap.size = w.heap.size + 1 by simp)]; exact blk_new _ _
  have hm1 : ((w.alloc (.map #[] 0)).alloc (.cells #[.map (some w.heap.size), .slice none 0 0] 51)).heap[w.heap.size]? = some (.map #[] 0) := blk_alloc (blk_new _ _) _
  refine ⟨w.heap.size + 1, fun k => k = w.heap.size ∨ k = w.heap.size + 1, rfl, ⟨w.heap.size, _, .slice none 0 0, [], .map [], ⟨⟨hb1, hm1, ⟨_, _, rfl⟩, ⟨rfl, .inl ⟨rfl, rfl⟩⟩, fun i hi => by simp at hi, fun i j hi => by simp at hi, .inr rfl, .inl rfl, fun k hk => by simp [Value.ownBlock] at hk, fun i hi => by simp at hi, fun k hk => by simp; omega, by simp⟩, (World.ownsMap_made w Try.prog 9 _).alloc _, ⟨fun e he => by simp at he, fun k _ => rfl, rfl, Go.Maps.tidy_empty⟩, by simp, fun i _ hi => by simp at hi, List.Perm.refl _, fun e he => by simp at he⟩⟩, fun k hk => by omega, below_alloc (below_alloc (Below.refl _ _) _) _⟩
end Go.Proofs.Ytkomjplajfjpkaa.Ext
