/- The cache: Put. By hand. -/
import Derived.Test.YtkomjplajfjpkaaCac
namespace Go.Proofs.Ytkomjplajfjpkaa.Ext
open Go.RowKit Go.Proofs.Ytkomjplajfjpkaa.Hea Go.Proofs.YtkomjplajfjpkaaW.PrintWords Go.Proofs.YtkomjplajfjpkaaW.PrintLast Go.Proofs.YtkomjplajfjpkaaW.PrintMore
open Go.Maps (Keyed)
set_option linter.unusedVariables false
set_option linter.unusedSimpArgs false
def pr (e : Ent) : ByteArray × Int := (e.k, e.t)
def bump (k : ByteArray) (t : Int) (p : ByteArray × Int) : ByteArray × Int := if p.1 = k then (p.1, max p.2 t) else p
theorem bump_eq {k : ByteArray} {t : Int} {p : ByteArray × Int} (h : p.1 = k) : bump k t p = (p.1, max p.2 t) := if_pos h
theorem bump_ne {k : ByteArray} {t : Int} {p : ByteArray × Int} (h : p.1 ≠ k) : bump k t p = p := if_neg h
def putF (M : List (ByteArray × Int)) (k : ByteArray) (t : Int) : List (ByteArray × Int) :=
  if M.any (fun p => decide (p.1 = k)) then M.map (bump k t) else M ++ [(k, t)]
theorem putF_out {M : List (ByteArray × Int)} {k : ByteArray} (hm : ∀ t0, (k, t0) ∉ M) (t : Int) : putF M k t = M ++ [(k, t)] := by
  unfold putF
  rw [if_neg]
  rw [List.any_eq_true]
  rintro ⟨⟨x, y⟩, hp, he⟩
  simp only [decide_eq_true_eq] at he
  subst he
  exact hm y hp
theorem putF_in {M : List (ByteArray × Int)} {k : ByteArray} {t0 : Int} (hm : (k, t0) ∈ M) (t : Int) : putF M k t = M.map (bump k t) := by
  unfold putF
  rw [if_pos]
  rw [List.any_eq_true]
  exact ⟨_, hm, by simp⟩
theorem putF_same {M : List (ByteArray × Int)} (hnd : (M.map Prod.fst).Nodup) {k : ByteArray} {t0 : Int} (hm : (k, t0) ∈ M) {t : Int} (ht : t ≤ t0) : putF M k t = M := by
  rw [putF_in hm]
  have : M.map (bump k t) = M.map id := by
    refine List.map_congr_left ?_
    rintro ⟨x, y⟩ hp
    by_cases h : x = k
    · subst h
      have := key_fun hnd hp hm
      subst this
      rw [bump_eq (p := (x, y)) rfl, Int.max_eq_left ht]; rfl
    · rw [bump_ne h]; rfl
  rw [this, List.map_id]
section
variable {W W' : World} {c gm : Nat} {o : Obj} {F : Nat → Prop} {v : Value} {l : List Ent} {a a' : Nat → Int}
theorem Q0.setT (h : Q0 W c gm o F v l a) {i : Nat} (hi : i < l.length) (t : Int) : Q0 (W.setCell ⟨(at_ l i).b, 1, none⟩ (.int .u64 t)) c gm o F v (l.set i ⟨(at_ l i).b, (at_ l i).k, t⟩) a := by
  have far : ∀ k, k ≠ (at_ l i).b → (W.setCell ⟨(at_ l i).b, 1, none⟩ (.int .u64 t)).heap[k]? = W.heap[k]? := fun k hk => Below.heap_setCell W ⟨(at_ l i).b, 1, none⟩ _ k hk
  have hlen : (l.set i (⟨(at_ l i).b, (at_ l i).k, t⟩ : Ent)).length = l.length := by simp
  have hs := fun k => at_set l i k ⟨(at_ l i).b, (at_ l i).k, t⟩ hi
  have hb : ∀ k, (at_ (l.set i (⟨(at_ l i).b, (at_ l i).k, t⟩ : Ent)) k).b = (at_ l k).b := fun k => by
    rw [hs]; split
    · rename_i e; rw [e]
    · rfl
  refine ⟨(far _ (h.nce hi)).trans h.blk, (far _ (h.nme hi)).trans h.mp, h.mo, ?_, fun k hk => ?_, fun x y hx hy he => ?_, h.fc, h.fm, h.fv, fun k hk => ?_, fun k hk => by simpa [World.setCell] using h.lt k hk, by rw [hlen]; exact h.sm⟩
  · rw [hlen]
    have e : ptrs (l.set i (⟨(at_ l i).b, (at_ l i).k, t⟩ : Ent)) = ptrs l := by
      rw [ptrs_set]
      have := at_ptrs l hi
      refine List.ext_getElem? fun j => ?_
      rw [List.getElem?_set]
      split
      · rename_i ej; subst ej
        rw [if_pos (by unfold ptrs; simpa using hi), this]
      · rfl
    rw [e]
    exact own_move h.row (fun k hk => far _ (h.nqe hi hk))
  · rw [hlen] at hk
    rw [hs]
    by_cases e : k = i
    · subst e
      rw [if_pos rfl]
      exact blk_put (h.ent k hi) 1 _ rfl
    · rw [if_neg e]
      exact (far _ (fun e' => e (h.nd _ _ hk hi e'))).trans (h.ent k hk)
  · rw [hlen] at hx hy
    rw [hb, hb] at he
    exact h.nd _ _ hx hy he
  · rw [hlen] at hk
    rw [hb]
    exact h.fe k hk
theorem Q0.remap (h : Q0 W c gm o F v l a) (hg : W.grownBy W' (some gm)) {o' : Obj} (hb : W'.heap[gm]? = some o') (ho : ∃ es clock, o' = .map es clock) : Q0 W' c gm o' F v l a := by
  have far : ∀ k, F k → k ≠ gm → W'.heap[k]? = W.heap[k]? := fun k hf hk => hg.block k (h.lt k hf) (fun e => hk (by injection e))
  exact ⟨(far _ h.fc h.ncm).trans h.blk, hb, ho, own_move h.row (fun k hk => far k (h.fv k hk) (h.nqm hk)), fun i hi => (far _ (h.fe i hi) (Ne.symm (h.nme hi))).trans (h.ent i hi), h.nd, h.fc, h.fm, h.fv, h.fe, fun k hk => Nat.lt_of_lt_of_le (h.lt k hk) hg.size, h.sm⟩
theorem own_at {P : Program} {k : TypeId} {R : Value → Option (DataW Unit × List MemPlace)} {n : Nat} {D : DataW Unit} (h : W.ownsMap P k R gm n D) (h1 : W.heap[gm]? = some o) (h2 : W'.heap[gm]? = some o) : W'.ownsMap P k R gm n D := by
  obtain ⟨es, cl, hb, r⟩ := h
  exact ⟨es, cl, h2.trans (h1.symm.trans hb), r⟩
end
theorem MapIs.same {D : DataW Unit} {l l' : List Ent} (h : MapIs D l) (he : l'.map (fun e => (e.k, e.b)) = l.map (fun e => (e.k, e.b))) : MapIs D l' := by
  have back : ∀ e ∈ l', ∃ x ∈ l, x.k = e.k ∧ x.b = e.b := fun e hm => by
    have : (e.k, e.b) ∈ l'.map (fun e => (e.k, e.b)) := List.mem_map.2 ⟨e, hm, rfl⟩
    rw [he] at this
    obtain ⟨x, hx, hxe⟩ := List.mem_map.1 this
    injection hxe with h1 h2
    exact ⟨x, hx, h1, h2⟩
  refine ⟨fun e hm => ?_, fun k hk => h.miss k (fun e hm => ?_), ?_, h.tidy⟩
  · obtain ⟨x, hx, e1, e2⟩ := back e hm
    rw [← e1, ← e2]; exact h.hit x hx
  · have : (e.k, e.b) ∈ l.map (fun e => (e.k, e.b)) := List.mem_map.2 ⟨e, hm, rfl⟩
    rw [← he] at this
    obtain ⟨x, hx, hxe⟩ := List.mem_map.1 this
    injection hxe with h1 h2
    rw [← h1]; exact hk x hx
  · rw [h.size]
    have := congrArg List.length he
    simpa using this.symm
theorem set_map {β : Type} (f : Ent → β) {l : List Ent} {i : Nat} (hi : i < l.length) {e : Ent} (he : f e = f (at_ l i)) : (l.set i e).map f = l.map f := by
  rw [List.map_set, he]
  refine List.ext_getElem? fun j => ?_
  rw [List.getElem?_set]
  split
  · rename_i ej; subst ej
    rw [if_pos (by simpa using hi), List.getElem?_map, at_some hi]; rfl
  · rfl
theorem set_times {l : List Ent} {i : Nat} (hi : i < l.length) (hkd : (l.map Ent.k).Nodup) {t : Int} (ht : (at_ l i).t ≤ t) :
    (l.set i ⟨(at_ l i).b, (at_ l i).k, t⟩).map pr = (l.map pr).map (bump (at_ l i).k t) := by
  rw [List.map_map]
  refine List.ext_getElem? fun j => ?_
  rw [List.getElem?_map, List.getElem?_map, List.getElem?_set]
  by_cases e : i = j
  · subst e
    rw [if_pos rfl, if_pos hi, at_some hi]
    show some (pr _) = some (bump _ _ (pr _))
    have e1 : bump (at_ l i).k t (pr (at_ l i)) = (_, _) := bump_eq rfl
    rw [e1, show (pr (at_ l i)).2 = (at_ l i).t from rfl, Int.max_eq_right ht]
    rfl
  · rw [if_neg e]
    by_cases hj : j < l.length
    · rw [at_some hj]
      show some (pr _) = some (bump _ _ (pr _))
      rw [bump_ne]
      intro h
      replace h : (at_ l j).k = (at_ l i).k := h
      have h1 : (l.map Ent.k)[i]? = (l.map Ent.k)[j]? := by
        rw [List.getElem?_map, List.getElem?_map, at_some hi, at_some hj, Option.map_some, Option.map_some, h]
      exact e ((List.getElem?_inj (by simpa using hi) hkd).1 h1)
    · rw [List.getElem?_eq_none (by omega)]; rfl
set_option maxHeartbeats 4000000 in
theorem put_old {W : World} {c gm : Nat} {o : Obj} {F : Nat → Prop} {v : Value} {l : List Ent} {D : DataW Unit} {M : List (ByteArray × Int)} {N : Nat} (h : Cb W c gm o F v l D M N) {i : Nat} (hi : i < l.length) {t : Int} (ht : ¬ (at_ l i).t < t) :
    Calls Try.prog 16 #[.pointer (some ⟨c, 0, none⟩), .string (at_ l i).k, .int .u64 t] W fun e w' => e = .returned (.tuple #[]) ∧ w' = W := by
  have c0 := h.q.cell0
  have hl := h.look_yes hi
  have c1 := (h.q.celle hi).2.1
  generalize at_ l i = E at *
  obtain ⟨B, k, t0⟩ := E
  simp only at *
  clear h
  go_enter Try.func16, Try.ntmps16
  go_wp2
  go_returns
  exact ⟨rfl, rfl⟩
set_option maxHeartbeats 4000000 in
theorem put_more {W : World} {c gm : Nat} {o : Obj} {F : Nat → Prop} {v : Value} {l : List Ent} {D : DataW Unit} {M : List (ByteArray × Int)} {N : Nat} (h : Cb W c gm o F v l D M N) {i : Nat} (hi : i < l.length) {t : Int} (ht : (at_ l i).t < t) (hw : t < 18446744073709551616) :
    Calls Try.prog 16 #[.pointer (some ⟨c, 0, none⟩), .string (at_ l i).k, .int .u64 t] W fun e w' => e = .returned (.tuple #[]) ∧ (∃ l' M', Cb w' c gm o F v l' D M' N ∧ M' = M.map (bump (at_ l i).k t)) ∧ Mvs F W w' := by
  have c0 := h.q.cell0
  have hl := h.look_yes hi
  obtain ⟨cK, c1, c2⟩ := h.q.celle hi
  have f1 := h.q.frozene hi 1
  have hq1 := Q0.setT h.q hi t
  have hm1 : Mvs F W (W.setCell ⟨(at_ l i).b, 1, none⟩ (.int .u64 t)) := (Mvs.refl W).set (p := ⟨(at_ l i).b, 1, none⟩) (h.q.fe i hi) _
  have hlen : (l.set i (⟨(at_ l i).b, (at_ l i).k, t⟩ : Ent)).length = l.length := by simp
  have hd : DownInv lessE (l.set i ⟨(at_ l i).b, (at_ l i).k, t⟩) (l.set i (⟨(at_ l i).b, (at_ l i).k, t⟩ : Ent)).length i := by
    rw [hlen]
    exact fix_inv lessO h.hp hi _ (by rw [less_iff]; exact .inl ht)
  obtain ⟨W1, hW1⟩ : ∃ W1, W.setCell ⟨(at_ l i).b, 1, none⟩ (.int .u64 t) = W1 := ⟨_, rfl⟩
  rw [hW1] at hq1 hm1
  have d2 := (hq1.celle (i := i) (by rw [hlen]; exact hi)).2.2
  have eb : (at_ (l.set i (⟨(at_ l i).b, (at_ l i).k, t⟩ : Ent)) i).b = (at_ l i).b := by rw [at_set _ _ _ _ hi, if_pos rfl]
  rw [eb] at d2
  have HC : Aside0 (∀ V, Below W1.heap.size W1 V → Calls Try.prog 21 #[.iface 59 (.pointer (some ⟨c, 1, none⟩)), .int .i64 (i : Int)] V fun e w' => e = .returned (.tuple #[]) ∧ (∃ l' M', Cb w' c gm o F v l' D M' N ∧ M' = M.map (bump (at_ l i).k t)) ∧ Mvs F W w') := by
    refine ⟨fun V hV => (hfix_calls (Q0.below hq1 hV) (by rw [hlen]; exact hi) hd).mono ?_⟩
    rintro e w' ⟨rfl, l', hq', hp', hh', hm'⟩
    refine ⟨rfl, ⟨l', _, ⟨hq', own_at h.own h.q.mp hq'.mp, (h.map.same (l' := l.set i ⟨(at_ l i).b, (at_ l i).k, t⟩) (set_map _ hi rfl)).perm hp', ?_, hh', ?_, ?_⟩, rfl⟩, (hm1.trans' (Mvs.of_below hV)).trans' hm'⟩
    · exact (hp'.map Ent.k).nodup_iff.2 (by rw [set_map (e := ⟨(at_ l i).b, (at_ l i).k, t⟩) Ent.k hi rfl]; exact h.kd)
    · refine (hp'.map pr).trans ?_
      rw [set_times hi h.kd (Int.le_of_lt ht)]
      exact h.pm.map _
    · intro e he
      obtain ⟨j, hj, rfl⟩ := List.mem_iff_getElem.1 (hp'.mem_iff.1 he)
      rw [← at_lt hj]
      rw [hlen] at hj
      rw [at_set _ _ _ _ hi]
      have hi1 := h.ok _ (at_mem hi)
      split
      · exact ⟨hi1.1, by have := hi1.2.1; simp only; omega, hw⟩
      · exact h.ok _ (at_mem hj)
  have HR := Aside0.mk (Below.refl W1.heap.size W1)
  generalize hM' : M.map (bump (at_ l i).k t) = M1 at *
  clear hq1 hm1 hd h hM' eb hlen
  generalize at_ l i = E at *
  obtain ⟨B, k, t0⟩ := E
  simp only at *
  go_enter Try.func16, Try.ntmps16
  go_wp2
  go_region_with (first
    | (go_at_call 21; refine (HC.out _ (by first | exact Below.refl _ _ | exact below_drew (Below.refl _ _) | exact pw_below_drewN (Below.refl _ _) _)).mono ?_; rintro e w2 ⟨rfl, hx, hm⟩; replace hx := Aside0.mk hx; replace hm := Aside0.mk hm))
  all_goals
    go_wp2
    go_returns
    exact ⟨rfl, hx.out, hm.out⟩
/-- What Put leaves of a cache: the key with the later time; its blocks are its own, or new. -/
structure CaN (W w' : World) (c : Nat) (F : Nat → Prop) (M : List (ByteArray × Int)) (N : Nat) (F2 : Nat → Prop) : Prop where
  ca : Ca w' c F2 M N
  old : ∀ k, F2 k → F k ∨ W.heap.size ≤ k
  mv : Mvs F W w'
set_option maxHeartbeats 4000000 in
theorem put_new {W : World} {c gm : Nat} {o : Obj} {F : Nat → Prop} {v : Value} {l : List Ent} {D : DataW Unit} {M : List (ByteArray × Int)} {N : Nat} (h : Cb W c gm o F v l D M N) (hN : N < 4096) {k : ByteArray} (hk : k.size ≤ maxLen) (hm : ∀ t0, (k, t0) ∉ M) {t : Int} (h0 : 0 ≤ t) (hw : t < 18446744073709551616) :
    Calls Try.prog 16 #[.pointer (some ⟨c, 0, none⟩), .string k, .int .u64 t] W fun e w' => e = .returned (.tuple #[]) ∧ ∃ F2, CaN W w' c F (M ++ [(k, t)]) (N + 1) F2 := by
  have c0 := h.q.cell0
  have hl := h.look_no hk hm
  have hmiss := h.miss hm
  have hlN := h.lN
  -- the entry
  obtain ⟨e, he⟩ : ∃ e, W.heap.size = e := ⟨_, rfl⟩
  obtain ⟨W1, hW1⟩ : ∃ W1, W.alloc (.cells #[.string k, .int .u64 t, .int .i64 0] 53) = W1 := ⟨_, rfl⟩
  have hb1 : Below W.heap.size W W1 := by rw [← hW1]; exact below_alloc (Below.refl _ _) _
  have he1 : W1.heap[e]? = some (.cells #[.string k, .int .u64 t, .int .i64 0] 53 (0, 0)) := by rw [← hW1, ← he]; exact blk_new _ _
  have hq1 := Q0.below h.q hb1
  have hc1 : W1.cell? ⟨c, 0, none⟩ = some (.map (some gm)) := hq1.cell0
  have ho1 : W1.ownsMap Try.prog 9 ptrRead gm N D := own_at h.own h.q.mp hq1.mp
  -- the map
  obtain ⟨w2, hmu, ho2, ht2⟩ := ho1.store keyed9 Try.underlying47 (by simp only [maxLen]; omega) (keyOf9 hk) (ptrRead_mk e)
  have hg2 := ht2.grown
  obtain ⟨es, cl, hes, hrest⟩ := ho2
  have ho2 : w2.ownsMap Try.prog 9 ptrRead gm (N + 1) (D.put (kk k) (.lit (.int .i64 (e : Int)))) := ⟨es, cl, hes, hrest⟩
  have hq2 := hq1.remap hg2 hes ⟨_, _, rfl⟩
  have heg : e ≠ gm := fun e' => by rw [e', hq1.mp] at he1; obtain ⟨es', cl', rfl⟩ := hq1.mo; cases he1
  have he2 : w2.heap[e]? = some (.cells #[.string k, .int .u64 t, .int .i64 0] 53 (0, 0)) := blk_grown he1 hg2 (fun e' => heg (by injection e'))
  have hq3 := hq2.mono (G := fun k => F k ∨ k = e) (fun _ hk => .inl hk) (fun k hk => by
    rcases hk with hk | rfl
    · exact hq2.lt k hk
    · exact blk_lt he2)
  have hne : ∀ i, i < l.length → (at_ l i).b ≠ e := fun i hi e' => by
    have := h.q.lt _ (h.q.fe i hi)
    omega
  have HC : Aside0 (Calls Try.prog 20 #[.iface 59 (.pointer (some ⟨c, 1, none⟩)), .iface 54 (.pointer (some ⟨e, 0, none⟩))] w2 fun e w' => e = .returned (.tuple #[]) ∧ ∃ F2, CaN W w' c F (M ++ [(k, t)]) (N + 1) F2) := by
    refine ⟨(hpush_calls hq3 he2 (.inr rfl) hne (by omega) h.hp).mono ?_⟩
    rintro r w' ⟨rfl, v', F2, l', hq', hp', hh', hf1, hf2, hm'⟩
    have hp2 : l'.Perm ((⟨e, k, t⟩ : Ent) :: l) := hp'.trans (List.perm_append_singleton _ _)
    have hmap := h.map.put (⟨e, k, t⟩ : Ent) hmiss
    refine ⟨rfl, F2, ⟨gm, _, v', l', _, ⟨hq', own_at ho2 hes hq'.mp, hmap.perm hp2, ?_, hh', ?_, ?_⟩⟩, ?_, ?_⟩
    · refine (hp2.map Ent.k).nodup_iff.2 ?_
      rw [List.map_cons, List.nodup_cons]
      refine ⟨fun hx => ?_, h.kd⟩
      obtain ⟨x, hx, hxe⟩ := List.mem_map.1 hx
      exact hmiss x hx hxe
    · refine (hp'.map pr).trans ?_
      rw [List.map_append]
      exact h.pm.append_right _
    · intro x hx
      rcases List.mem_cons.1 (hp2.mem_iff.1 hx) with rfl | hx
      · exact ⟨hk, h0, hw⟩
      · exact h.ok x hx
    · intro j hj
      rcases hf1 j hj with (h1 | h1) | h1
      · exact .inl h1
      · right; omega
      · right
        have := hb1.size
        have := hg2.size
        omega
    · refine ((Mvs.of_below hb1).grown hg2 (fun j hj => by injection hj with hj; rw [← hj]; exact h.q.fm)).trans hm' (fun j hj => ?_)
      rcases hj with hj | hj
      · exact .inl hj
      · right; omega
  clear h hq1 ho1 hes hrest ho2 hq2 he2 hq3 hne ht2 hg2 he1 hb1
  go_enter Try.func16, Try.ntmps16
  go_wp2_with (first
    | (go_at_call 20; refine HC.out.mono ?_; rintro r w3 ⟨rfl, hx⟩; replace hx := Aside0.mk hx))
  go_returns
  exact ⟨rfl, hx.out⟩
/-- Put. -/
theorem put_calls {W : World} {c : Nat} {F : Nat → Prop} {M : List (ByteArray × Int)} {N : Nat} (h : Ca W c F M N) (hN : N < 4096) {k : ByteArray} (hk : k.size ≤ maxLen) {t : Int} (h0 : 0 ≤ t) (hw : t < 18446744073709551616) :
    Calls Try.prog 16 #[.pointer (some ⟨c, 0, none⟩), .string k, .int .u64 t] W fun e w' => e = .returned (.tuple #[]) ∧ ∃ F2, CaN W w' c F (putF M k t) (N + 1) F2 := by
  obtain ⟨gm, o, v, l, D, h⟩ := h
  by_cases hm : ∃ t0, (k, t0) ∈ M
  · obtain ⟨t0, hm⟩ := hm
    obtain ⟨i, hi, ek, et⟩ := h.find hm
    simp only at ek et
    by_cases ht : (at_ l i).t < t
    · have h1 := put_more h hi ht hw
      rw [putF_in hm]
      rw [ek] at h1
      refine h1.mono ?_
      rintro e w' ⟨rfl, ⟨l', M', hc, rfl⟩, hm'⟩
      exact ⟨rfl, F, ⟨gm, o, v, l', D, ⟨hc.q, hc.own.mono (Nat.le_succ _), hc.map, hc.kd, hc.hp, hc.pm, hc.ok⟩⟩, fun j hj => .inl hj, hm'⟩
    · have h1 := put_old h hi ht
      rw [putF_same h.nd hm (by omega)]
      rw [ek] at h1
      refine h1.mono ?_
      rintro e w' ⟨rfl, rfl⟩
      exact ⟨rfl, F, ⟨gm, o, v, l, D, ⟨h.q, h.own.mono (Nat.le_succ _), h.map, h.kd, h.hp, h.pm, h.ok⟩⟩, fun j hj => .inl hj, Mvs.refl _⟩
  · have hm : ∀ t0, (k, t0) ∉ M := fun t0 h => hm ⟨t0, h⟩
    rw [putF_out hm]
    exact put_new h hN hk hm h0 hw
end Go.Proofs.Ytkomjplajfjpkaa.Ext
