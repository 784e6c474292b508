/- Both caches, side by side; the law's play. By hand. -/
import Derived.Test.YtkomjplajfjpkaaRfn
namespace Go.Proofs.Ytkomjplajfjpkaa.Ext
open Go.RowKit Go.Proofs.Ytkomjplajfjpkaa.Hea Go.Proofs.YtkomjplajfjpkaaW.PrintWords Go.Proofs.YtkomjplajfjpkaaW.PrintLast Go.Proofs.YtkomjplajfjpkaaW.PrintMore
open Go.Maps (Keyed)
set_option linter.unusedVariables false
set_option linter.unusedSimpArgs false
/-- The program's cache and the document's, apart from one another and from the blocks of X. -/
structure Px (X : Nat → Prop) (w W : World) (a r : Nat) (Ma Mr : Row) (N : Nat) : Prop where
  ex : ∃ F G v, Ca W a F Ma N ∧ Rf W r G v Mr ∧ (∀ k, F k → w.heap.size ≤ k) ∧ (∀ k, G k → w.heap.size ≤ k) ∧ (∀ k, F k → ¬ G k) ∧ (∀ k, X k → ¬ F k ∧ ¬ G k ∧ k < W.heap.size)
  bel : Below w.heap.size w W
def Kep (X : Nat → Prop) (W w' : World) : Prop := ∀ k, X k → w'.heap[k]? = W.heap[k]?
section
variable {X : Nat → Prop} {w W W' : World} {a r : Nat} {Ma Mr : Row} {N : Nat}
theorem Px.below (h : Px X w W a r Ma Mr N) (hb : Below W.heap.size W W') : Px X w W' a r Ma Mr N := by
  obtain ⟨⟨F, G, v, ha, hr, h1, h2, h3, h4⟩, hbel⟩ := h
  exact ⟨⟨F, G, v, ha.below hb, hr.below hb, h1, h2, h3, fun k hk => ⟨(h4 k hk).1, (h4 k hk).2.1, Nat.lt_of_lt_of_le (h4 k hk).2.2 hb.size⟩⟩, below_then hbel hbel.size hb⟩
theorem Px.none_ (h : Px X w W a r Ma Mr N) : Px (fun _ => False) w W a r Ma Mr N := by
  obtain ⟨⟨F, G, v, ha, hr, h1, h2, h3, h4⟩, hbel⟩ := h
  exact ⟨⟨F, G, v, ha, hr, h1, h2, h3, fun k hk => hk.elim⟩, hbel⟩
/-- A new block is apart from both. -/
theorem Px.boxed (h : Px X w W a r Ma Mr N) (o : Obj) : Px (fun k => k = W.heap.size) w (W.alloc o) a r Ma Mr N := by
  have h' := h.below (below_alloc (Below.refl _ _) o)
  obtain ⟨⟨F, G, v, ha, hr, h1, h2, h3, h4⟩, hbel⟩ := h
  exact ⟨⟨F, G, v, ha.below (below_alloc (Below.refl _ _) o), hr.below (below_alloc (Below.refl _ _) o), h1, h2, h3, fun k hk => by
    subst hk
    exact ⟨fun hf => by have := ha.lt _ hf; omega, fun hg => by have := hr.lt _ hg; omega, by simp⟩⟩, h'.bel⟩
theorem Px.more {N' : Nat} (h : Px X w W a r Ma Mr N) (hN : N ≤ N') : Px X w W a r Ma Mr N' := by
  obtain ⟨⟨F, G, v, ha, hr, h1, h2, h3, h4⟩, hbel⟩ := h
  exact ⟨⟨F, G, v, ha.more hN, hr, h1, h2, h3, h4⟩, hbel⟩
theorem Px.one (h : Px X w W a r Ma Mr N) : Own w W a Ma N := by
  obtain ⟨⟨F, G, v, ha, hr, h1, h2, h3, h4⟩, hbel⟩ := h
  exact ⟨⟨F, ha, h1⟩, hbel⟩
theorem Px.row (h : Px X w W a r Ma Mr N) : ∃ A cap, W.cell? ⟨r, 0, none⟩ = some (.slice A Mr.length cap) := by
  obtain ⟨⟨F, G, v, ha, hr, h1, h2, h3, h4⟩, hbel⟩ := h
  obtain ⟨A, cap, rfl⟩ := hr.form
  exact ⟨A, cap, hr.cell0⟩
theorem px_put (h : Px X w W a r Ma Mr N) (hN : N < 4096) {k : ByteArray} (hk : k.size ≤ maxLen) {t : Int} (h0 : 0 ≤ t) (hw : t < 18446744073709551616) :
    Calls Try.prog 16 #[.pointer (some ⟨a, 0, none⟩), .string k, .int .u64 t] W fun e w' => e = .returned (.tuple #[]) ∧ Px X w w' a r (putF Ma k t) Mr (N + 1) ∧ Kep X W w' := by
  obtain ⟨⟨F, G, v, ha, hr, h1, h2, h3, h4⟩, hbel⟩ := h
  refine (put_calls ha hN hk h0 hw).mono ?_
  rintro e w' ⟨rfl, F2, hn⟩
  refine ⟨rfl, ⟨⟨F2, G, v, hn.ca, hr.apart hn.mv (fun k hk hk' => h3 k hk' hk), fun j hj => ?_, h2, fun j hj hj' => ?_, fun j hj => ⟨fun hf => ?_, (h4 j hj).2.1, Nat.lt_of_lt_of_le (h4 j hj).2.2 hn.mv.size⟩⟩, hn.mv.below hbel hbel.size h1⟩, fun j hj => hn.mv.block j (h4 j hj).2.2 (h4 j hj).1⟩
  · rcases hn.old j hj with g | g
    · exact h1 j g
    · exact Nat.le_trans hbel.size g
  · rcases hn.old j hj with g | g
    · exact h3 j g hj'
    · have := hr.lt j hj'; omega
  · rcases hn.old j hf with g | g
    · exact (h4 j hj).1 g
    · have := (h4 j hj).2.2; omega
theorem px_expire (h : Px X w W a r Ma Mr N) (hN : N ≤ 4096) (now : Int) :
    Calls Try.prog 17 #[.pointer (some ⟨a, 0, none⟩), .int .u64 now] W fun e w' => e = .returned (.int .i64 ((Ma.length - (expF Ma now).length : Nat) : Int)) ∧ Px X w w' a r (expF Ma now) Mr N ∧ Kep X W w' := by
  obtain ⟨⟨F, G, v, ha, hr, h1, h2, h3, h4⟩, hbel⟩ := h
  refine (expire_calls ha hN now).mono ?_
  rintro e w' ⟨rfl, g1, hm⟩
  exact ⟨rfl, ⟨⟨F, G, v, g1, hr.apart hm (fun k hk hk' => h3 k hk' hk), h1, h2, h3, fun j hj => ⟨(h4 j hj).1, (h4 j hj).2.1, Nat.lt_of_lt_of_le (h4 j hj).2.2 hm.size⟩⟩, hm.below hbel hbel.size h1⟩, fun j hj => hm.block j (h4 j hj).2.2 (h4 j hj).1⟩
theorem px_of_ref {w' : World} {Mr' : Row} {v' : Value} {G' F G : Nat → Prop} (ha : Ca W a F Ma N) (h1 : ∀ k, F k → w.heap.size ≤ k) (h2 : ∀ k, G k → w.heap.size ≤ k) (h3 : ∀ k, F k → ¬ G k) (h4 : ∀ k, X k → ¬ F k ∧ ¬ G k ∧ k < W.heap.size) (hbel : Below w.heap.size w W) (hn : RfN W w' r G Mr' v' G') :
    Px X w w' a r Ma Mr' N ∧ Kep X W w' := by
  refine ⟨⟨⟨F, G', v', ha.apart hn.mv h3, hn.rf, h1, fun j hj => ?_, fun j hj hj' => ?_, fun j hj => ⟨(h4 j hj).1, fun hg => ?_, Nat.lt_of_lt_of_le (h4 j hj).2.2 hn.mv.size⟩⟩, hn.mv.below hbel hbel.size h2⟩, fun j hj => hn.mv.block j (h4 j hj).2.2 (h4 j hj).2.1⟩
  · rcases hn.old j hj with g | g
    · exact h2 j g
    · exact Nat.le_trans hbel.size g
  · rcases hn.old j hj' with g | g
    · exact h3 j hj g
    · have := ha.lt j hj; omega
  · rcases hn.old j hg with g | g
    · exact (h4 j hj).2.1 g
    · have := (h4 j hj).2.2; omega
theorem px_rput (h : Px X w W a r Ma Mr N) (hnd : Nd Mr) (hM : Mr.length < 4096) (k : ByteArray) (t : Int) :
    Calls Try.prog 18 #[.pointer (some ⟨r, 0, none⟩), .string k, .int .u64 t] W fun e w' => e = .returned (.tuple #[]) ∧ Px X w w' a r Ma (putF Mr k t) N ∧ Kep X W w' := by
  obtain ⟨⟨F, G, v, ha, hr, h1, h2, h3, h4⟩, hbel⟩ := h
  refine (rput_calls hr hnd hM k t).mono ?_
  rintro e w' ⟨rfl, v', G', hn⟩
  exact ⟨rfl, px_of_ref ha h1 h2 h3 h4 hbel hn⟩
theorem px_rexpire (h : Px X w W a r Ma Mr N) (now : Int) :
    Calls Try.prog 19 #[.pointer (some ⟨r, 0, none⟩), .int .u64 now] W fun e w' => e = .returned (.int .i64 ((Mr.length - (expF Mr now).length : Nat) : Int)) ∧ Px X w w' a r Ma (expF Mr now) N ∧ Kep X W w' := by
  obtain ⟨⟨F, G, v, ha, hr, h1, h2, h3, h4⟩, hbel⟩ := h
  refine (rexpire_calls hr now).mono ?_
  rintro e w' ⟨rfl, v', G', hn⟩
  exact ⟨rfl, px_of_ref ha h1 h2 h3 h4 hbel hn⟩
theorem px_rhas (h : Px X w W a r Ma Mr N) (hnd : Nd Mr) (k : ByteArray) (t : Int) : Calls Try.prog 15 #[.pointer (some ⟨r, 0, none⟩), .string k, .int .u64 t] W fun e w' => e = .returned (.bool (hasF Mr k t)) ∧ w' = W := by
  obtain ⟨⟨F, G, v, ha, hr, h1, h2, h3, h4⟩, hbel⟩ := h
  exact rhas_calls hr hnd k t
theorem px_next (h : Px X w W a r Ma Mr N) {k : ByteArray} {t : Int} {q : Bool} (hn : IsNext Ma k t q) : Calls Try.prog 11 #[.pointer (some ⟨a, 0, none⟩)] W fun e w' => e = .returned (.tuple #[.string k, .int .u64 t, .bool q]) ∧ Px X w w' a r Ma Mr N := by
  have h' := h
  obtain ⟨⟨F, G, v, ha, hr, h1, h2, h3, h4⟩, hbel⟩ := h
  refine (next_calls ha).mono ?_
  rintro e w' ⟨k', t', b', rfl, g1, g2⟩
  obtain ⟨rfl, rfl, rfl⟩ := g1.one hn
  exact ⟨rfl, h'.below g2⟩
theorem px_rnext (h : Px X w W a r Ma Mr N) {k : ByteArray} {t : Int} {q : Bool} (hn : IsNext Mr k t q) : Calls Try.prog 12 #[.pointer (some ⟨r, 0, none⟩)] W fun e w' => e = .returned (.tuple #[.string k, .int .u64 t, .bool q]) ∧ Px X w w' a r Ma Mr N := by
  have h' := h
  obtain ⟨⟨F, G, v, ha, hr, h1, h2, h3, h4⟩, hbel⟩ := h
  refine (rnext_calls hr).mono ?_
  rintro e w' ⟨k', t', b', rfl, g1, g2⟩
  obtain ⟨rfl, rfl, rfl⟩ := g1.one hn
  exact ⟨rfl, h'.below g2⟩
end
/-- What play leaves: the same of both. -/
structure PlN (w w' : World) (a r : Nat) (N : Nat) : Prop where
  ex : ∃ M, Px (fun _ => False) w w' a r M M (N + 1) ∧ M.length ≤ N + 1
theorem px_nd {X : Nat → Prop} {w W : World} {a r : Nat} {Ma Mr : Row} {N : Nat} (h : Px X w W a r Ma Mr N) : Nd Ma := (own_ok h.one).1
theorem bv_cell {w1 w2 : World} {q : Nat} {t : TypeId} {cs : Array Value} (h : w1.heap[q]? = some (.cells cs t (0, 0))) (hk : Kep (fun k => k = q) w1 w2) : w2.heap[q]? = some (.cells cs t (0, 0)) := (hk q rfl).trans h
set_option maxRecDepth 100000 in
set_option maxHeartbeats 8000000 in
theorem play_calls {w W : World} {a r : Nat} {M : Row} {N : Nat} (h : Px (fun _ => False) w W a r M M N) (hN : N < 4000) (hM : M.length ≤ N) (K : Int) {k : ByteArray} (hk : k.size ≤ maxLen) {t : Int} (h0 : 0 ≤ t) (hw : t < 18446744073709551616) :
    Calls Try.prog 10 #[.pointer (some ⟨a, 0, none⟩), .pointer (some ⟨r, 0, none⟩), .agg #[.int .i64 K, .string k, .int .u64 t]] W fun e w' => e = .returned (.bool true) ∧ PlN w w' a r N := by
  obtain ⟨q, hq⟩ : ∃ q, W.heap.size = q := ⟨_, rfl⟩
  obtain ⟨W1, hW1⟩ : ∃ W1, W.alloc (.cells #[.int .i64 K, .string k, .int .u64 t] 33) = W1 := ⟨_, rfl⟩
  have H1 := h.boxed (.cells #[.int .i64 K, .string k, .int .u64 t] 33)
  have hb : W1.heap[q]? = some (.cells #[.int .i64 K, .string k, .int .u64 t] 33 (0, 0)) := by rw [← hW1, ← hq]; exact blk_new _ _
  rw [hW1, hq] at H1
  have hnd := px_nd h
  have H1 := Aside0.mk H1
  have c0 := blk_cell hb 0
  have c1 := blk_cell hb 1
  have c2 := blk_cell hb 2
  have HB := Aside0.mk hb
  have HND := Aside0.mk hnd
  clear h hb hnd
  obtain ⟨x, hx⟩ : ∃ x, bits .and .i64 K 3 = x := ⟨_, rfl⟩
  by_cases hx0 : x = 0
  · subst hx0
    go_enter Try.func10, Try.ntmps10
    go_wp2_with (first
      | (go_at_call 16; refine (px_put H1.out (by omega) hk h0 hw).mono ?_; rintro e w2 ⟨rfl, h2, hkp⟩; have hb2 := bv_cell HB.out hkp; have d1 := blk_cell hb2 1; have d2 := blk_cell hb2 2; clear hb2 hkp; have H2 := Aside0.mk h2; clear h2)
      | (go_at_call 18; refine (px_rput H2.out HND.out (by omega) k t).mono ?_; rintro e w3 ⟨rfl, h3, hkp⟩; clear hkp; have H3 := Aside0.mk h3.none_; clear h3))
    go_ret
    exact ⟨rfl, ⟨_, H3.out, by have := putF_len M k t; omega⟩⟩
  have x0 : (x == 0) = false := by rw [beq_eq_false_iff_ne]; exact hx0
  by_cases hx1 : x = 1
  · subst hx1
    go_enter Try.func10, Try.ntmps10
    go_wp2_with (first
      | (go_at_call 16; refine (px_put H1.out (by omega) hk h0 hw).mono ?_; rintro e w2 ⟨rfl, h2, hkp⟩; have hb2 := bv_cell HB.out hkp; have d1 := blk_cell hb2 1; have d2 := blk_cell hb2 2; clear hb2 hkp; have H2 := Aside0.mk h2; clear h2)
      | (go_at_call 18; refine (px_rput H2.out HND.out (by omega) k t).mono ?_; rintro e w3 ⟨rfl, h3, hkp⟩; clear hkp; have H3 := Aside0.mk h3.none_; clear h3))
    go_ret
    exact ⟨rfl, ⟨_, H3.out, by have := putF_len M k t; omega⟩⟩
  have x1 : (x == 1) = false := by rw [beq_eq_false_iff_ne]; exact hx1
  by_cases hx2 : x = 2
  · subst hx2
    have HA : Aside0 (∀ j, Calls Try.prog 14 #[.pointer (some ⟨a, 0, none⟩), .string k, .int .u64 t] (W1.drewN j) fun e w' => e = .returned (.bool (hasF M k t)) ∧ w' = W1.drewN j) := ⟨fun j => own_has (H1.out.below (pw_below_drewN (Below.refl _ _) j)).one hk t⟩
    have HR : Aside0 (∀ j, Calls Try.prog 15 #[.pointer (some ⟨r, 0, none⟩), .string k, .int .u64 t] (W1.drewN j) fun e w' => e = .returned (.bool (hasF M k t)) ∧ w' = W1.drewN j) := ⟨fun j => px_rhas (H1.out.below (pw_below_drewN (Below.refl _ _) j)) HND.out k t⟩
    generalize hasF M k t = hh at *
    go_enter Try.func10, Try.ntmps10
    go_wp2_with (fail)
    go_quiet (first
      | (go_at_call 14; refine (HA.out _).mono ?_; rintro e w8 ⟨rfl, rfl⟩; exact ⟨rfl, _, rfl⟩)
      | (go_at_call 15; refine (HR.out _).mono ?_; rintro e w8 ⟨rfl, rfl⟩; exact ⟨rfl, _, rfl⟩))
    all_goals
      go_wp2
      go_ret
      exact ⟨by simp, ⟨_, (H1.out.below (pw_below_drewN (Below.refl _ _) _)).none_.more (Nat.le_succ _), by omega⟩⟩
  have x2 : (x == 2) = false := by rw [beq_eq_false_iff_ne]; exact hx2
  by_cases hx3 : x = 3
  · subst hx3
    have HE2 : Aside0 (∀ V, Px (fun k => k = q) w V a r (expF M t) M N → Calls Try.prog 19 #[.pointer (some ⟨r, 0, none⟩), .int .u64 t] V fun e w' => e = .returned (.int .i64 ((M.length - (expF M t).length : Nat) : Int)) ∧ Px (fun k => k = q) w w' a r (expF M t) (expF M t) N ∧ Kep (fun k => k = q) V w') := ⟨fun V h => px_rexpire h t⟩
    have HE1 : Aside0 (∀ V, Below W1.heap.size W1 V → Calls Try.prog 17 #[.pointer (some ⟨a, 0, none⟩), .int .u64 t] V fun e w' => e = .returned (.int .i64 ((M.length - (expF M t).length : Nat) : Int)) ∧ Px (fun k => k = q) w w' a r (expF M t) M N ∧ Kep (fun k => k = q) V w') := ⟨fun V h => px_expire (H1.out.below h) (by omega) t⟩
    have hel := exp_len M t
    generalize expF M t = M2 at *
    generalize M.length - M2.length = d at *
    go_enter Try.func10, Try.ntmps10
    go_wp2_with (fail)
    go_region_held3 (fun V => V.cell? ⟨q, 2, none⟩ = some (.int .u64 t)) (first | exact d3 | exact d2 | exact c2) (first
      | (have z_ := H2; clear z_; go_at_call 19; refine (HE2.out _ (H2.out.below (by first | exact Below.refl _ _ | exact below_drew (Below.refl _ _)))).mono ?_; rintro e w3 ⟨rfl, h3, hkp⟩; have d3 : w3.cell? ⟨q, 2, none⟩ = some (.int .u64 t) := blk_cell (bv_cell HB2.out hkp) 2; clear hkp; have H3 := Aside0.mk h3.none_; clear h3)
      | (go_at_call 17; refine (HE1.out _ (by first | exact Below.refl _ _ | exact below_drew (Below.refl _ _))).mono ?_; rintro e w2 ⟨rfl, h2, hkp⟩; have hb2 := bv_cell (blk_drew HB.out) hkp; have d2 : w2.cell? ⟨q, 2, none⟩ = some (.int .u64 t) := blk_cell hb2 2; have HB2 := Aside0.mk hb2; clear hb2 hkp; have H2 := Aside0.mk h2; clear h2))
    all_goals
      go_wp2
      go_ret
      exact ⟨by simp, ⟨_, H3.out.more (Nat.le_succ _), by omega⟩⟩
  · have x3 : (x == 3) = false := by rw [beq_eq_false_iff_ne]; exact hx3
    go_enter Try.func10, Try.ntmps10
    go_wp2_with (fail)
    go_ret
    exact ⟨rfl, ⟨_, H1.out.none_.more (Nat.le_succ _), by omega⟩⟩
end Go.Proofs.Ytkomjplajfjpkaa.Ext
