/- The queue's Push and Pop; heap.Push, Fix, Pop. By hand. -/
import Derived.Test.YtkomjplajfjpkaaDwn
namespace Go.Proofs.Ytkomjplajfjpkaa.Ext
open Go.RowKit Go.Proofs.Ytkomjplajfjpkaa.Hea Go.Proofs.YtkomjplajfjpkaaW.PrintWords Go.Proofs.YtkomjplajfjpkaaW.PrintLast Go.Proofs.YtkomjplajfjpkaaW.PrintMore
set_option linter.unusedVariables false
set_option linter.unusedSimpArgs false
theorem info54 : (Try.prog.info? 54).map (fun i => (i.zero, i.size, i.bytes)) = some (some (.pointer none), 1, 8) := by kernel_rfl
theorem at_app_lt {l : List Ent} {e : Ent} {i : Nat} (h : i < l.length) : at_ (l ++ [e]) i = at_ l i := by
  unfold at_
  rw [List.getD_eq_getElem?_getD, List.getD_eq_getElem?_getD, List.getElem?_append_left h]
theorem at_app_eq (l : List Ent) (e : Ent) : at_ (l ++ [e]) l.length = e := by
  unfold at_
  rw [List.getD_eq_getElem?_getD, List.getElem?_append_right (Nat.le_refl _)]
  simp
theorem ptrs_app (l : List Ent) (e : Ent) : ptrs (l ++ [e]) = ptrs l ++ [pv e.b] := by unfold ptrs; rw [List.map_append]; rfl
section
variable {W W' : World} {c gm : Nat} {o : Obj} {F : Nat → Prop} {v : Value} {l : List Ent} {a a' : Nat → Int}
theorem Q0.mono (h : Q0 W c gm o F v l a) {G : Nat → Prop} (hG : ∀ k, F k → G k) (hl : ∀ k, G k → k < W.heap.size) : Q0 W c gm o G v l a :=
  ⟨h.blk, h.mp, h.mo, h.row, h.ent, h.nd, hG _ h.fc, hG _ h.fm, fun k hk => hG _ (h.fv k hk), fun i hi => hG _ (h.fe i hi), hl, h.sm⟩
/-- Another entry, elsewhere, is written: the queue stays. -/
theorem Q0.away (h : Q0 W c gm o F v l a) {e : Nat} {cs : Array Value} (he : W.heap[e]? = some (.cells cs 53 (0, 0))) (hne : ∀ i, i < l.length → (at_ l i).b ≠ e) (j : Nat) (u : Value) : Q0 (W.setCell ⟨e, j, none⟩ u) c gm o F v l a := by
  have far : ∀ k, k ≠ e → (W.setCell ⟨e, j, none⟩ u).heap[k]? = W.heap[k]? := fun k hk => Below.heap_setCell W ⟨e, j, none⟩ _ k hk
  refine ⟨(far _ (blk_ne h.blk he (by decide))).trans h.blk, (far _ (fun e' => ?_)).trans h.mp, h.mo, own_move h.row (fun k hk => far _ (fun e' => ?_)), fun i hi => (far _ (hne i hi)).trans (h.ent i hi), h.nd, h.fc, h.fm, h.fv, h.fe, fun k hk => by simpa [World.setCell] using h.lt k hk, h.sm⟩
  · have h1 := h.mp
    obtain ⟨es, cl, rfl⟩ := h.mo
    rw [e', he] at h1
    cases h1
  · obtain ⟨cells, h1⟩ := h.typ hk
    exact blk_ne h1 he (by decide) e'
theorem Q0.push (h : Q0 W c gm o F v l a) {e : Nat} {k : ByteArray} {t x : Int} (he : W.heap[e]? = some (.cells #[.string k, .int .u64 t, .int .i64 x] 53 (0, 0))) (hF : F e) (hne : ∀ i, i < l.length → (at_ l i).b ≠ e) (hn : l.length < 4096)
    {v1 : Value} {w2 : World} (ho : w2.ownsRow 0 54 1 v1 (l.length + 1) (ptrs l ++ [pv e])) (hg : W.grownBy w2 v.ownBlock) (hat : v1.ownBlock = v.ownBlock ∨ ∃ b, v1.ownBlock = some b ∧ W.heap.size ≤ b) :
    ∃ F2, Q0 (w2.setCell ⟨c, 1, none⟩ v1) c gm o F2 v1 (l ++ [⟨e, k, t⟩]) (fun i => if i = l.length then x else a i) ∧ (∀ k, F2 k → F k ∨ W.heap.size ≤ k) ∧ (∀ k, F k → F2 k) ∧ Mvs F W (w2.setCell ⟨c, 1, none⟩ v1) := by
  have hc : w2.heap[c]? = some (.cells #[.map (some gm), v] 51 (0, 0)) := blk_grown h.blk hg (fun e' => h.nqc e'.symm rfl)
  have far : ∀ k, k ≠ c → (w2.setCell ⟨c, 1, none⟩ v1).heap[k]? = w2.heap[k]? := fun k hk => Below.heap_setCell w2 ⟨c, 1, none⟩ _ k hk
  have old : ∀ k, k < W.heap.size → k ≠ c → v.ownBlock ≠ some k → (w2.setCell ⟨c, 1, none⟩ v1).heap[k]? = W.heap[k]? := fun k hk h1 h2 => (far k h1).trans (hg.block k hk (fun e' => h2 e'.symm))
  have hle : e ≠ c := fun e' => (blk_ne h.blk he (by decide)) e'.symm
  have hlv : v.ownBlock ≠ some e := fun e' => by
    obtain ⟨cells, h1⟩ := h.typ e'
    exact blk_ne h1 he (by decide) rfl
  refine ⟨fun k => F k ∨ v1.ownBlock = some k, ⟨?_, ?_, h.mo, ?_, fun i hi => ?_, fun i j hi hj hij => ?_, .inl h.fc, .inl h.fm, fun k hk => .inr hk, fun i hi => ?_, fun k hk => ?_, by simp; omega⟩, fun k hk => ?_, fun k hk => .inl hk, ?_⟩
  · exact blk_put hc 1 _ rfl
  · exact (old gm (blk_lt h.mp) (Ne.symm h.ncm) (fun e' => h.nqm e' rfl)).trans h.mp
  · rw [ptrs_app]
    have hl : (l ++ [(⟨e, k, t⟩ : Ent)]).length = l.length + 1 := by simp
    rw [hl]
    exact own_move ho (fun k hk => far k (fun e' => by
      obtain ⟨cells, h1⟩ := own_typed ho k hk
      exact blk_ne h1 hc (by decide) e'))
  · by_cases e1 : i = l.length
    · subst e1
      rw [at_app_eq, if_pos rfl]
      exact (old e (blk_lt he) hle hlv).trans he
    · have hi' : i < l.length := by simp at hi; omega
      rw [at_app_lt hi', if_neg e1]
      exact (old _ (blk_lt (h.ent i hi')) (Ne.symm (h.nce hi')) (fun e' => h.nqe hi' e' rfl)).trans (h.ent i hi')
  · by_cases e1 : i = l.length <;> by_cases e2 : j = l.length
    · omega
    · have hj' : j < l.length := by simp at hj; omega
      rw [e1, at_app_eq, at_app_lt hj'] at hij
      exact absurd hij.symm (hne j hj')
    · have hi' : i < l.length := by simp at hi; omega
      rw [e2, at_app_eq, at_app_lt hi'] at hij
      exact absurd hij (hne i hi')
    · have hi' : i < l.length := by simp at hi; omega
      have hj' : j < l.length := by simp at hj; omega
      rw [at_app_lt hi', at_app_lt hj'] at hij
      exact h.nd _ _ hi' hj' hij
  · by_cases e1 : i = l.length
    · subst e1; rw [at_app_eq]; exact .inl hF
    · have hi' : i < l.length := by simp at hi; omega
      rw [at_app_lt hi']; exact .inl (h.fe i hi')
  · have hs : w2.heap.size = (w2.setCell ⟨c, 1, none⟩ v1).heap.size := by simp [World.setCell]
    rw [← hs]
    rcases hk with hk | hk
    · exact Nat.lt_of_lt_of_le (h.lt k hk) hg.size
    · obtain ⟨cells, h1⟩ := own_typed ho k hk
      exact blk_lt h1
  · rcases hk with hk | hk
    · exact .inl hk
    · rcases hat with h1 | ⟨b, h1, h2⟩
      · exact .inl (h.fv k (h1 ▸ hk))
      · rw [h1] at hk
        injection hk with hk
        exact .inr (hk ▸ h2)
  · exact ((Mvs.refl W).grown hg (fun k hk => h.fv k hk)).set (p := ⟨c, 1, none⟩) h.fc _
end
theorem ob_len (A : Option Addr) (n m cap : Nat) : (Value.slice A n cap).ownBlock = (Value.slice A m cap).ownBlock := by cases A <;> rfl
theorem own_form {w : World} {base e size n : Nat} {v : Value} {xs : List Value} (h : w.ownsRow base e size v n xs) : ∃ A cap, v = .slice A n cap := by
  rcases h.2 with ⟨hv, hn⟩ | ⟨g, cap, cur, hv, _⟩
  · exact ⟨none, 0, by rw [hv, hn]⟩
  · exact ⟨_, cap, hv⟩
theorem ta54 (e : Nat) : ∀ w, (Instr.typeAssert (.iface 54 (.pointer (some ⟨e, 0, none⟩))) 20 54 false).run Try.prog w = .ok (.pointer (some ⟨e, 0, none⟩)) w := by
  intro w
  kernel_rfl
set_option maxHeartbeats 2000000 in
theorem qpush_calls {W : World} {c gm : Nat} {o : Obj} {F : Nat → Prop} {v : Value} {l : List Ent} (h : Qu W c gm o F v l) {e : Nat} {k : ByteArray} {t x : Int} (he : W.heap[e]? = some (.cells #[.string k, .int .u64 t, .int .i64 x] 53 (0, 0))) (hF : F e) (hne : ∀ i, i < l.length → (at_ l i).b ≠ e) (hn : l.length < 4096) :
    Calls Try.prog 50 #[.pointer (some ⟨c, 1, none⟩), .iface 54 (.pointer (some ⟨e, 0, none⟩))] W fun r w' => r = .returned (.tuple #[]) ∧ ∃ v' F2, Qu w' c gm o F2 v' (l ++ [⟨e, k, t⟩]) ∧ (∀ k, F2 k → F k ∨ W.heap.size ≤ k) ∧ (∀ k, F k → F2 k) ∧ Mvs F W w' := by
  obtain ⟨A, cap, rfl⟩ := h.form
  have cQ := h.cell1
  have ce := blk_cell he 2
  have fe := blk_frozen he 2
  have hce : e ≠ c := fun e' => (blk_ne h.blk he (by decide)) e'.symm
  have h1 := h.away he hne 2 (.int .i64 (l.length : Int))
  have he1 := blk_put he 2 (.int .i64 (l.length : Int)) rfl
  have m1 : Mvs F W (W.setCell ⟨e, 2, none⟩ (.int .i64 (l.length : Int))) := (Mvs.refl W).set (p := ⟨e, 2, none⟩) hF _
  have hs1 : (W.setCell ⟨e, 2, none⟩ (.int .i64 (l.length : Int))).heap.size = W.heap.size := by simp [World.setCell]
  obtain ⟨W1, hW1⟩ : ∃ W1, W.setCell ⟨e, 2, none⟩ (.int .i64 (l.length : Int)) = W1 := ⟨_, rfl⟩
  rw [hW1] at h1 he1 m1 hs1
  have cQ1 := h1.cell1
  have HH := Aside0.mk (And.intro h1 (And.intro he1 m1))
  have HS := Aside0.mk hs1
  clear h h1 he he1 m1 hs1
  have hta := ta54 e
  go_enter Try.func50, Try.ntmps50
  go_wp2_with (first | ((with_reducible refine gate_builtin (b := .append) (xs := #[.tmp 17, .tmp 19]) rfl ?_); at_builtin; go_loud (refine print_append_cells (w0 := W1) 0 rfl (.tmp 17) (.tmp 19) 49 54 (.pointer none) 1 8 rfl Try.underlying49 info54 rfl (by decide) (by decide) (.slice A l.length cap) l.length (ptrs l) [pv e] rfl rfl rfl (fun u hu => by rw [List.mem_singleton.1 hu]; rfl) HH.out.1.row (Below.refl _ _) (Nat.zero_le _) (by omega) ?_); intro v1 w2 ho hb hg hat; obtain ⟨A1, cap1, rfl⟩ := own_form ho; have hc2 := blk_grown HH.out.1.blk hg (fun e' => HH.out.1.nqc e'.symm rfl); have cc2 := blk_cell hc2 1; have ff2 := blk_frozen hc2 1; have HP := Aside0.mk (HH.out.1.push HH.out.2.1 hF hne hn ho hg hat); clear ho hb hg hat hc2))
  go_returns
  obtain ⟨F2, h1, h2, h3, h4⟩ := HP.out
  exact ⟨rfl, _, F2, h1.congr (fun i hi => by split <;> simp_all), fun k hk => (h2 k hk).imp_right (fun h => by rw [HS.out] at h; exact h), h3, HH.out.2.2.trans' h4⟩
section
variable {W W' : World} {c gm : Nat} {o : Obj} {F : Nat → Prop} {v : Value} {l : List Ent} {a a' : Nat → Int}
theorem at_take {l : List Ent} {n i : Nat} (h : i < n) : at_ (l.take n) i = at_ l i := by
  unfold at_
  rw [List.getD_eq_getElem?_getD, List.getD_eq_getElem?_getD, List.getElem?_take, if_pos h]
theorem Q0.cap (h : Q0 W c gm o F v l a) {A : Option Addr} {n cap : Nat} (hv : v = .slice A n cap) : l.length ≤ cap := by
  rcases h.row.2 with ⟨hv', hn⟩ | ⟨g, cap', cur, hv', _, _, hn, _⟩
  · omega
  · rw [hv] at hv'; injection hv' with _ _ e3; omega
theorem Q0.take {A : Option Addr} {cap : Nat} (h : Q0 W c gm o F (.slice A l.length cap) l a) {n : Nat} (hn : n ≤ l.length) : Q0 (W.setCell ⟨c, 1, none⟩ (.slice A n cap)) c gm o F (.slice A n cap) (l.take n) a := by
  have far : ∀ k, k ≠ c → (W.setCell ⟨c, 1, none⟩ (.slice A n cap)).heap[k]? = W.heap[k]? := fun k hk => Below.heap_setCell W ⟨c, 1, none⟩ _ k hk
  have hl : (l.take n).length = n := by rw [List.length_take]; omega
  refine ⟨blk_put h.blk 1 _ rfl, (far _ (Ne.symm h.ncm)).trans h.mp, h.mo, ?_, fun i hi => ?_, fun i j hi hj hij => ?_, h.fc, h.fm, ?_, fun i hi => ?_, fun k hk => by simpa [World.setCell] using h.lt k hk, by have := h.sm; omega⟩
  · rw [hl]
    have hr : W.ownsRow 0 54 1 (.slice A n cap) n (ptrs (l.take n)) := by
      obtain ⟨h1, h2⟩ := h.row
      refine ⟨by unfold ptrs; simp; omega, ?_⟩
      rcases h2 with ⟨hv, hn0⟩ | ⟨g, cap', cur, hv, hg, hh, hn', hm, hc, ht⟩
      · injection hv with e1 e2 e3
        left; subst e1; subst e3
        exact ⟨by rw [show n = 0 by omega], by omega⟩
      · injection hv with e1 e2 e3
        subst e1; subst e3
        refine .inr ⟨g, cap, cur, rfl, hg, hh, by omega, hm, hc, ?_⟩
        have e4 : ptrs (l.take n) = (ptrs l).take n := by unfold ptrs; rw [List.map_take]
        rw [e4, ← ht, Nat.mul_one, Nat.mul_one, List.take_take, Nat.min_eq_left hn]
    exact own_move hr (fun k hk => far k (h.nqc (k := k) ((ob_len A n l.length cap).symm.trans hk)))
  · rw [hl] at hi
    rw [at_take hi]
    exact (far _ (Ne.symm (h.nce (by omega)))).trans (h.ent i (by omega))
  · rw [hl] at hi hj
    rw [at_take hi, at_take hj] at hij
    exact h.nd _ _ (by omega) (by omega) hij
  · intro k hk
    exact h.fv k ((ob_len A n l.length cap).symm.trans hk)
  · rw [hl] at hi
    rw [at_take hi]
    exact h.fe i (by omega)
end
theorem qpop_calls {W : World} {c gm : Nat} {o : Obj} {F : Nat → Prop} {v : Value} {l : List Ent} (h : Qu W c gm o F v l) {n : Nat} (hn : n + 1 = l.length) :
    Calls Try.prog 49 #[.pointer (some ⟨c, 1, none⟩)] W fun r w' => r = .returned (.iface 54 (.pointer (some ⟨(at_ l n).b, 0, none⟩))) ∧ ∃ v', Qu w' c gm o F v' (l.take n) ∧ w'.heap[(at_ l n).b]? = W.heap[(at_ l n).b]? ∧ Mvs F W w' := by
  obtain ⟨g, cap, rfl⟩ := h.slot (i := n) (by omega)
  have cQ := h.cell1
  have fQ := h.frozenc 1
  have cq := h.cellq (i := n) (by omega)
  have hcap := h.cap rfl
  have HE := Aside0.mk (And.intro (h.take (n := n) (by omega)) ((Mvs.refl W).set (F := F) (p := ⟨c, 1, none⟩) h.fc (.slice (some ⟨g, 0, none⟩) n cap)))
  have HF := Aside0.mk (Below.heap_setCell W ⟨c, 1, none⟩ (.slice (some ⟨g, 0, none⟩) n cap) (at_ l n).b (Ne.symm (h.nce (i := n) (by omega))))
  have hsm := h.sm
  simp only [pv] at *
  clear h
  generalize l.length = N at *
  subst hn
  have h1 : ((n + 1 : Nat) : Int) - 1 = (n : Int) := by omega
  have h2 : (n : Int) < ((n + 1 : Nat) : Int) := by omega
  go_enter Try.func49, Try.ntmps49
  go_wp2
  go_returns
  exact ⟨rfl, _, HE.out.1, HF.out, HE.out.2⟩
set_option maxHeartbeats 2000000 in
theorem hpush_calls {W : World} {c gm : Nat} {o : Obj} {F : Nat → Prop} {v : Value} {l : List Ent} (h : Qu W c gm o F v l) {e : Nat} {k : ByteArray} {t x : Int} (he : W.heap[e]? = some (.cells #[.string k, .int .u64 t, .int .i64 x] 53 (0, 0))) (hF : F e) (hne : ∀ i, i < l.length → (at_ l i).b ≠ e) (hn : l.length < 4096) (hh : HeapN lessE l l.length) :
    Calls Try.prog 20 #[.iface 59 (.pointer (some ⟨c, 1, none⟩)), .iface 54 (.pointer (some ⟨e, 0, none⟩))] W fun r w' => r = .returned (.tuple #[]) ∧ ∃ v' F2 l', Qu w' c gm o F2 v' l' ∧ l'.Perm (l ++ [⟨e, k, t⟩]) ∧ HeapN lessE l' l'.length ∧ (∀ k, F2 k → F k ∨ W.heap.size ≤ k) ∧ (∀ k, F k → F2 k) ∧ Mvs F W w' := by
  have mP := fun w => mPush w c
  have HC := Aside0.mk (qpush_calls h he hF hne hn)
  have HI := Aside0.mk (push_inv hh (⟨e, k, t⟩ : Ent))
  have HL : Aside0 ((l ++ [(⟨e, k, t⟩ : Ent)]).length = l.length + 1) := ⟨by simp⟩
  have hsm := h.sm
  obtain ⟨L, hL⟩ : ∃ L, l ++ [(⟨e, k, t⟩ : Ent)] = L := ⟨_, rfl⟩
  rw [hL] at HC HI HL ⊢
  clear hL h hh he hne
  generalize l.length = n at *
  have hn1 : ((n + 1 : Nat) : Int) - 1 = (n : Int) := by omega
  go_enter Try.func20, Try.ntmps20
  go_wp2_with (first
    | (go_at_call 50; refine HC.out.mono ?_; rintro r w1 ⟨rfl, v1, F1, hq1, hf1, hf2, hm1⟩; obtain ⟨A1, cap1, rfl⟩ := hq1.form; have hc1 := hq1.cell1; rw [HL.out] at hc1; have hLn := mLen hc1; replace hq1 := Aside0.mk hq1; replace hf1 := Aside0.mk hf1; replace hf2 := Aside0.mk hf2; replace hm1 := Aside0.mk hm1)
    | (go_at_call 41; refine (qlen_calls _ _ _ _).mono ?_; rintro r w2 ⟨rfl, rfl⟩)
    | (go_at_call 23; refine (up_calls hq1.out (by rw [HL.out]; omega) (by rw [HL.out]; exact HI.out)).mono ?_; rintro r w3 ⟨rfl, l', hq3, hp3, hh3, hm3⟩))
  go_returns
  exact ⟨rfl, _, _, l', hq3, hp3, hh3, hf1.out, hf2.out, hm1.out.trans hm3 hf1.out⟩
set_option maxHeartbeats 2000000 in
theorem hfix_calls {W : World} {c gm : Nat} {o : Obj} {F : Nat → Prop} {v : Value} {l : List Ent} (h : Qu W c gm o F v l) {i : Nat} (hi : i < l.length) (hd : DownInv lessE l l.length i) :
    Calls Try.prog 21 #[.iface 59 (.pointer (some ⟨c, 1, none⟩)), .int .i64 (i : Int)] W fun r w' => r = .returned (.tuple #[]) ∧ ∃ l', Qu w' c gm o F v l' ∧ l'.Perm l ∧ HeapN lessE l' l'.length ∧ Mvs F W w' := by
  obtain ⟨g, cap, rfl⟩ := h.slot hi
  have hLn := mLen h.cell1
  have HC := Aside0.mk (down_calls h (by omega) (Nat.le_of_lt hi) (Nat.le_refl _) hd)
  clear h hd
  go_enter Try.func21, Try.ntmps21
  go_wp2_with (first
    | (go_at_call 41; refine (qlen_calls _ _ _ _).mono ?_; rintro r w2 ⟨rfl, rfl⟩)
    | (go_at_call 24; refine HC.out.mono ?_; rintro r w3 ⟨⟨b, rfl⟩, l', hq3, hp3, hh3, _, hm3⟩; replace hq3 := Aside0.mk hq3; replace hh3 := Aside0.mk hh3; replace hm3 := Aside0.mk hm3)
    | (go_at_call 23; refine (up_calls hq3.out (by rw [hp3.length_eq]; omega) (by rw [hp3.length_eq]; exact up_inv_of_heap lessO hh3.out)).mono ?_; rintro r w4 ⟨rfl, l4, hq4, hp4, hh4, hm4⟩))
  all_goals go_returns
  · exact ⟨rfl, l4, hq4, hp4.trans hp3, hh4, hm3.out.trans' hm4⟩
  · exact ⟨rfl, l', hq3.out, hp3, by rw [hp3.length_eq]; exact hh3.out, hm3.out⟩
theorem swap0_calls {W : World} {c gm : Nat} {o : Obj} {F : Nat → Prop} {v : Value} {l : List Ent} (h : Qu W c gm o F v l) {j : Nat} (hj : j < l.length) : Calls Try.prog 43 #[v, .int .i64 0, .int .i64 (j : Int)] W fun e w' => e = .returned (.tuple #[]) ∧ Qu w' c gm o F v (swapL l 0 j) ∧ Mvs F W w' :=
  swap_calls h (i := 0) (by omega) hj
theorem down0_calls {W : World} {c gm : Nat} {o : Obj} {F : Nat → Prop} {v : Value} {l : List Ent} (h : Qu W c gm o F v l) (hl0 : 0 < l.length) {n : Nat} (hn : n ≤ l.length) (hu : DownInv lessE l n 0) : Calls Try.prog 24 #[.iface 59 (.pointer (some ⟨c, 1, none⟩)), .int .i64 0, .int .i64 (n : Int)] W fun e w' => IsB e ∧ ∃ l', Qu w' c gm o F v l' ∧ l'.Perm l ∧ HeapN lessE l' n ∧ (∀ k, n ≤ k → at_ l' k = at_ l k) ∧ Mvs F W w' :=
  down_calls h hl0 (i0 := 0) (Nat.zero_le _) hn hu
end Go.Proofs.Ytkomjplajfjpkaa.Ext
