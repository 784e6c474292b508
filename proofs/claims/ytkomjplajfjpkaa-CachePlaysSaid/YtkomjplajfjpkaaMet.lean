/- The queue's methods, met through heap.Interface. -/
import Derived.Test.YtkomjplajfjpkaaSwp
namespace Go.Proofs.Ytkomjplajfjpkaa.Ext
open Go.RowKit Go.Proofs.Ytkomjplajfjpkaa.Hea Go.Proofs.YtkomjplajfjpkaaW.PrintWords Go.Proofs.YtkomjplajfjpkaaW.PrintLast Go.Proofs.YtkomjplajfjpkaaW.PrintMore
set_option linter.unusedVariables false
set_option linter.unusedSimpArgs false
theorem ld49 {w : World} {a : Addr} {A : Option Addr} {n cap : Nat} (h : w.cell? a = some (.slice A n cap)) (f : Nat) : ((do let v ← loadVar 49 a; pure (f, v)) : Sem (FuncId × Value)).run Try.prog w = .ok (f, .slice A n cap) w := by
  simp [go_sem, h]
theorem mLess {w : World} {c : Nat} {A : Option Addr} {n cap : Nat} (h : w.cell? ⟨c, 1, none⟩ = some (.slice A n cap)) : (method 191 59 (.pointer (some ⟨c, 1, none⟩)) "Less").run Try.prog w = .ok (42, .slice A n cap) w := by
  have e : (method 191 59 (.pointer (some ⟨c, 1, none⟩)) "Less").run Try.prog w = ((do let v ← loadVar 49 ⟨c, 1, none⟩; pure (42, v)) : Sem (FuncId × Value)).run Try.prog w := by kernel_rfl
  rw [e]
  exact ld49 h 42
theorem mLen {w : World} {c : Nat} {A : Option Addr} {n cap : Nat} (h : w.cell? ⟨c, 1, none⟩ = some (.slice A n cap)) : (method 191 59 (.pointer (some ⟨c, 1, none⟩)) "Len").run Try.prog w = .ok (41, .slice A n cap) w := by
  have e : (method 191 59 (.pointer (some ⟨c, 1, none⟩)) "Len").run Try.prog w = ((do let v ← loadVar 49 ⟨c, 1, none⟩; pure (41, v)) : Sem (FuncId × Value)).run Try.prog w := by kernel_rfl
  rw [e]
  exact ld49 h 41
theorem mSwap {w : World} {c : Nat} {A : Option Addr} {n cap : Nat} (h : w.cell? ⟨c, 1, none⟩ = some (.slice A n cap)) : (method 191 59 (.pointer (some ⟨c, 1, none⟩)) "Swap").run Try.prog w = .ok (43, .slice A n cap) w := by
  have e : (method 191 59 (.pointer (some ⟨c, 1, none⟩)) "Swap").run Try.prog w = ((do let v ← loadVar 49 ⟨c, 1, none⟩; pure (43, v)) : Sem (FuncId × Value)).run Try.prog w := by kernel_rfl
  rw [e]
  exact ld49 h 43
theorem mPush (w : World) (c : Nat) : (method 191 59 (.pointer (some ⟨c, 1, none⟩)) "Push").run Try.prog w = .ok (50, .pointer (some ⟨c, 1, none⟩)) w := by kernel_rfl
theorem mPop (w : World) (c : Nat) : (method 191 59 (.pointer (some ⟨c, 1, none⟩)) "Pop").run Try.prog w = .ok (49, .pointer (some ⟨c, 1, none⟩)) w := by kernel_rfl
theorem bl_asym : ∀ x y : List UInt8, Op.bytesLess x y = true → Op.bytesLess y x = false
  | [], [], h => by simp [Op.bytesLess] at h
  | [], _ :: _, _ => by simp [Op.bytesLess]
  | _ :: _, [], h => by simp [Op.bytesLess] at h
  | a :: x, b :: y, h => by
    have ih := bl_asym x y
    simp only [Op.bytesLess, Bool.or_eq_true, Bool.and_eq_true, decide_eq_true_eq, beq_iff_eq, UInt8.lt_iff_toNat_lt, ← UInt8.toNat_inj, Bool.or_eq_false_iff, Bool.and_eq_false_iff, decide_eq_false_iff_not, beq_eq_false_iff_ne, ne_eq] at h ⊢
    rcases h with h | ⟨h1, h2⟩
    · exact ⟨by omega, .inl (by omega)⟩
    · exact ⟨by omega, .inr (ih h2)⟩
theorem bl_trans : ∀ x y z : List UInt8, Op.bytesLess x y = true → Op.bytesLess y z = true → Op.bytesLess x z = true
  | [], [], _, h, _ => by simp [Op.bytesLess] at h
  | [], _ :: _, [], _, h => by simp [Op.bytesLess] at h
  | [], _ :: _, _ :: _, _, _ => by simp [Op.bytesLess]
  | _ :: _, [], _, h, _ => by simp [Op.bytesLess] at h
  | _ :: _, _ :: _, [], _, h => by simp [Op.bytesLess] at h
  | a :: x, b :: y, c :: z, h, k => by
    have ih := bl_trans x y z
    simp only [Op.bytesLess, Bool.or_eq_true, Bool.and_eq_true, decide_eq_true_eq, beq_iff_eq, UInt8.lt_iff_toNat_lt, ← UInt8.toNat_inj] at h k ⊢
    rcases h with h | ⟨h1, h2⟩ <;> rcases k with k | ⟨k1, k2⟩
    · exact .inl (by omega)
    · exact .inl (by omega)
    · exact .inl (by omega)
    · exact .inr ⟨by omega, ih h2 k2⟩
theorem bl_conn : ∀ x y : List UInt8, Op.bytesLess x y = false → Op.bytesLess y x = false → x = y
  | [], [], _, _ => rfl
  | [], _ :: _, h, _ => by simp [Op.bytesLess] at h
  | _ :: _, [], _, h => by simp [Op.bytesLess] at h
  | a :: x, b :: y, h, k => by
    have ih := bl_conn x y
    simp only [Op.bytesLess, UInt8.lt_iff_toNat_lt, ← UInt8.toNat_inj, Bool.or_eq_false_iff, Bool.and_eq_false_iff, decide_eq_false_iff_not, beq_eq_false_iff_ne, ne_eq] at h k
    have e : a = b := UInt8.toNat_inj.1 (by omega)
    subst e
    rw [ih (h.2.resolve_left (by simp)) (k.2.resolve_left (by simp))]
theorem toList_inj {x y : ByteArray} (h : x.toList = y.toList) : x = y := by
  rw [ByteArray.toList_eq, ByteArray.toList_eq] at h
  exact ByteArray.ext (Array.toList_inj.1 h)
theorem less_iff (a b : Ent) : lessE a b = true ↔ a.t < b.t ∨ (a.t = b.t ∧ slt a.k b.k = true) := by
  unfold lessE; simp
theorem less_conn {a b : Ent} (h1 : lessE a b = false) (h2 : lessE b a = false) : a.t = b.t ∧ a.k = b.k := by
  rw [← Bool.not_eq_true, less_iff] at h1 h2
  have e : a.t = b.t := by omega
  refine ⟨e, toList_inj (bl_conn _ _ ?_ ?_)⟩
  · rw [← Bool.not_eq_true]; exact fun h => h1 (.inr ⟨e, h⟩)
  · rw [← Bool.not_eq_true]; exact fun h => h2 (.inr ⟨e.symm, h⟩)
theorem less_asym (a b : Ent) (h : lessE a b = true) : lessE b a = false := by
  rw [← Bool.not_eq_true, less_iff]
  rw [less_iff] at h
  intro h2
  rcases h with h | ⟨e, h⟩ <;> rcases h2 with h2 | ⟨e2, h2⟩ <;> try omega
  rw [slt, bl_asym _ _ h] at h2
  cases h2
theorem less_trans (a b c : Ent) (h : lessE a b = true) (h2 : lessE b c = true) : lessE a c = true := by
  rw [less_iff] at *
  rcases h with h | ⟨e, h⟩ <;> rcases h2 with h2 | ⟨e2, h2⟩
  · exact .inl (by omega)
  · exact .inl (by omega)
  · exact .inl (by omega)
  · exact .inr ⟨by omega, bl_trans _ _ _ h h2⟩
theorem less_congr {a b : Ent} (h : a.t = b.t ∧ a.k = b.k) (c : Ent) : lessE c a = lessE c b ∧ lessE a c = lessE b c := by
  unfold lessE; rw [h.1, h.2]; exact ⟨rfl, rfl⟩
theorem lessO : Ord lessE := by
  refine ⟨less_asym, less_trans, fun a b c h1 h2 => ?_⟩
  cases h3 : lessE a b with
  | true =>
    cases h4 : lessE b c with
    | true => exact less_asym _ _ (less_trans _ _ _ h3 h4)
    | false => rw [(less_congr (less_conn h2 h4) a).2]; exact h1
  | false => rw [(less_congr (less_conn h3 h1) c).1]; exact h2
theorem less_irr (a : Ent) : lessE a a = false := by
  cases h : lessE a a with
  | false => rfl
  | true => have := less_asym _ _ h; rw [h] at this; cases this
structure UpI (W wr : World) (c gm : Nat) (o : Obj) (F : Nat → Prop) (v : Value) (l l' : List Ent) (j : Nat) : Prop where
  q : Qu wr c gm o F v l'
  perm : l'.Perm l
  up : UpInv lessE l' l'.length j
  mv : Mvs F W wr
set_option maxHeartbeats 2000000 in
theorem up_calls {W : World} {c gm : Nat} {o : Obj} {F : Nat → Prop} {v : Value} {l : List Ent} (h : Qu W c gm o F v l) {j : Nat} (hj : j < l.length) (hu : UpInv lessE l l.length j) : Calls Try.prog 23 #[.iface 59 (.pointer (some ⟨c, 1, none⟩)), .int .i64 (j : Int)] W fun e w' => e = .returned (.tuple #[]) ∧ ∃ l', Qu w' c gm o F v l' ∧ l'.Perm l ∧ HeapN lessE l' l'.length ∧ Mvs F W w' := by
  obtain ⟨g, cap, rfl⟩ := h.slot hj
  have HQ := Aside0.mk (UpI.mk h (List.Perm.refl _) hu (Mvs.refl W))
  have hsm := h.sm
  generalize hN : l.length = N at *
  clear h hu
  go_enter Try.func23, Try.ntmps23
  go_wp2_with (fail)
  go_loopg [1] j (fun k v1 wr => ∃ (j' : Nat) (l' : List Ent), v1 = .int .i64 (j' : Int) ∧ j' = k ∧ j' < N ∧ Aside0 (UpI W wr c gm o F (.slice (some ⟨g, 0, none⟩) N cap) l l' j'))
  case atStart => exact ⟨j, l, rfl, rfl, hj, HQ⟩
  case round =>
    obtain ⟨j', l', rfl, rfl, hj', HU⟩ := hrel
    by_cases h0 : j' = 0
    · subst h0
      go_wp2_with (fail)
      go_returns
      exact ⟨rfl, l', HU.out.q, HU.out.perm, up_done HU.out.up (.inl rfl), HU.out.mv⟩
    · obtain ⟨p, hp⟩ : ∃ p, (j' - 1) / 2 = p := ⟨_, rfl⟩
      have hq : ((j' : Int) - 1) / 2 = (p : Int) := by omega
      have hpj : ((p : Int) == (j' : Int)) = false := by rw [beq_eq_false_iff_ne]; omega
      have hpj' : ¬ (p : Int) = (j' : Int) := by omega
      have cQ := HU.out.q.cell1
      have hLs := mLess cQ
      have hlen := HU.out.perm.length_eq
      have hpl : p < l'.length := by omega
      have hjl : j' < l'.length := by omega
      have HC := Aside0.mk (less_calls HU.out.q hjl hpl)
      cases hb : lessE (at_ l' j') (at_ l' p) with
      | false =>
        rw [hb] at HC
        go_wp2_with (first | (go_at_call 42; refine HC.out.mono ?_; rintro e w' ⟨rfl, hbel⟩))
        go_returns
        exact ⟨rfl, l', HU.out.q.below hbel, HU.out.perm, up_done HU.out.up (.inr (by rw [hp]; exact hb)), HU.out.mv.trans' (Mvs.of_below hbel)⟩
      | true =>
        rw [hb] at HC
        go_wp2_with (first
          | (go_at_call 42; refine HC.out.mono ?_; rintro e w1 ⟨rfl, hbel⟩; have hSw := mSwap (pw_cell_below hbel cQ); replace hbel := Aside0.mk hbel)
          | (go_at_call 43; refine (swap_calls (HU.out.q.below hbel.out) hpl hjl).mono ?_; rintro e w2 ⟨rfl, hq2, hm2⟩; replace hq2 := Aside0.mk hq2; replace hm2 := Aside0.mk hm2))
        go_roundg p
        case measure => omega
        case rel =>
          have hu := up_step lessO (Nat.le_refl _) (by omega) hjl HU.out.up (by rw [hp]; exact hb)
          rw [hp] at hu
          exact ⟨p, _, rfl, rfl, by omega, ⟨hq2.out, (swap_perm hpl hjl).trans HU.out.perm, by rw [swap_len]; exact hu, (HU.out.mv.trans' (Mvs.of_below hbel.out)).trans' hm2.out⟩⟩
end Go.Proofs.Ytkomjplajfjpkaa.Ext
