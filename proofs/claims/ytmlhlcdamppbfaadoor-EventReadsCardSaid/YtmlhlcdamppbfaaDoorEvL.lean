/- What Right, Encode and Decode have to do with one another, in plain words. -/
import Derived.Test.YtmlhlcdamppbfaaDoorExt
namespace Go.Proofs.YtmlhlcdamppbfaaDoor.Ext
open Go.RowKit Go.Proofs.YtmlhlcdamppbfaaDoorW.PrintWords Go.Proofs.YtmlhlcdamppbfaaDoorW.PrintLast
set_option linter.unusedVariables false
def right (n : Ev) : Bool := rightF n.1 n.2.2.1 n.2.2.2.1 n.2.2.2.2.1 n.2.2.2.2.2.1 n.2.2.2.2.2.2.1 n.2.2.2.2.2.2.2.1 n.2.2.2.2.2.2.2.2.1 n.2.2.2.2.2.2.2.2.2
def u64s (n : Ev) : Prop := (0 ≤ n.2.1 ∧ n.2.1 < 18446744073709551616) ∧ (0 ≤ n.2.2.1 ∧ n.2.2.1 < 18446744073709551616)
theorem isEmpty_iff (s : ByteArray) : s.toList.isEmpty = true ↔ s = E0 := by
  constructor
  · intro h
    have h2 : s.toList = [] := by simpa using h
    apply ByteArray.ext
    apply Array.ext'
    exact (ByteArray.toList_eq s).symm.trans h2
  · rintro rfl; rw [ByteArray.toList_eq]; rfl
theorem textOk_iff (T i : Int) (s : ByteArray) : textOk T i s = true ↔ oV (decide (i < T)) s := by
  unfold textOk oV
  by_cases h : i < T
  · simp [h]
  · simp only [h, decide_false, Bool.false_or, Bool.and_eq_true, decide_eq_true_eq, isEmpty_iff, Bool.false_eq_true, if_false]
    constructor
    · exact fun z => z.2
    · rintro rfl; exact ⟨by decide, rfl⟩
theorem numOk_iff (m n : Int) : numOk m n = true ↔ (if 0 < m then 0 ≤ n ∧ n < m else n = 0) := by
  unfold numOk
  by_cases h : 0 < m
  · rw [if_pos h, if_neg (by omega)]; simp
  · rw [if_neg h, if_pos (by omega)]; simp; omega
theorem right_iff (n : Ev) (hu : u64s n) : right n = true ↔ evV n := by
  obtain ⟨k, t, id, A, B, C, D, x, y, z⟩ := n
  obtain ⟨⟨h1, h2⟩, h3, h4⟩ := hu
  simp only at h1 h2 h3 h4
  unfold right rightF evV txtsV numsV
  simp only [Bool.and_eq_true, textOk_iff, numOk_iff, beq_iff_eq, decide_eq_true_eq]
  have e : ((decide (k = 1) || decide (k = 2)) = decide (id = 0)) ↔ (if k = 1 ∨ k = 2 then id = 0 else 1 ≤ id) := by
    by_cases hk : k = 1 ∨ k = 2
    · rw [if_pos hk]
      rw [show (decide (k = 1) || decide (k = 2)) = true by simpa using hk]
      simp
    · rw [if_neg hk]
      rw [show (decide (k = 1) || decide (k = 2)) = false by simpa using hk]
      simp; omega
  rw [e]
  constructor
  · rintro ⟨⟨⟨⟨a, b⟩, c⟩, ⟨⟨d, f⟩, g⟩, i⟩, ⟨⟨j, l⟩, m⟩⟩
    exact ⟨⟨a, b⟩, ⟨h1, h2⟩, ⟨c, h3, h4⟩, d, f, g, i, j, l, m⟩
  · rintro ⟨⟨a, b⟩, _, ⟨c, _, _⟩, d, f, g, i, j, l, m⟩
    exact ⟨⟨⟨⟨a, b⟩, c⟩, ⟨⟨d, f⟩, g⟩, i⟩, ⟨⟨j, l⟩, m⟩⟩
theorem evV_u64s {n : Ev} (h : evV n) : u64s n := ⟨h.2.1, h.2.2.1.2⟩
theorem numB_none (m n : Int) (h : ¬ 0 < m) : numB m n = [] := by unfold numB; rw [if_neg (by omega), if_neg h]; rfl
theorem enc_is (n : Ev) (hv : evV n) : encF n.1 n.2.1 n.2.2.1 n.2.2.2.1 n.2.2.2.2.1 n.2.2.2.2.2.1 n.2.2.2.2.2.2.1 n.2.2.2.2.2.2.2.1 n.2.2.2.2.2.2.2.2.1 n.2.2.2.2.2.2.2.2.2 = evE n := by
  obtain ⟨k, t, id, A, B, C, D, x, y, z⟩ := n
  obtain ⟨⟨h1, h2⟩, _⟩ := hv
  simp only at h1 h2
  have hn : ∀ (i : Nat) (v : Int), (if 0 < TN k i then numB (TN k i) v else []) = numB (TN k i) v := fun i v => by
    by_cases h : 0 < TN k i
    · rw [if_pos h]
    · rw [if_neg h, numB_none _ _ h]
  simp only [encF, evE, txtsE, numsE, headB, hn, oE]
  rw [show k % 256 = k by omega]
  rcases T0_cases k with h | h | h | h <;> simp [h, textsB]
theorem encode_f (n : Ev) (hu : u64s n) : event_Encode.f n.1 n.2.1 n.2.2.1 n.2.2.2.1 n.2.2.2.2.1 n.2.2.2.2.2.1 n.2.2.2.2.2.2.1 n.2.2.2.2.2.2.2.1 n.2.2.2.2.2.2.2.2.1 n.2.2.2.2.2.2.2.2.2 = some (if right n then evE n else [], if right n then 0 else 1) := by
  unfold event_Encode.f
  rw [if_pos ⟨hu.1.1, hu.1.2, hu.2.1, hu.2.2⟩]
  cases h : right n with
  | true =>
    have h' := h
    unfold right at h'
    rw [h', enc_is n ((right_iff n hu).1 h)]
  | false =>
    have h' := h
    unfold right at h'
    rw [h']; rfl
theorem right_f (n : Ev) : event_Right.f n.1 n.2.1 n.2.2.1 n.2.2.2.1 n.2.2.2.2.1 n.2.2.2.2.2.1 n.2.2.2.2.2.2.1 n.2.2.2.2.2.2.2.1 n.2.2.2.2.2.2.2.2.1 n.2.2.2.2.2.2.2.2.2 = some (right n) := rfl
theorem oE_len (b : Bool) (s : ByteArray) (h : oV b s) : (oE b s).length ≤ 4106 := by
  unfold oE
  cases b with
  | false => simp
  | true => exact textB_len s h
theorem evE_len {n : Ev} (h : evV n) : 3 ≤ (evE n).length ∧ (evE n).length ≤ 20000 := by
  obtain ⟨k, t, id, A, B, C, D, x, y, z⟩ := n
  obtain ⟨_, ⟨t0, t1⟩, ⟨_, i0, i1⟩, a, b, c, d, _⟩ := h
  simp only at t0 t1 i0 i1
  have p1 := put_len10 t.toNat (by omega)
  have p2 := put_len10 id.toNat (by omega)
  have q1 := put_pos t.toNat
  have q2 := put_pos id.toNat
  have la := oE_len _ _ a
  have lb := oE_len _ _ b
  have lc := oE_len _ _ c
  have ld := oE_len _ _ d
  have hn : ∀ (m v : Int), (if 0 < m then numB m v else []).length ≤ 2 := fun m v => by
    split
    · exact numB_len _ _
    · simp
  have n0 := hn (TN k 0) x
  have n1 := hn (TN k 1) y
  have n2 := hn (TN k 2) z
  simp only [evE, txtsE, numsE, List.length_append, List.length_singleton] at *
  omega
theorem evE_bytes {n : Ev} (h : evV n) : Bytes (evE n) := ev_codec.bytes n h
theorem dec_enc (n : Ev) (h : evV n) : decF (evE n) = (n, ((evE n).length : Int), 0) := by
  unfold decF
  rw [ev_codec.end_full n h, ev_codec.nil n h]; rfl
theorem dec_ok (l : List Int) (hl : Bytes l) (h : (decF l).2.2 = 0) : evV (decF l).1 ∧ l = evE (decF l).1 ∧ (decF l).2.1 = l.length := by
  obtain ⟨x, hx, rfl⟩ := ev_codec.end_ok l hl h
  rw [dec_enc x hx]
  exact ⟨hx, rfl, rfl⟩
theorem dec_bad (l : List Int) (h : (decF l).2.2 ≠ 0) : (decF l).1 = zE := by unfold decF at h ⊢; exact if_neg h
theorem dec_cut (n : Ev) (k : Nat) (h : evV n) (hk : k < (evE n).length) : decF ((evE n).take k) = (zE, (k : Int), 2) := by
  unfold decF
  rw [ev_codec.end_cut n k h hk]; rfl
theorem dec_more (n : Ev) (c : Int) (r : List Int) (h : evV n) (hr : Bytes (c :: r)) : decF (evE n ++ c :: r) = (zE, ((evE n).length : Int), 8) := by
  unfold decF
  rw [ev_codec.end_more n c r h hr]; rfl
theorem dec_short (l : List Int) (hl : Bytes l) (h : (decF l).2.2 = 0 ∨ (decF l).2.2 = 2) : (decF l).2.1 = l.length := ev_codec.end_short l hl h
theorem dec_wrong (l : List Int) (hl : Bytes l) (h : (decF l).2.2 ≠ 0) (h' : (decF l).2.2 ≠ 2) :
    ∃ p c q, l = p ++ c :: q ∧ (decF l).2.1 = (p.length : Int) ∧ (∀ r, Bytes r → (decF (p ++ c :: r)).2 = (decF l).2) ∧ (decF p).2 = ((p.length : Int), if (decF l).2.2 = 8 then 0 else 2) := ev_codec.end_wrong l hl h h'
theorem dec_at (l : List Int) (hl : Bytes l) : 0 ≤ (decF l).2.1 ∧ (decF l).2.1 ≤ l.length := by
  by_cases h : (decF l).2.2 = 0 ∨ (decF l).2.2 = 2
  · rw [dec_short l hl h]; omega
  · obtain ⟨p, c, q, hp, h2, _⟩ := dec_wrong l hl (fun z => h (.inl z)) (fun z => h (.inr z))
    have := congrArg List.length hp
    rw [List.length_append, List.length_cons] at this
    rw [h2]; omega
theorem dec_evV (l : List Int) (hl : Bytes l) (h : (decF l).2.2 = 0) : right (decF l).1 = true := (right_iff _ (evV_u64s (dec_ok l hl h).1)).2 (dec_ok l hl h).1
end Go.Proofs.YtmlhlcdamppbfaaDoor.Ext
