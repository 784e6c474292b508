/- The document's answers for an event's reading, in plain words. -/
import Derived.Test.YtmlhlcdamppbfaaDoorXax16
import Derived.Test.YtmlhlcdamppbfaaDoorEvR
namespace Go.Proofs.YtmlhlcdamppbfaaDoor.Pure
open Go.RowKit Go.Proofs.YtmlhlcdamppbfaaDoor.Xa Go.Proofs.YtmlhlcdamppbfaaDoor.Ext Go.Proofs.YtmlhlcdamppbfaaDoorW.PrintWords Go.Proofs.YtmlhlcdamppbfaaDoorW.PrintLast
set_option linter.unusedVariables false
set_option linter.unusedSimpArgs false
theorem gl_u64 : ∀ (l : List Int) (i : Nat) (a : Int), Bytes l → i ≤ 9 → 0 ≤ a → a < 2 ^ (7 * i) → 0 ≤ (gl i a l).1 ∧ (gl i a l).1 < 18446744073709551616
  | [], i, a, _, _, _, _ => by simp [gl]
  | c :: l, i, a, hl, hi, h0, h1 => by
    have hc := hl c (by simp)
    rw [gl]
    split
    · simp
    · rename_i hb
      have h9 : i = 9 → c ≤ 1 := fun h => by have := fun h2 => hb (.inl ⟨h, h2⟩); omega
      obtain ⟨s1, s2, s3⟩ := step_or i a c hi h9 h0 h1 hc.1 hc.2
      obtain ⟨p1, p2, p3, p4⟩ := pow7 i hi
      split
      · rename_i hs
        rw [Int.emod_eq_of_lt hc.1 hs] at s2 s3
        refine ⟨s2, ?_⟩
        rw [p3] at s3
        by_cases hi9 : i = 9
        · subst hi9
          have := h9 rfl
          have e : (2 : Int) ^ (7 * 9) = 9223372036854775808 := by decide
          rw [e] at h1 ⊢; omega
        · have := p2 (by omega)
          have e : (2 : Int) ^ 56 = 72057594037927936 := by decide
          rw [e] at this; omega
      · rename_i hs
        have hi9 : i ≠ 9 := fun h => by have := h9 h; omega
        rw [show c % 128 = c - 128 by omega] at s2 s3
        exact gl_u64 l (i + 1) _ (fun x hx => hl x (by simp [hx])) (by omega) s2 s3
theorem strOf_cut (b : List Int) (lo hi : Nat) : (strOfNums b).extract lo hi = strOfNums ((b.take hi).drop lo) := by
  apply ByteArray.ext
  apply Array.ext'
  simp [strOfNums, List.map_drop, List.map_take, List.take_drop]
  by_cases h : lo ≤ hi
  · rw [show lo + (hi - lo) = hi by omega]
  · rw [show hi - lo = 0 by omega, List.drop_eq_nil_of_le, List.drop_eq_nil_of_le] <;> simp <;> omega
theorem bt_str (l : List Int) (hl : Bytes l) (i : Nat) (hi : i < l.length) : bt (strOfNums l) i = l[i] := by
  have hs : (strOfNums l).size = l.length := strOf_size l
  have hx := hl l[i] (List.getElem_mem hi)
  unfold bt
  rw [dif_pos (by simp [hs, hi])]
  simp only [strOfNums, ByteArray.getElem_eq_getElem_data, List.getElem_toArray, List.getElem_map, Int.toNat_natCast]
  rw [UInt8.toNat_ofNat']; omega
def bad (i : Nat) (c : Int) : Bool := decide ((i = 9 ∧ 1 < c) ∨ (0 < i ∧ c = 0))
theorem begins_l0 (b : List Int) (hb : Bytes b) (i : Nat) (hi : i < b.length) (h9 : i ≤ 9) (hp : ∀ j, (h : j < i) → 128 ≤ b[j]'(by omega)) :
    ∀ (d k j : Nat), j + d = i → d + 2 ≤ k → transeptref01_begins.l0 k (strOfNums (b.take (i + 1))) j = some (!bad i b[i])
  | 0, k, j, hj, hk => by
    obtain ⟨k, rfl⟩ : ∃ m, k = m + 1 + 1 := ⟨k - 2, by omega⟩
    obtain rfl : j = i := by omega
    have hsz : (strOfNums (b.take (j + 1))).size = j + 1 := by rw [strOf_size, List.length_take]; omega
    have hbt : bt (strOfNums (b.take (j + 1))) j = b[j] := by
      rw [bt_str _ (hb.take _) j (by rw [List.length_take]; omega), List.getElem_take]
    have hend : transeptref01_begins.l0 (k + 1) (strOfNums (b.take (j + 1))) (wrap64 ((j : Int) + 1)) = some true := by
      rw [w64 _ (by omega) (by omega)]
      simp only [transeptref01_begins.l0]; rw [if_neg (by omega)]
    have hx := hb b[j] (List.getElem_mem hi)
    rw [show k + 1 + 1 = (k + 1) + 1 from rfl, transeptref01_begins.l0]
    rw [hend, hbt, w64 ((j : Int) + 1) (by omega) (by omega)]
    rw [if_pos (by omega), if_pos (by omega), if_neg (by omega), if_neg (c := (j : Int) + 1 < _) (by omega)]
    simp only [ite_self]
    unfold bad
    generalize b[j] = c at *
    by_cases e9 : j = 9
    · subst e9
      by_cases e1 : c > 1
      · simp [e1]
      · by_cases e0 : c = 0
        · simp [e0]
        · have : ¬ 1 < c := e1
          simp [e0, this]
    · rw [if_neg (by omega)]
      by_cases e0 : 0 < j
      · by_cases ec : c = 0
        · simp [e0, ec]
        · simp [e9, ec]
      · simp [e9, e0]
  | d + 1, k, j, hj, hk => by
    obtain ⟨k, rfl⟩ : ∃ m, k = m + 1 := ⟨k - 1, by omega⟩
    have hsz : (strOfNums (b.take (i + 1))).size = i + 1 := by rw [strOf_size, List.length_take]; omega
    have hbt : bt (strOfNums (b.take (i + 1))) j = b[j]'(by omega) := by
      rw [bt_str _ (hb.take _) j (by rw [List.length_take]; omega), List.getElem_take]
    have hc := hp j (by omega)
    have ih := begins_l0 b hb i hi h9 hp d k (j + 1) (by omega) (by omega)
    rw [transeptref01_begins.l0, hbt, w64 ((j : Int) + 1) (by omega) (by omega), show ((j : Int) + 1) = ((j + 1 : Nat) : Int) by omega, ih]
    rw [if_pos (by omega), if_pos (by omega), if_neg (by omega), if_neg (by omega), if_neg (c := b[j]'_ = 0) (by omega), if_neg (c := b[j]'_ < 128) (by omega)]
    simp
theorem ref_get_l0 (b : List Int) (hb : Bytes b) (hn : b.length ≤ 100000) : ∀ (d i k : Nat) (a : Int), i + d = b.length → (d = 0 ∨ i ≤ 9) → (∀ j, (h : j < i) → (h2 : j < b.length) → 128 ≤ b[j]) → 0 ≤ a → (i ≤ 9 → a < 2 ^ (7 * i)) → d + 13 ≤ k →
    transeptref01_Get.l0 k (strOfNums b) a (if i ≤ 9 then 2 ^ (7 * i) else 0) i = some (gl i a (b.drop i))
  | 0, i, k, a, hi, h9, hp, h0, h1, hk => by
    obtain ⟨k, rfl⟩ : ∃ m, k = m + 1 := ⟨k - 1, by omega⟩
    simp only [transeptref01_Get.l0]
    rw [if_neg (by rw [strOf_size]; omega), List.drop_eq_nil_of_le (by omega), strOf_size]
    simp only [gl]; congr 3; omega
  | d + 1, i, k, a, hi, h9, hp, h0, h1, hk => by
    obtain ⟨k, rfl⟩ : ∃ m, k = m + 1 := ⟨k - 1, by omega⟩
    have hi9 : i ≤ 9 := by omega
    have h1' := h1 hi9
    have hc := hb b[i] (List.getElem_mem (by omega))
    have hbg : transeptref01_begins.f k (strOfNums (b.take (i + 1))) = some (!bad i b[i]) :=
      begins_l0 b hb i (by omega) hi9 (fun j h => hp j h (by omega)) i k 0 (by omega) (by omega)
    simp only [transeptref01_Get.l0]
    rw [if_pos (by rw [strOf_size]; omega), w64 ((i : Int) + 1) (by omega) (by omega), if_pos (by omega), if_pos (by rw [strOf_size]; omega), strOf_cut, show ((i : Int) + 1).toNat = i + 1 by omega, List.drop_zero, hbg]
    simp only [bind_s]
    rw [bt_str b hb i (by omega), List.drop_eq_getElem_cons (by omega : i < b.length), if_pos hi9]
    have hp2 := hp
    generalize hcx : b[i] = c at *
    rw [gl]
    cases hbad : bad i c with
    | true =>
      have hbad' : (i = 9 ∧ 1 < c) ∨ (0 < i ∧ c = 0) := by simpa [bad] using hbad
      rw [if_pos hbad']; simp
    | false =>
      have hbad' : ¬ ((i = 9 ∧ 1 < c) ∨ (0 < i ∧ c = 0)) := by simpa [bad] using hbad
      have hle : i = 9 → c ≤ 1 := fun h => by have := fun h2 => hbad' (.inl ⟨h, h2⟩); omega
      obtain ⟨s1, s2, s3⟩ := step_or i a c hi9 hle h0 h1' hc.1 hc.2
      obtain ⟨p1, p2, p3, p4⟩ := pow7 i hi9
      have hP63 : (2 : Int) ^ 63 = 9223372036854775808 := by decide
      have hP56 : (2 : Int) ^ 56 = 72057594037927936 := by decide
      have hm0 : 0 ≤ c % 128 * 2 ^ (7 * i) := Int.mul_nonneg (by omega) (by omega)
      have hm1 : a + c % 128 * 2 ^ (7 * i) < 18446744073709551616 := by
        by_cases e9 : i = 9
        · have := hle e9
          have hm : c % 128 * 2 ^ (7 * i) ≤ 1 * 2 ^ (7 * i) := Int.mul_le_mul_of_nonneg_right (by omega) (by omega)
          rw [hP63] at p1; omega
        · have := p2 (by omega)
          rw [p3] at s3; rw [hP56] at this; omega
      rw [if_neg hbad']
      simp only [Bool.not_false, if_true]
      rw [if_pos (by omega), Int.tmod_eq_emod_of_nonneg hc.1, u64w (c % 128) (by omega) (by omega), u64w _ hm0 (by omega), u64w _ s2 hm1]
      by_cases hs : c < 128
      · rw [if_pos hs, if_pos hs, Int.emod_eq_of_lt hc.1 hs]
      · rw [if_neg hs, if_neg hs]
        have e9 : i ≠ 9 := fun h => by have := hle h; omega
        have hp8 := p2 (by omega)
        rw [hP56] at hp8
        have ht : IntKind.u64.wrap (2 ^ (7 * i) * 128) = if i + 1 ≤ 9 then 2 ^ (7 * (i + 1)) else 0 := by
          rw [if_pos (by omega), p3, u64w _ (by omega) (by omega), Int.mul_comm]
        rw [ht, show ((i : Int) + 1) = ((i + 1 : Nat) : Int) by omega]
        rw [show c % 128 = c - 128 by omega] at s2 s3 ⊢
        exact ref_get_l0 b hb hn d (i + 1) k _ (by omega) (by omega) (fun j h h2 => by
          by_cases hj : j = i
          · subst hj; rw [hcx]; omega
          · exact hp2 j (by omega) h2) s2 (fun _ => s3) (by omega)
theorem ref_get (b : List Int) (hb : Bytes b) (hn : b.length ≤ 100000) (k : Nat) (hk : b.length + 13 ≤ k) : transeptref01_Get.f k (strOfNums b) = some (gl 0 0 b) := by
  unfold transeptref01_Get.f
  have := ref_get_l0 b hb hn b.length 0 k 0 (by omega) (by omega) (fun j h => by omega) (by omega) (fun _ => by simp) hk
  simpa using this
theorem ref_text (b : List Int) (hb : Bytes b) (hn : b.length ≤ 100000) (k : Nat) (hk : b.length + 14 ≤ k) : transeptref01_Text.f k (strOfNums b) 4096 = some (textF b) := by
  obtain ⟨k, rfl⟩ : ∃ m, k = m + 1 := ⟨k - 1, by omega⟩
  have hu := gl_u64 b 0 0 hb (by omega) (by omega) (by simp)
  have hr := gl_range b
  have hv := gl_nat b hb
  unfold transeptref01_Text.f textF
  rw [ref_get b hb hn (k + 1) (by omega), bind_s]
  generalize gl 0 0 b = V at *
  obtain ⟨n, s, e⟩ := V
  simp only at *
  by_cases he : e = 0
  · have hn0 := hv he
    rw [if_pos he, if_pos he, if_neg (by omega), u64w 4096 (by omega) (by omega)]
    by_cases h1 : 4096 < n
    · rw [if_pos h1, decide_eq_true (show n > 4096 from h1), transeptref01_Text.j0, if_pos rfl, w64 _ (by omega) (by omega)]
    · rw [if_neg h1, decide_eq_false (show ¬ n > 4096 from h1), transeptref01_Text.j0, if_neg (by decide), strOf_size, w64 ((b.length : Int) - s) (by omega) (by omega), u64w _ (by omega) (by omega)]
      by_cases h2 : n > (b.length : Int) - s
      · rw [if_pos h2, if_pos h2]
      · rw [if_neg h2, if_pos (by omega), w64 n (by omega) (by omega), w64 (s + n) (by omega) (by omega), if_pos (by omega), if_pos (by omega), if_neg (show ¬ (b.length : Int) - s < n from h2), strOf_cut]
  · rw [if_neg he, if_neg he]
theorem ref_bounded (b : List Int) (hb : Bytes b) (p : Nat) (hp : p ≤ b.length) (hn : b.length ≤ 100000) (m : Int) : transeptref05_bounded.f (strOfNums b) (p : Int) m = some ((boundF m (b.drop p)).1, (boundF m (b.drop p)).2.2) := by
  unfold transeptref05_bounded.f
  rw [strOf_size]
  by_cases h : p = b.length
  · subst h
    rw [if_pos (by omega), List.drop_length]; rfl
  · have hc := hb b[p] (List.getElem_mem (by omega))
    rw [if_neg (by omega), if_pos (by omega), if_pos (by omega), bt_str b hb p (by omega), w64 _ (by omega) (by omega), List.drop_eq_getElem_cons (by omega : p < b.length)]
    simp only [boundF]
    by_cases h1 : b[p] > m
    · rw [if_pos h1, if_pos h1]
    · rw [if_neg h1, if_neg (show ¬ m < b[p] from h1)]
end Go.Proofs.YtmlhlcdamppbfaaDoor.Pure
namespace Go.Proofs.YtmlhlcdamppbfaaDoor.Pure
open Go.RowKit Go.Proofs.YtmlhlcdamppbfaaDoor.Xa Go.Proofs.YtmlhlcdamppbfaaDoor.Ext Go.Proofs.YtmlhlcdamppbfaaDoorW.PrintWords Go.Proofs.YtmlhlcdamppbfaaDoorW.PrintLast
set_option linter.unusedVariables false
set_option linter.unusedSimpArgs false
theorem cut_end (b : List Int) (q : Nat) : (strOfNums b).extract q (strOfNums b).size = strOfNums (b.drop q) := by
  rw [strOf_cut, strOf_size, List.take_length]
theorem belowF_skip {n : Int} {l : List Int} {p e : Int} (h : e ≠ 0) : (belowF n l p e).2 = (p, e) := by
  unfold belowF
  split
  · rw [eachF_skip h]
  · simp only [eachF_skip h]
theorem chN_skip (l : List Int) (k : Int) (s : Int × Int) (h : s.2 ≠ 0) : ∀ j, (chN l k s j).2 = s
  | 0 => rfl
  | j + 1 => by
    have ih := chN_skip l k s h j
    rw [chN]
    split
    · rw [ih]; exact belowF_skip h
    · exact ih
theorem chT_skip (l : List Int) (s : Int × Int) (i : Nat) (h : (chT l s i).2.2 ≠ 0) : ∀ d, (chT l s (i + d)).2 = (chT l s i).2
  | 0 => rfl
  | d + 1 => by
    have ih := chT_skip l s i h d
    show (eachF textF ⟨#[]⟩ l (chT l s (i + d)).2.1 (chT l s (i + d)).2.2).2 = _
    rw [ih, eachF_skip h]
/-- Where the texts begin, what they are, and their errors. -/
def tQ (b : List Int) (P : Nat) : Nat → Nat
  | 0 => P
  | j + 1 => tQ b P j + (textF (b.drop (tQ b P j))).2.1.toNat
def tX (b : List Int) (P j : Nat) : Nat := (textF (b.drop (tQ b P j))).2.1.toNat
def tV (b : List Int) (P j : Nat) : ByteArray := (textF (b.drop (tQ b P j))).1
def tE (b : List Int) (P j : Nat) : Int := (textF (b.drop (tQ b P j))).2.2
section
variable {b : List Int} (hb : Bytes b) (hn : b.length ≤ 6000) {P : Nat} (hP : P ≤ b.length)
include hb hn
theorem t_range (q : Nat) : 0 ≤ (textF (b.drop q)).2.1 ∧ (textF (b.drop q)).2.1 ≤ ((b.length - q : Nat) : Int) := by
  have h := textF_range (b.drop q) (hb.drop q) (by rw [List.length_drop]; omega)
  rwa [List.length_drop] at h
include hP
theorem tQ_le : ∀ j, tQ b P j ≤ b.length
  | 0 => hP
  | j + 1 => by
    have ih := tQ_le j
    have h := t_range hb hn (tQ b P j)
    rw [tQ]; omega
omit hb hn hP in
theorem tQ_step (j : Nat) : (tQ b P j : Int) + (tX b P j : Int) = (tQ b P (j + 1) : Int) := by rw [tQ, tX]; omega
omit hP in
theorem ref_txt (j : Nat) : transeptref01_Text.f 10000 ((strOfNums b).extract (tQ b P j) (strOfNums b).size) 4096 = some (tV b P j, (tX b P j : Int), tE b P j) := by
  have h := t_range hb hn (tQ b P j)
  rw [cut_end, ref_text _ (hb.drop _) (by rw [List.length_drop]; omega) _ (by rw [List.length_drop]; omega)]
  unfold tV tX tE
  rw [Int.toNat_of_nonneg h.1]
omit hP in
theorem chT_ok : ∀ j, (∀ k, k < j → tE b P k = 0) → (chT b ((P : Int), 0) j).2 = ((tQ b P j : Int), 0)
  | 0, _ => rfl
  | j + 1, h => by
    have ih := chT_ok j (fun k hk => h k (by omega))
    have hr := t_range hb hn (tQ b P j)
    have he : (textF (b.drop (tQ b P j))).2.2 = 0 := h j (by omega)
    show (eachF textF ⟨#[]⟩ b (chT b ((P : Int), 0) j).2.1 (chT b ((P : Int), 0) j).2.2).2 = _
    rw [ih, eachF_two, Int.toNat_natCast, he, tQ]
    congr 1; omega
omit hP in
theorem chT_val (j : Nat) (h : ∀ k, k < j + 1 → tE b P k = 0) : (chT b ((P : Int), 0) (j + 1)).1 = tV b P j := by
  have ih := chT_ok hb hn j (fun k hk => h k (by omega))
  have he : (textF (b.drop (tQ b P j))).2.2 = 0 := h j (by omega)
  show (eachF textF ⟨#[]⟩ b (chT b ((P : Int), 0) j).2.1 (chT b ((P : Int), 0) j).2.2).1 = _
  rw [ih, eachF_at (by rw [Int.toNat_natCast]; exact he), Int.toNat_natCast]; rfl
omit hP in
theorem chT_bad (i : Nat) (h : ∀ k, k < i → tE b P k = 0) : (chT b ((P : Int), 0) (i + 1)).2 = ((tQ b P (i + 1) : Int), tE b P i) := by
  have ih := chT_ok hb hn i h
  have hr := t_range hb hn (tQ b P i)
  show (eachF textF ⟨#[]⟩ b (chT b ((P : Int), 0) i).2.1 (chT b ((P : Int), 0) i).2.2).2 = _
  rw [ih, eachF_two, Int.toNat_natCast, tQ]
  congr 1; omega
end
theorem bound_c (m c : Int) (r : List Int) : boundF m (c :: r) = if m < c then (0, 0, 3) else (c, 1, 0) := rfl
theorem bound_ok (m : Int) (L : List Int) (h : (boundF m L).2.2 = 0) : (boundF m L).2.1 = 1 := by
  cases L with
  | nil => simp [boundF] at h
  | cons c r =>
    rw [bound_c] at h ⊢
    by_cases hm : m < c
    · rw [if_pos hm] at h; simp at h
    · rw [if_neg hm]
theorem bound_bad (m : Int) (L : List Int) (h : (boundF m L).2.2 ≠ 0) : (boundF m L).2.1 = 0 := by
  cases L with
  | nil => rfl
  | cons c r =>
    rw [bound_c] at h ⊢
    by_cases hm : m < c
    · rw [if_pos hm]
    · rw [if_neg hm] at h; simp at h
theorem bound_val (m : Int) (L : List Int) (hL : Bytes L) : 0 ≤ (boundF m L).1 ∧ (boundF m L).1 ≤ 255 := by
  cases L with
  | nil => simp [boundF]
  | cons c r =>
    have hc := hL c (by simp)
    rw [bound_c]
    by_cases hm : m < c
    · rw [if_pos hm]; simp
    · rw [if_neg hm]; simp only []; omega
theorem bound_le (m : Int) (L : List Int) (h : (boundF m L).2.2 = 0) : (boundF m L).1 ≤ m := by
  cases L with
  | nil => simp [boundF] at h
  | cons c r =>
    rw [bound_c] at h ⊢
    by_cases hm : m < c
    · rw [if_pos hm] at h; simp at h
    · rw [if_neg hm]; simp only []; omega
theorem ref_bnd (b : List Int) (hb : Bytes b) (p : Nat) (hn : b.length ≤ 100000) (m : Int) : transeptref05_bounded.f (strOfNums b) (p : Int) m = some ((boundF m (b.drop p)).1, (boundF m (b.drop p)).2.2) := by
  by_cases h : p ≤ b.length
  · exact ref_bounded b hb p h hn m
  · unfold transeptref05_bounded.f
    rw [strOf_size, if_pos (by omega), List.drop_eq_nil_of_le (by omega)]; rfl
/-- The numbers of one byte. -/
theorem chN_ok (b : List Int) (c : Int) (Q N : Nat) (hT : ∀ j, j < N → 0 < TN c j ∧ TN c j ≤ 256) : ∀ j, j ≤ N → (∀ k, k < j → (boundF (TN c k - 1) (b.drop (Q + k))).2.2 = 0) → (chN b c ((Q : Int), 0) j).2 = (((Q + j : Nat) : Int), 0)
  | 0, _, _ => rfl
  | j + 1, hj, h => by
    have ih := chN_ok b c Q N hT j (by omega) (fun k hk => h k (by omega))
    obtain ⟨h1, h2⟩ := hT j (by omega)
    have he := h j (by omega)
    rw [chN, if_pos h1, ih, show belowF (TN c j) b ((Q + j : Nat) : Int) 0 = eachF (boundF (TN c j - 1)) 0 b ((Q + j : Nat) : Int) 0 from if_pos h2, eachF_two, Int.toNat_natCast, he, bound_ok _ _ he]
    congr 1
theorem chN_val (b : List Int) (c : Int) (Q N : Nat) (hT : ∀ j, j < N → 0 < TN c j ∧ TN c j ≤ 256) (j : Nat) (hj : j < N) (h : ∀ k, k < j + 1 → (boundF (TN c k - 1) (b.drop (Q + k))).2.2 = 0) : (chN b c ((Q : Int), 0) (j + 1)).1 = (boundF (TN c j - 1) (b.drop (Q + j))).1 := by
  have ih := chN_ok b c Q N hT j (by omega) (fun k hk => h k (by omega))
  obtain ⟨h1, h2⟩ := hT j hj
  have he := h j (by omega)
  rw [chN, if_pos h1, ih, show belowF (TN c j) b ((Q + j : Nat) : Int) 0 = eachF (boundF (TN c j - 1)) 0 b ((Q + j : Nat) : Int) 0 from if_pos h2, eachF_at (by rw [Int.toNat_natCast]; exact he), Int.toNat_natCast]
theorem chN_stay (l : List Int) (k : Int) (s : Int × Int) (i : Nat) (h : (chN l k s i).2.2 ≠ 0) : ∀ d, (chN l k s (i + d)).2 = (chN l k s i).2
  | 0 => rfl
  | d + 1 => by
    have ih := chN_stay l k s i h d
    show (chN l k s ((i + d) + 1)).2 = _
    rw [chN]
    split
    · rw [ih]; exact belowF_skip h
    · exact ih
theorem chN_bad (b : List Int) (c : Int) (Q N : Nat) (hT : ∀ j, j < N → 0 < TN c j ∧ TN c j ≤ 256) (i : Nat) (hi : i < N) (h : ∀ k, k < i → (boundF (TN c k - 1) (b.drop (Q + k))).2.2 = 0) (he : (boundF (TN c i - 1) (b.drop (Q + i))).2.2 ≠ 0) : (chN b c ((Q : Int), 0) (i + 1)).2 = (((Q + i : Nat) : Int), (boundF (TN c i - 1) (b.drop (Q + i))).2.2) := by
  have ih := chN_ok b c Q N hT i (by omega) h
  obtain ⟨h1, h2⟩ := hT i hi
  rw [chN, if_pos h1, ih, show belowF (TN c i) b ((Q + i : Nat) : Int) 0 = eachF (boundF (TN c i - 1)) 0 b ((Q + i : Nat) : Int) 0 from if_pos h2, eachF_two, Int.toNat_natCast, bound_bad _ _ he]
  congr 1
/-- No more numbers. -/
theorem chN_rest (b : List Int) (c : Int) (s : Int × Int) (N : Nat) (hT : ∀ j, N ≤ j → j < 3 → TN c j ≤ 0) : ∀ d, N + d ≤ 3 → (chN b c s (N + d)).2 = (chN b c s N).2
  | 0, _ => rfl
  | d + 1, hd => by
    have ih := chN_rest b c s N hT d (by omega)
    show (chN b c s ((N + d) + 1)).2 = _
    rw [chN, if_neg (by have := hT (N + d) (by omega) (by omega); omega)]; exact ih
theorem chN_none (b : List Int) (c : Int) (s : Int × Int) (j : Nat) (h : TN c j ≤ 0) : (chN b c s (j + 1)).1 = 0 := by
  rw [chN, if_neg (by omega)]
/-- A status: two bytes. -/
theorem below_status (b : List Int) (q : Nat) : belowF 1000 b (q : Int) 0 =
    if (boundF 3 (b.drop q)).2.2 = 0 then
      (if (boundF (if (boundF 3 (b.drop q)).1 = 3 then 231 else 255) (b.drop (q + 1))).2.2 = 0 then
        ((boundF 3 (b.drop q)).1 * 256 + (boundF (if (boundF 3 (b.drop q)).1 = 3 then 231 else 255) (b.drop (q + 1))).1, ((q + 2 : Nat) : Int), 0)
       else ((boundF 3 (b.drop q)).1 * 256 + 0, ((q + 1 : Nat) : Int), (boundF (if (boundF 3 (b.drop q)).1 = 3 then 231 else 255) (b.drop (q + 1))).2.2))
    else (0 * 256 + 0, (q : Int), (boundF 3 (b.drop q)).2.2) := by
  unfold belowF
  rw [if_neg (by omega), show ((1000 : Int) - 1) / 256 = 3 by decide, show ((1000 : Int) - 1) % 256 = 231 by decide]
  by_cases h : (boundF 3 (b.drop q)).2.2 = 0
  · rw [if_pos h, eachF_at (by rw [Int.toNat_natCast]; exact h), Int.toNat_natCast, bound_ok _ _ h]
    simp only []
    rw [show (q : Int) + 1 = ((q + 1 : Nat) : Int) by omega]
    generalize (if (boundF 3 (b.drop q)).1 = 3 then (231 : Int) else 255) = m
    by_cases h2 : (boundF m (b.drop (q + 1))).2.2 = 0
    · rw [if_pos h2, eachF_at (by rw [Int.toNat_natCast]; exact h2), Int.toNat_natCast, bound_ok _ _ h2]
      simp only []
      rw [show ((q + 1 : Nat) : Int) + 1 = ((q + 2 : Nat) : Int) by omega]
    · rw [if_neg h2, eachF_bad (by rw [Int.toNat_natCast]; exact h2), Int.toNat_natCast, bound_bad _ _ h2]
      simp only []
      rw [show ((q + 1 : Nat) : Int) + 0 = ((q + 1 : Nat) : Int) by omega]
  · rw [if_neg h, eachF_bad (by rw [Int.toNat_natCast]; exact h), Int.toNat_natCast, bound_bad _ _ h]
    simp only []
    rw [show (q : Int) + 0 = (q : Int) by omega, if_neg (show ¬ (0 : Int) = 3 by decide), eachF_skip h]
theorem decC_bad {b : List Int} (h : (stopF b).2 ≠ 0) : decC b = #[.int .i64 0, .int .u64 0, .int .u64 0, .string ⟨#[]⟩, .string ⟨#[]⟩, .string ⟨#[]⟩, .string ⟨#[]⟩, .int .i64 0, .int .i64 0, .int .i64 0] := if_neg h
theorem endF_bad {n : Nat} {s : Int × Int} (h : s.2 ≠ 0) : endF n s = s := if_neg (fun z => h z.1)
end Go.Proofs.YtmlhlcdamppbfaaDoor.Pure
namespace Go.Proofs.YtmlhlcdamppbfaaDoor.Pure
open Go.RowKit Go.Proofs.YtmlhlcdamppbfaaDoor.Xa Go.Proofs.YtmlhlcdamppbfaaDoor.Ext Go.Proofs.YtmlhlcdamppbfaaDoorW.PrintWords Go.Proofs.YtmlhlcdamppbfaaDoorW.PrintLast
set_option linter.unusedVariables false
set_option linter.unusedSimpArgs false
theorem kind_bad {c : Int} {r : List Int} (h : ¬ (1 ≤ c ∧ c ≤ 14)) (h0 : 0 ≤ c) : (kindF (c :: r)).2 = (0, 3) := by
  unfold kindF
  by_cases h14 : 14 < c
  · have e : eachF (boundF 14) 0 (c :: r) 0 0 = (0, 0, 3) := by
      rw [eachF_bad (by show (boundF 14 (c :: r)).2.2 ≠ 0; rw [bound_c, if_pos h14]; decide)]
      show (0, 0 + (boundF 14 (c :: r)).2.1, (boundF 14 (c :: r)).2.2) = _
      rw [bound_c, if_pos h14]; rfl
    rw [e, if_neg (by simp)]
  · have e : eachF (boundF 14) 0 (c :: r) 0 0 = (c, 1, 0) := by
      rw [eachF_at (by show (boundF 14 (c :: r)).2.2 = 0; rw [bound_c, if_neg h14])]
      show ((boundF 14 (c :: r)).1, 0 + (boundF 14 (c :: r)).2.1, (0 : Int)) = _
      rw [bound_c, if_neg h14]; rfl
    rw [e, if_pos ⟨rfl, h⟩]
theorem kind_good {c : Int} {r : List Int} (h1 : 1 ≤ c) (h2 : c ≤ 14) : kindF (c :: r) = (c, 1, 0) := by
  have e : eachF (boundF 14) 0 (c :: r) 0 0 = (c, 1, 0) := by
    rw [eachF_at (by show (boundF 14 (c :: r)).2.2 = 0; rw [bound_c, if_neg (by omega)])]
    show ((boundF 14 (c :: r)).1, 0 + (boundF 14 (c :: r)).2.1, (0 : Int)) = _
    rw [bound_c, if_neg (by omega)]; rfl
  unfold kindF
  rw [e, if_neg (fun z => z.2 ⟨h1, h2⟩)]
/-- A stop behind the kind. -/
theorem stop_kind {b : List Int} (h : (kindF b).2.2 ≠ 0) : stopF b = (kindF b).2 := by
  unfold stopF startF
  simp only [idF_each]
  rw [eachF_skip (t := gl 0 0) h]
  simp only []
  rw [eachF_skip h]
  simp only []
  rw [if_neg h, endF_bad h]
/-- The start, behind a kind. -/
theorem start_k {b : List Int} {c : Int} (h : kindF b = (c, 1, 0)) : startF b = (c, (eachF (gl 0 0) 0 b 1 0).1, idF c b (eachF (gl 0 0) 0 b 1 0).2.1 (eachF (gl 0 0) 0 b 1 0).2.2) := by
  unfold startF; rw [h]
theorem stop_start {b : List Int} {c t i p e : Int} (h : startF b = (c, t, i, p, e)) (he : e ≠ 0) : stopF b = (p, e) := by
  unfold stopF; rw [h]; simp only []; rw [if_neg he, endF_bad he]
theorem stop_time {b : List Int} {c e1 : Int} {p1 P : Nat} (h : kindF b = (c, 1, 0)) (hp : (gl 0 0 (b.drop 1)).2.1 = (p1 : Int)) (hP : 1 + (p1 : Int) = (P : Int)) (he : (gl 0 0 (b.drop 1)).2.2 = e1) (h1 : e1 ≠ 0) : stopF b = ((P : Int), e1) := by
  have e : eachF (gl 0 0) 0 b 1 0 = (0, (P : Int), e1) := by
    rw [eachF_bad (by show (gl 0 0 (b.drop 1)).2.2 ≠ 0; rw [he]; exact h1)]
    show (0, 1 + (gl 0 0 (b.drop 1)).2.1, (gl 0 0 (b.drop 1)).2.2) = _
    rw [hp, he, hP]
  have s := start_k h
  rw [e] at s
  simp only [idF_each] at s
  rw [eachF_skip h1] at s
  exact stop_start s h1
theorem start_t {b : List Int} {c t1 : Int} {p1 P : Nat} (h : kindF b = (c, 1, 0)) (hg : gl 0 0 (b.drop 1) = (t1, (p1 : Int), 0)) (hP : 1 + (p1 : Int) = (P : Int)) : startF b = (c, t1, idF c b (P : Int) 0) := by
  have e : eachF (gl 0 0) 0 b 1 0 = (t1, (P : Int), 0) := by
    rw [eachF_at (by show (gl 0 0 (b.drop 1)).2.2 = 0; rw [hg])]
    show ((gl 0 0 (b.drop 1)).1, 1 + (gl 0 0 (b.drop 1)).2.1, (0 : Int)) = _
    rw [hg, ← hP]
  rw [start_k h, e]
theorem gl_zero (r : List Int) : gl 0 0 (0 :: r) = (0, 1, 0) := by
  rw [gl, if_neg (by omega), if_pos (by omega)]; rfl
theorem gl_pos {d : Int} {r : List Int} (hl : Bytes (d :: r)) (hd : d ≠ 0) (h : (gl 0 0 (d :: r)).2.2 = 0) : (gl 0 0 (d :: r)).1 ≠ 0 := by
  obtain ⟨m, r', h1, h2, h3⟩ := gl_ok (d :: r) 0 0 hl h
  rw [h3]
  simp only [Nat.mul_zero]
  intro hz
  have hm : m = 0 := by have : (2 : Int) ^ 0 = 1 := rfl; rw [this] at hz; omega
  subst hm
  rw [put_small (by omega)] at h1
  injection h1 with h1 _
  exact hd h1
/-- The fetch, passed. -/
theorem id_pass {b : List Int} (hb : Bytes b) (c : Int) (P : Nat) (hP : P ≤ b.length) (hp : ∀ h : P < b.length, (c = 1 ∨ c = 2) ↔ b[P] = 0) : idF c b (P : Int) 0 = eachF (gl 0 0) 0 b (P : Int) 0 := by
  unfold idF
  rcases Nat.lt_or_ge P b.length with hl | hl
  · have hd : b.drop P = b[P] :: b.drop (P + 1) := List.drop_eq_getElem_cons hl
    have hp' := hp hl
    have hbd : Bytes (b[P] :: b.drop (P + 1)) := by rw [← hd]; exact hb.drop P
    generalize b[P] = d at *
    by_cases ha : c = 1 ∨ c = 2
    · have d0 := hp'.1 ha
      subst d0
      rw [if_pos ha, eachF_at (by rw [Int.toNat_natCast, hd, bound_c, if_neg (by omega)]), eachF_at (by rw [Int.toNat_natCast, hd, gl_zero]), Int.toNat_natCast, hd, bound_c, if_neg (by omega), gl_zero]
    · have d0 : d ≠ 0 := fun z => ha (hp'.2 z)
      rw [if_neg ha]
      by_cases he : (gl 0 0 (b.drop P)).2.2 = 0
      · have := gl_pos hbd d0 (by rw [← hd]; exact he)
        rw [← hd] at this
        rw [eachF_at (by rw [Int.toNat_natCast]; exact he), Int.toNat_natCast, if_neg (fun z => this z.2)]
      · rw [eachF_bad (by rw [Int.toNat_natCast]; exact he), Int.toNat_natCast, if_neg (fun z => he z.1)]
  · have hd : b.drop P = [] := List.drop_eq_nil_of_le hl
    have g0 : gl 0 0 ([] : List Int) = (0, 0, 2) := rfl
    have b0 : boundF 0 ([] : List Int) = (0, 0, 2) := rfl
    rw [eachF_bad (by rw [Int.toNat_natCast, hd, b0]; decide), eachF_bad (by rw [Int.toNat_natCast, hd, g0]; decide), Int.toNat_natCast, hd, b0, g0]
    split
    · rfl
    · rw [if_neg (by simp)]
/-- The fetch, refused at its first byte. -/
theorem id_bad {b : List Int} (hb : Bytes b) (c : Int) (P : Nat) (hl : P < b.length) (hp : ¬ ((c = 1 ∨ c = 2) ↔ b[P] = 0)) : (idF c b (P : Int) 0).2 = ((P : Int), 3) := by
  have hd : b.drop P = b[P] :: b.drop (P + 1) := List.drop_eq_getElem_cons hl
  have hbd := hb b[P] (List.getElem_mem hl)
  unfold idF
  generalize b[P] = d at *
  by_cases ha : c = 1 ∨ c = 2
  · have d0 : d ≠ 0 := fun z => hp ⟨fun _ => z, fun _ => ha⟩
    rw [if_pos ha, eachF_two, Int.toNat_natCast, hd, bound_c, if_pos (by omega)]; simp
  · have d0 : d = 0 := Classical.byContradiction fun z => hp ⟨fun h => absurd h ha, fun h => absurd h z⟩
    subst d0
    rw [if_neg ha, eachF_at (by rw [Int.toNat_natCast, hd, gl_zero]), Int.toNat_natCast, hd, gl_zero, if_pos ⟨rfl, rfl⟩]
/-- The start, behind a fetch. -/
theorem start_i {b : List Int} {c t1 id e2 : Int} {P k2 P2 : Nat} (h : startF b = (c, t1, idF c b (P : Int) 0)) (hi : idF c b (P : Int) 0 = eachF (gl 0 0) 0 b (P : Int) 0) (hg : gl 0 0 (b.drop P) = (id, (k2 : Int), e2)) (hP : (P : Int) + (k2 : Int) = (P2 : Int)) : ∃ v, startF b = (c, t1, v, (P2 : Int), e2) ∧ (e2 = 0 → v = id) := by
  rw [h, hi]
  by_cases he : e2 = 0
  · subst he
    refine ⟨id, ?_, fun _ => rfl⟩
    rw [eachF_at (by rw [Int.toNat_natCast, hg]), Int.toNat_natCast, hg, ← hP]
  · refine ⟨0, ?_, fun z => absurd z he⟩
    rw [eachF_bad (by rw [Int.toNat_natCast, hg]; exact he), Int.toNat_natCast, hg, ← hP]
/-- Behind the start. -/
theorem stop_s {b : List Int} {c t1 id : Int} {p : Int} (h : startF b = (c, t1, id, p, 0)) : stopF b = endF b.length (chN b c (chT b (p, 0) (T0 c).toNat).2 3).2 := by
  unfold stopF; rw [h]; simp only [if_true]
theorem decC_s {b : List Int} {c t1 id : Int} {p : Int} (h : startF b = (c, t1, id, p, 0)) (hs : (stopF b).2 = 0) : decC b =
    #[.int .i64 c, .int .u64 t1, .int .u64 id, .string (txt b (p, 0) (T0 c).toNat 0), .string (txt b (p, 0) (T0 c).toNat 1), .string (txt b (p, 0) (T0 c).toNat 2), .string (txt b (p, 0) (T0 c).toNat 3),
      .int .i64 (num b c (chT b (p, 0) (T0 c).toNat).2 3 0), .int .i64 (num b c (chT b (p, 0) (T0 c).toNat).2 3 1), .int .i64 (num b c (chT b (p, 0) (T0 c).toNat).2 3 2)] := by
  unfold decC; rw [if_pos hs, h]
theorem let_tab : ∀ K : Fin 15, K.val ≠ 7 → K.val ≠ 10 → ∀ j : Fin 3, j.val < (lets.getD K.val ⟨#[]⟩).size → transeptref05_most.f (bt (lets.getD K.val ⟨#[]⟩) (j.val : Int)) = some (TN (K.val : Int) j.val - 1) ∧ (bt (lets.getD K.val ⟨#[]⟩) (j.val : Int) == 115) = false ∧ 0 < TN (K.val : Int) j.val ∧ TN (K.val : Int) j.val ≤ 256 := by decide +kernel
theorem let_none : ∀ K : Fin 15, ∀ j : Fin 3, (lets.getD K.val ⟨#[]⟩).size ≤ j.val → TN (K.val : Int) j.val ≤ 0 := by decide +kernel
theorem let_size : ∀ K : Fin 15, (lets.getD K.val ⟨#[]⟩).size ≤ 3 := by decide +kernel
theorem let_stat : ∀ K : Fin 15, K.val = 7 ∨ K.val = 10 → (lets.getD K.val ⟨#[]⟩).size = 1 ∧ bt (lets.getD K.val ⟨#[]⟩) 0 = 115 ∧ TN (K.val : Int) 0 = 1000 ∧ TN (K.val : Int) 1 ≤ 0 ∧ TN (K.val : Int) 2 ≤ 0 := by decide +kernel
end Go.Proofs.YtmlhlcdamppbfaaDoor.Pure
