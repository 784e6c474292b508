/- Bytes are read as the document says. No condition. -/
import Derived.Test.YthbhggpajgokcaaXax8
import Derived.Test.YthbhggpajgokcaaNumQ
namespace Go.Proofs.Ythbhggpajgokcaa.Pure
open Go.RowKit Go.Proofs.Ythbhggpajgokcaa.Xa Go.Proofs.Ythbhggpajgokcaa.Ext Go.Proofs.YthbhggpajgokcaaW.PrintWords Go.Proofs.YthbhggpajgokcaaW.PrintLast

theorem gl_u64 : ∀ (l : List Int) (i : Nat) (a : Int), Bytes l → i ≤ 9 → 0 ≤ a → a < 2 ^ (7 * i) → 0 ≤ (gl i a l).1 ∧ (gl i a l).1 < 18446744073709551616
  | [], i, a, _, _, _, _ => by simp [gl]
  | c :: l, i, a, hl, hi, h0, h1 => by
    have hc := hl c (by simp)
    rw [gl]
    split
    · simp
    · rename_i hb
      have h9 : i = 9 → c ≤ 1 := fun h => by have := fun h2 => hb (.inl ⟨h, h2⟩); omega
      obtain ⟨s1, s2, s3⟩ := step_or i a c hi h9 h0 h1 hc.1 hc.2
      obtain ⟨p1, p2, p3, p4⟩ := pow7 i hi
      split
      · rename_i hs
        rw [Int.emod_eq_of_lt hc.1 hs] at s2 s3
        refine ⟨s2, ?_⟩
        rw [p3] at s3
        by_cases hi9 : i = 9
        · subst hi9
          have := h9 rfl
          have e : (2 : Int) ^ (7 * 9) = 9223372036854775808 := by decide
          rw [e] at h1 ⊢; omega
        · have := p2 (by omega)
          have e : (2 : Int) ^ 56 = 72057594037927936 := by decide
          rw [e] at this; omega
      · rename_i hs
        have hi9 : i ≠ 9 := fun h => by have := h9 h; omega
        rw [show c % 128 = c - 128 by omega] at s2 s3
        exact gl_u64 l (i + 1) _ (fun x hx => hl x (by simp [hx])) (by omega) s2 s3
theorem strOf_sz (a : List Int) : (strOfNums a).size = a.length := by simp [strOfNums, ByteArray.size]
theorem strOf_cut (b : List Int) (lo hi : Nat) : (strOfNums b).extract lo hi = strOfNums ((b.take hi).drop lo) := by
  apply ByteArray.ext
  apply Array.ext'
  simp [strOfNums, List.map_drop, List.map_take, List.take_drop]
  by_cases h : lo ≤ hi
  · rw [show lo + (hi - lo) = hi by omega]
  · rw [show hi - lo = 0 by omega, List.drop_eq_nil_of_le, List.drop_eq_nil_of_le] <;> simp <;> omega
theorem bt_str (l : List Int) (hl : Bytes l) (i : Nat) (hi : i < l.length) : bt (strOfNums l) i = l[i] := by
  have hs : (strOfNums l).size = l.length := strOf_sz l
  have hx := hl l[i] (List.getElem_mem hi)
  unfold bt
  rw [dif_pos (by simp [hs, hi])]
  simp only [strOfNums, ByteArray.getElem_eq_getElem_data, List.getElem_toArray, List.getElem_map, Int.toNat_natCast]
  rw [UInt8.toNat_ofNat']; omega
def bad (i : Nat) (c : Int) : Bool := decide ((i = 9 ∧ 1 < c) ∨ (0 < i ∧ c = 0))
theorem begins_l0 (b : List Int) (hb : Bytes b) (i : Nat) (hi : i < b.length) (h9 : i ≤ 9) (hp : ∀ j, (h : j < i) → 128 ≤ b[j]'(by omega)) :
    ∀ (d k j : Nat), j + d = i → d + 2 ≤ k → transeptref01_begins.l0 k (strOfNums (b.take (i + 1))) j = some (!bad i b[i])
  | 0, k, j, hj, hk => by
    obtain ⟨k, rfl⟩ : ∃ m, k = m + 1 + 1 := ⟨k - 2, by omega⟩
    obtain rfl : j = i := by omega
    have hsz : (strOfNums (b.take (j + 1))).size = j + 1 := by rw [strOf_sz, List.length_take]; omega
    have hbt : bt (strOfNums (b.take (j + 1))) j = b[j] := by
      rw [bt_str _ (hb.take _) j (by rw [List.length_take]; omega), List.getElem_take]
    have hend : transeptref01_begins.l0 (k + 1) (strOfNums (b.take (j + 1))) (wrap64 ((j : Int) + 1)) = some true := by
      rw [w64 _ (by omega) (by omega)]
      simp only [transeptref01_begins.l0]; rw [if_neg (by omega)]
    have hx := hb b[j] (List.getElem_mem hi)
    rw [show k + 1 + 1 = (k + 1) + 1 from rfl, transeptref01_begins.l0]
    rw [hend, hbt, w64 ((j : Int) + 1) (by omega) (by omega)]
    rw [if_pos (by omega), if_pos (by omega), if_neg (by omega), if_neg (c := (j : Int) + 1 < _) (by omega)]
    simp only [ite_self]
    unfold bad
    generalize b[j] = c at *
    by_cases e9 : j = 9
    · subst e9
      by_cases e1 : c > 1
      · simp [e1]
      · by_cases e0 : c = 0
        · simp [e0]
        · have : ¬ 1 < c := e1
          simp [e0, this]
    · rw [if_neg (by omega)]
      by_cases e0 : 0 < j
      · by_cases ec : c = 0
        · simp [e0, ec]
        · simp [e9, ec]
      · simp [e9, e0]
  | d + 1, k, j, hj, hk => by
    obtain ⟨k, rfl⟩ : ∃ m, k = m + 1 := ⟨k - 1, by omega⟩
    have hsz : (strOfNums (b.take (i + 1))).size = i + 1 := by rw [strOf_sz, List.length_take]; omega
    have hbt : bt (strOfNums (b.take (i + 1))) j = b[j]'(by omega) := by
      rw [bt_str _ (hb.take _) j (by rw [List.length_take]; omega), List.getElem_take]
    have hc := hp j (by omega)
    have ih := begins_l0 b hb i hi h9 hp d k (j + 1) (by omega) (by omega)
    rw [transeptref01_begins.l0, hbt, w64 ((j : Int) + 1) (by omega) (by omega), show ((j : Int) + 1) = ((j + 1 : Nat) : Int) by omega, ih]
    rw [if_pos (by omega), if_pos (by omega), if_neg (by omega), if_neg (by omega), if_neg (c := b[j]'_ = 0) (by omega), if_neg (c := b[j]'_ < 128) (by omega)]
    simp
theorem ref_get_l0 (b : List Int) (hb : Bytes b) (hn : b.length ≤ 1000) : ∀ (d i k : Nat) (a : Int), i + d = b.length → (d = 0 ∨ i ≤ 9) → (∀ j, (h : j < i) → (h2 : j < b.length) → 128 ≤ b[j]) → 0 ≤ a → (i ≤ 9 → a < 2 ^ (7 * i)) → d + 13 ≤ k →
    transeptref01_Get.l0 k (strOfNums b) a (if i ≤ 9 then 2 ^ (7 * i) else 0) i = some (gl i a (b.drop i))
  | 0, i, k, a, hi, h9, hp, h0, h1, hk => by
    obtain ⟨k, rfl⟩ : ∃ m, k = m + 1 := ⟨k - 1, by omega⟩
    simp only [transeptref01_Get.l0]
    rw [if_neg (by rw [strOf_sz]; omega), List.drop_eq_nil_of_le (by omega), strOf_sz]
    simp only [gl]; congr 3; omega
  | d + 1, i, k, a, hi, h9, hp, h0, h1, hk => by
    obtain ⟨k, rfl⟩ : ∃ m, k = m + 1 := ⟨k - 1, by omega⟩
    have hi9 : i ≤ 9 := by omega
    have h1' := h1 hi9
    have hc := hb b[i] (List.getElem_mem (by omega))
    have hbg : transeptref01_begins.f k (strOfNums (b.take (i + 1))) = some (!bad i b[i]) :=
      begins_l0 b hb i (by omega) hi9 (fun j h => hp j h (by omega)) i k 0 (by omega) (by omega)
    simp only [transeptref01_Get.l0]
    rw [if_pos (by rw [strOf_sz]; omega), w64 ((i : Int) + 1) (by omega) (by omega), if_pos (by omega), if_pos (by rw [strOf_sz]; omega), strOf_cut, show ((i : Int) + 1).toNat = i + 1 by omega, List.drop_zero, hbg]
    simp only [Option.bind_some]
    rw [bt_str b hb i (by omega), List.drop_eq_getElem_cons (by omega : i < b.length), if_pos hi9]
    have hp2 := hp
    generalize hcx : b[i] = c at *
    rw [gl]
    cases hbad : bad i c with
    | true =>
      have hbad' : (i = 9 ∧ 1 < c) ∨ (0 < i ∧ c = 0) := by simpa [bad] using hbad
      rw [if_pos hbad']; simp
    | false =>
      have hbad' : ¬ ((i = 9 ∧ 1 < c) ∨ (0 < i ∧ c = 0)) := by simpa [bad] using hbad
      have hle : i = 9 → c ≤ 1 := fun h => by have := fun h2 => hbad' (.inl ⟨h, h2⟩); omega
      obtain ⟨s1, s2, s3⟩ := step_or i a c hi9 hle h0 h1' hc.1 hc.2
      obtain ⟨p1, p2, p3, p4⟩ := pow7 i hi9
      have hP63 : (2 : Int) ^ 63 = 9223372036854775808 := by decide
      have hP56 : (2 : Int) ^ 56 = 72057594037927936 := by decide
      have hm0 : 0 ≤ c % 128 * 2 ^ (7 * i) := Int.mul_nonneg (by omega) (by omega)
      have hm1 : a + c % 128 * 2 ^ (7 * i) < 18446744073709551616 := by
        by_cases e9 : i = 9
        · have := hle e9
          have hm : c % 128 * 2 ^ (7 * i) ≤ 1 * 2 ^ (7 * i) := Int.mul_le_mul_of_nonneg_right (by omega) (by omega)
          rw [hP63] at p1; omega
        · have := p2 (by omega)
          rw [p3] at s3; rw [hP56] at this; omega
      rw [if_neg hbad']
      simp only [Bool.not_false, if_true]
      rw [if_pos (by omega), Int.tmod_eq_emod_of_nonneg hc.1, u64w (c % 128) (by omega) (by omega), u64w _ hm0 (by omega), u64w _ s2 hm1]
      by_cases hs : c < 128
      · rw [if_pos hs, if_pos hs, Int.emod_eq_of_lt hc.1 hs]
      · rw [if_neg hs, if_neg hs]
        have e9 : i ≠ 9 := fun h => by have := hle h; omega
        have hp8 := p2 (by omega)
        rw [hP56] at hp8
        have ht : IntKind.u64.wrap (2 ^ (7 * i) * 128) = if i + 1 ≤ 9 then 2 ^ (7 * (i + 1)) else 0 := by
          rw [if_pos (by omega), p3, u64w _ (by omega) (by omega), Int.mul_comm]
        rw [ht, show ((i : Int) + 1) = ((i + 1 : Nat) : Int) by omega]
        rw [show c % 128 = c - 128 by omega] at s2 s3 ⊢
        exact ref_get_l0 b hb hn d (i + 1) k _ (by omega) (by omega) (fun j h h2 => by
          by_cases hj : j = i
          · subst hj; rw [hcx]; omega
          · exact hp2 j (by omega) h2) s2 (fun _ => s3) (by omega)
theorem ref_get (b : List Int) (hb : Bytes b) (hn : b.length ≤ 1000) (k : Nat) (hk : b.length + 13 ≤ k) : transeptref01_Get.f k (strOfNums b) = some (gl 0 0 b) := by
  unfold transeptref01_Get.f
  have := ref_get_l0 b hb hn b.length 0 k 0 (by omega) (by omega) (fun j h => by omega) (by omega) (fun _ => by simp) hk
  simpa using this
theorem gl_size : ∀ (l : List Int) (i : Nat) (n : Int), (i : Int) ≤ (gl i n l).2.1 ∧ (gl i n l).2.1 ≤ i + l.length := fun l i n => ⟨(gl_form l i n).1, (gl_form l i n).2.1⟩
/-- Both read the same text. -/
theorem texts (b : List Int) (hb : Bytes b) (hn : b.length ≤ 1000) (most : Int) (k : Nat) (hk : b.length + 14 ≤ k) (hu : 0 ≤ (gl 0 0 b).1 ∧ (gl 0 0 b).1 < 18446744073709551616) :
    ∃ t, number_Text.f k b most = some t ∧ transeptref01_Text.f k (strOfNums b) most = some t := by
  obtain ⟨k, rfl⟩ : ∃ m, k = m + 1 := ⟨k - 1, by omega⟩
  unfold number_Text.f transeptref01_Text.f
  rw [get_f b hb (by omega), ref_get b hb hn (k + 1) (by omega)]
  obtain ⟨g1, g2⟩ := gl_size b 0 0
  generalize gl 0 0 b = G at *
  obtain ⟨x, s, e⟩ := G
  simp only [Int.natCast_zero, Int.zero_add] at g1 g2 hu ⊢
  simp only [Option.bind_some]
  by_cases he : e = 0
  · rw [if_pos he, if_pos he]
    have core : ∀ z : Bool, ∃ t, number_Text.j0 (k + 1) b s x z = some t ∧ transeptref01_Text.j0 (k + 1) (strOfNums b) x s z = some t := by
      intro z
      simp only [number_Text.j0, transeptref01_Text.j0, strOf_sz]
      cases z with
      | true => simp
      | false =>
        simp only [Bool.false_eq_true, if_false]
        rw [w64 ((b.length : Int) - s) (by omega) (by omega), u64w _ (by omega) (by omega)]
        by_cases hx : x > (b.length : Int) - s
        · rw [if_pos hx, if_pos hx]; exact ⟨_, rfl, rfl⟩
        · rw [if_neg hx, if_neg hx, w64 x (by omega) (by omega), w64 (s + x) (by omega) (by omega), if_pos g1, if_pos (by omega), if_pos (by omega), if_pos g1, if_pos (by omega), if_pos (by omega), strOf_cut]
          exact ⟨_, rfl, rfl⟩
    by_cases hm : most < 0
    · rw [if_pos hm, if_pos hm]; exact core true
    · rw [if_neg hm, if_neg hm]; exact core _
  · rw [if_neg he, if_neg he]; exact ⟨_, rfl, rfl⟩
theorem NumberReads : transeptlaw01_NumberReads.Pure := by
  intro l0 a1 hm hn hw _
  have hb := bytes_wf hw
  refine ⟨1000, ?_⟩
  unfold transeptlaw01_NumberReads.f
  rw [shown_f 1000 (by omega)]
  simp only [Option.bind_some, List.nil_append, List.length_nil]
  obtain ⟨k1, k2, k3⟩ := mn_le (l0.length : Int) 500
  have hk : 0 ≤ mn (l0.length : Int) 500 := by omega
  generalize mn (l0.length : Int) 500 = n at *
  have hlen : (l0.take n.toNat).length = n.toNat := by rw [List.length_take]; omega
  have hbb := hb.take n.toNat
  generalize l0.take n.toNat = b at *
  obtain ⟨t, t1, t2⟩ := texts b hbb (by omega) a1 1000 (by omega) (gl_u64 b 0 0 hbb (by omega) (by omega) (by simp))
  rw [if_pos hk, if_pos k1, if_pos (by omega), get_f b hbb (by omega), ref_get b hbb (by omega) 1000 (by omega), t1, t2]
  simp
end Go.Proofs.Ythbhggpajgokcaa.Pure
