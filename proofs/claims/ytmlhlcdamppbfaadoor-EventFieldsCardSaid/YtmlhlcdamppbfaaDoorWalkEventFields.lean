/- The law EventFields: what its walk asks, out of the plain words on events. No condition. -/
import Derived.Test.YtmlhlcdamppbfaaDoorHwF
namespace Go.Proofs.YtmlhlcdamppbfaaDoor.Xa
open Go.RowKit Go.Proofs.YtmlhlcdamppbfaaDoor.Ext Go.Proofs.YtmlhlcdamppbfaaDoor.Pure Go.Proofs.YtmlhlcdamppbfaaDoorW.PrintWords Go.Proofs.YtmlhlcdamppbfaaDoorW.PrintLast Go.Proofs.YtmlhlcdamppbfaaDoorW.PrintMore
set_option linter.unusedVariables false
set_option linter.unusedSimpArgs false
theorem mnF (a : Nat) (n : Nat) : (if (n : Int) < (a : Int) then (n : Int) else (a : Int)) = ((min a n : Nat) : Int) := by split <;> omega
theorem has_some (K : Nat) (h : K ≤ 14) : ∃ hs, hasL[K]? = some hs ∧ hs.size ≤ 7 := by
  have hz : ∀ i : Fin 15, hasL[i.val]? = some (hasL.getD i.val ⟨#[]⟩) ∧ (hasL.getD i.val ⟨#[]⟩).size ≤ 7 := by decide +kernel
  exact ⟨_, (hz ⟨K, by omega⟩).1, (hz ⟨K, by omega⟩).2⟩
theorem text_fin (K : Nat) (i : Int) (s : ByteArray) (rr th : Bool) (hr : rr = textOk (T0 (K : Int)) i s) (hs : (s.size : Int) ≤ 4096) (ht : th = decide (i < T0 (K : Int))) : (rr == (th || s.toList.isEmpty)) = true := by
  subst hr ht
  unfold textOk
  simp [hs]
theorem num_fin (m n most : Int) (rr th : Bool) (hr : rr = numOk m n) (ht : th = decide (0 < m)) (hm : 0 < m → m = most + 1) : (rr == (decide (n = 0) || (th && decide (0 < n) && decide (n ≤ most)))) = true := by
  subst hr ht
  rw [beq_iff_eq, Bool.eq_iff_iff, numOk_iff]
  by_cases h : 0 < m
  · have := hm h
    rw [if_pos h]; simp [h]; omega
  · rw [if_neg h]; simp [h]
theorem right_with0 {k a1 a2 a7 a8 a9 : Int} {x3 x4 x5 x6 : ByteArray} {s : ByteArray} (h : right (k, a1, a2, x3, x4, x5, x6, a7, a8, a9) = true) : right (k, a1, a2, s, x4, x5, x6, a7, a8, a9) = textOk (T0 k) 0 s := by
  unfold right rightF at h ⊢
  simp only [Bool.and_eq_true] at h ⊢
  obtain ⟨⟨⟨⟨h1, h2⟩, h3⟩, ⟨⟨h4, h5⟩, h6⟩, h7⟩, ⟨h8, h9⟩, h10⟩ := h
  simp only [h1, h2, h3, h4, h5, h6, h7, h8, h9, h10, Bool.and_true, Bool.true_and]
theorem has_0 (K : Nat) (h : K ≤ 14) (hs : ByteArray) (hh : hasL[K]? = some hs) : hasN hs 65 hs.size = decide ((0 : Int) < T0 (K : Int)) := by
  have hz : ∀ i : Fin 15, hasN (hasL.getD i.val ⟨#[]⟩) 65 (hasL.getD i.val ⟨#[]⟩).size = decide ((0 : Int) < T0 (i.val : Int)) := by decide +kernel
  have := hz ⟨K, by omega⟩
  rw [List.getD_eq_getElem?_getD] at this
  simp only [] at this
  rw [hh] at this
  exact this
theorem right_with1 {k a1 a2 a7 a8 a9 : Int} {x3 x4 x5 x6 : ByteArray} {s : ByteArray} (h : right (k, a1, a2, x3, x4, x5, x6, a7, a8, a9) = true) : right (k, a1, a2, x3, s, x5, x6, a7, a8, a9) = textOk (T0 k) 1 s := by
  unfold right rightF at h ⊢
  simp only [Bool.and_eq_true] at h ⊢
  obtain ⟨⟨⟨⟨h1, h2⟩, h3⟩, ⟨⟨h4, h5⟩, h6⟩, h7⟩, ⟨h8, h9⟩, h10⟩ := h
  simp only [h1, h2, h3, h4, h5, h6, h7, h8, h9, h10, Bool.and_true, Bool.true_and]
theorem has_1 (K : Nat) (h : K ≤ 14) (hs : ByteArray) (hh : hasL[K]? = some hs) : hasN hs 66 hs.size = decide ((1 : Int) < T0 (K : Int)) := by
  have hz : ∀ i : Fin 15, hasN (hasL.getD i.val ⟨#[]⟩) 66 (hasL.getD i.val ⟨#[]⟩).size = decide ((1 : Int) < T0 (i.val : Int)) := by decide +kernel
  have := hz ⟨K, by omega⟩
  rw [List.getD_eq_getElem?_getD] at this
  simp only [] at this
  rw [hh] at this
  exact this
theorem right_with2 {k a1 a2 a7 a8 a9 : Int} {x3 x4 x5 x6 : ByteArray} {s : ByteArray} (h : right (k, a1, a2, x3, x4, x5, x6, a7, a8, a9) = true) : right (k, a1, a2, x3, x4, s, x6, a7, a8, a9) = textOk (T0 k) 2 s := by
  unfold right rightF at h ⊢
  simp only [Bool.and_eq_true] at h ⊢
  obtain ⟨⟨⟨⟨h1, h2⟩, h3⟩, ⟨⟨h4, h5⟩, h6⟩, h7⟩, ⟨h8, h9⟩, h10⟩ := h
  simp only [h1, h2, h3, h4, h5, h6, h7, h8, h9, h10, Bool.and_true, Bool.true_and]
theorem has_2 (K : Nat) (h : K ≤ 14) (hs : ByteArray) (hh : hasL[K]? = some hs) : hasN hs 67 hs.size = decide ((2 : Int) < T0 (K : Int)) := by
  have hz : ∀ i : Fin 15, hasN (hasL.getD i.val ⟨#[]⟩) 67 (hasL.getD i.val ⟨#[]⟩).size = decide ((2 : Int) < T0 (i.val : Int)) := by decide +kernel
  have := hz ⟨K, by omega⟩
  rw [List.getD_eq_getElem?_getD] at this
  simp only [] at this
  rw [hh] at this
  exact this
theorem right_with3 {k a1 a2 a7 a8 a9 : Int} {x3 x4 x5 x6 : ByteArray} {s : ByteArray} (h : right (k, a1, a2, x3, x4, x5, x6, a7, a8, a9) = true) : right (k, a1, a2, x3, x4, x5, s, a7, a8, a9) = textOk (T0 k) 3 s := by
  unfold right rightF at h ⊢
  simp only [Bool.and_eq_true] at h ⊢
  obtain ⟨⟨⟨⟨h1, h2⟩, h3⟩, ⟨⟨h4, h5⟩, h6⟩, h7⟩, ⟨h8, h9⟩, h10⟩ := h
  simp only [h1, h2, h3, h4, h5, h6, h7, h8, h9, h10, Bool.and_true, Bool.true_and]
theorem has_3 (K : Nat) (h : K ≤ 14) (hs : ByteArray) (hh : hasL[K]? = some hs) : hasN hs 68 hs.size = decide ((3 : Int) < T0 (K : Int)) := by
  have hz : ∀ i : Fin 15, hasN (hasL.getD i.val ⟨#[]⟩) 68 (hasL.getD i.val ⟨#[]⟩).size = decide ((3 : Int) < T0 (i.val : Int)) := by decide +kernel
  have := hz ⟨K, by omega⟩
  rw [List.getD_eq_getElem?_getD] at this
  simp only [] at this
  rw [hh] at this
  exact this
theorem right_with4 {k a1 a2 a7 a8 a9 : Int} {x3 x4 x5 x6 : ByteArray} {n : Int} (h : right (k, a1, a2, x3, x4, x5, x6, a7, a8, a9) = true) : right (k, a1, a2, x3, x4, x5, x6, n, a8, a9) = numOk (TN k 0) n := by
  unfold right rightF at h ⊢
  simp only [Bool.and_eq_true] at h ⊢
  obtain ⟨⟨⟨⟨h1, h2⟩, h3⟩, ⟨⟨h4, h5⟩, h6⟩, h7⟩, ⟨h8, h9⟩, h10⟩ := h
  simp only [h1, h2, h3, h4, h5, h6, h7, h8, h9, h10, Bool.and_true, Bool.true_and]
theorem has_4 (K : Nat) (h : K ≤ 14) (hs : ByteArray) (hh : hasL[K]? = some hs) : hasN hs 88 hs.size = decide (0 < TN (K : Int) 0) := by
  have hz : ∀ i : Fin 15, hasN (hasL.getD i.val ⟨#[]⟩) 88 (hasL.getD i.val ⟨#[]⟩).size = decide (0 < TN (i.val : Int) 0) := by decide +kernel
  have := hz ⟨K, by omega⟩
  rw [List.getD_eq_getElem?_getD] at this
  simp only [] at this
  rw [hh] at this
  exact this
theorem right_with5 {k a1 a2 a7 a8 a9 : Int} {x3 x4 x5 x6 : ByteArray} {n : Int} (h : right (k, a1, a2, x3, x4, x5, x6, a7, a8, a9) = true) : right (k, a1, a2, x3, x4, x5, x6, a7, n, a9) = numOk (TN k 1) n := by
  unfold right rightF at h ⊢
  simp only [Bool.and_eq_true] at h ⊢
  obtain ⟨⟨⟨⟨h1, h2⟩, h3⟩, ⟨⟨h4, h5⟩, h6⟩, h7⟩, ⟨h8, h9⟩, h10⟩ := h
  simp only [h1, h2, h3, h4, h5, h6, h7, h8, h9, h10, Bool.and_true, Bool.true_and]
theorem has_5 (K : Nat) (h : K ≤ 14) (hs : ByteArray) (hh : hasL[K]? = some hs) : hasN hs 89 hs.size = decide (0 < TN (K : Int) 1) := by
  have hz : ∀ i : Fin 15, hasN (hasL.getD i.val ⟨#[]⟩) 89 (hasL.getD i.val ⟨#[]⟩).size = decide (0 < TN (i.val : Int) 1) := by decide +kernel
  have := hz ⟨K, by omega⟩
  rw [List.getD_eq_getElem?_getD] at this
  simp only [] at this
  rw [hh] at this
  exact this
theorem right_with6 {k a1 a2 a7 a8 a9 : Int} {x3 x4 x5 x6 : ByteArray} {n : Int} (h : right (k, a1, a2, x3, x4, x5, x6, a7, a8, a9) = true) : right (k, a1, a2, x3, x4, x5, x6, a7, a8, n) = numOk (TN k 2) n := by
  unfold right rightF at h ⊢
  simp only [Bool.and_eq_true] at h ⊢
  obtain ⟨⟨⟨⟨h1, h2⟩, h3⟩, ⟨⟨h4, h5⟩, h6⟩, h7⟩, ⟨h8, h9⟩, h10⟩ := h
  simp only [h1, h2, h3, h4, h5, h6, h7, h8, h9, h10, Bool.and_true, Bool.true_and]
theorem has_6 (K : Nat) (h : K ≤ 14) (hs : ByteArray) (hh : hasL[K]? = some hs) : hasN hs 90 hs.size = decide (0 < TN (K : Int) 2) := by
  have hz : ∀ i : Fin 15, hasN (hasL.getD i.val ⟨#[]⟩) 90 (hasL.getD i.val ⟨#[]⟩).size = decide (0 < TN (i.val : Int) 2) := by decide +kernel
  have := hz ⟨K, by omega⟩
  rw [List.getD_eq_getElem?_getD] at this
  simp only [] at this
  rw [hh] at this
  exact this
theorem most_0 (K : Nat) (h : K ≤ 14) : 0 < TN (K : Int) 0 → TN (K : Int) 0 = (if K = 7 ∨ K = 10 then 999 else 3) + 1 := by
  have hz : ∀ i : Fin 15, 0 < TN (i.val : Int) 0 → TN (i.val : Int) 0 = (if i.val = 7 ∨ i.val = 10 then 999 else 3) + 1 := by decide +kernel
  exact hz ⟨K, by omega⟩
theorem most_1 (K : Nat) (h : K ≤ 14) : 0 < TN (K : Int) 1 → TN (K : Int) 1 = 2 + 1 := by
  have hz : ∀ i : Fin 15, 0 < TN (i.val : Int) 1 → TN (i.val : Int) 1 = 2 + 1 := by decide +kernel
  exact hz ⟨K, by omega⟩
theorem most_2 (K : Nat) (h : K ≤ 14) : 0 < TN (K : Int) 2 → TN (K : Int) 2 = 2 + 1 := by
  have hz : ∀ i : Fin 15, 0 < TN (i.val : Int) 2 → TN (i.val : Int) 2 = 2 + 1 := by decide +kernel
  exact hz ⟨K, by omega⟩
def transeptlaw05_EventFields.Pure : Prop := True
theorem transeptlaw05_EventFields.walk (P : transeptlaw05_EventFields.Pure) (a0 a1 a2 : Int) (a3 a4 a5 a6 : ByteArray) (a7 a8 a9 : Int) (hu : u64s (a0, a1, a2, a3, a4, a5, a6, a7, a8, a9)) (fi : Int) (v2 : ByteArray) (n : Int) (w : World) (hG : Glob w) (w1 : (Lit.int .i64 fi).wf = true) (w2 : v2.size ≤ 140737488351232) (w3 : (Lit.int .i64 n).wf = true) :
    Calls Tryd.prog 8 #[.agg #[.int .i64 a0, .int .u64 a1, .int .u64 a2, .string a3, .string a4, .string a5, .string a6, .int .i64 a7, .int .i64 a8, .int .i64 a9], .int .i64 fi, .string v2, .int .i64 n] w fun e w' => e = .returned (.bool true) ∧ Below w.heap.size w w' := by
  have hc : u64s (cutE (a0, a1, a2, a3, a4, a5, a6, a7, a8, a9)) := hu
  have hcut := cut_calls a0 a1 a2 a3 a4 a5 a6 a7 a8 a9
  have hX := right_f (cutE (a0, a1, a2, a3, a4, a5, a6, a7, a8, a9))
  cases hr0 : right (cutE (a0, a1, a2, a3, a4, a5, a6, a7, a8, a9)) with
  | false =>
    rw [hr0] at hX
    exact fields_no a0 a1 a2 a3 a4 a5 a6 a7 a8 a9 (cutS a3) (cutS a4) (cutS a5) (cutS a6) fi v2 n hcut hX w hG
  | true =>
    have hv := (right_iff _ hc).1 hr0
    rw [hr0] at hX
    have hk1 : 1 ≤ a0 := hv.1.1
    have hk2 : a0 ≤ 14 := hv.1.2
    obtain ⟨K, rfl⟩ := Int.eq_ofNat_of_zero_le (show 0 ≤ a0 by omega)
    have hK1 : 1 ≤ K := by omega
    have hK2 : K ≤ 14 := by omega
    obtain ⟨hs, hhas, hsz⟩ := has_some K hK2
    have hI0 := (and_range fi 65535 (by decide) (by decide)).1
    have hm2 := mnF v2.size 100
    have l2 : min v2.size 100 ≤ v2.size := Nat.min_le_left _ _
    have hs4 : (((v2.extract 0 (min v2.size 100)).size : Nat) : Int) ≤ 4096 := by rw [ByteArray.size_extract]; omega
    generalize hss : v2.extract 0 (min v2.size 100) = s at *
    generalize min v2.size 100 = n2 at *
    obtain ⟨I, hI⟩ : ∃ x : Int, bits .and .i64 fi 65535 = x := ⟨_, rfl⟩
    have hI1 : 0 ≤ I := by rw [← hI]; exact hI0
    have hJ : I % 7 = 0 ∨ I % 7 = 1 ∨ I % 7 = 2 ∨ I % 7 = 3 ∨ I % 7 = 4 ∨ I % 7 = 5 ∨ I % 7 = 6 := by omega
    have hr : right ((K : Int), a1, a2, cutS a3, cutS a4, cutS a5, cutS a6, a7, a8, a9) = true := hr0
    by_cases h7 : K = 7
    · subst h7
      rcases hJ with hJ | hJ | hJ | hJ | hJ | hJ | hJ
      · exact fields_yes0_7 a1 a2 a3 a4 a5 a6 a7 a8 a9 (cutS a3) (cutS a4) (cutS a5) (cutS a6) fi v2 n hcut hX w hG hs hhas hsz n2 s hm2 l2 hss w2 I hI hI1 hJ _ (congrArg some (right_with0 hr)) (text_fin 7 0 s _ _ rfl hs4 (has_0 7 hK2 hs hhas))
      · exact fields_yes1_7 a1 a2 a3 a4 a5 a6 a7 a8 a9 (cutS a3) (cutS a4) (cutS a5) (cutS a6) fi v2 n hcut hX w hG hs hhas hsz n2 s hm2 l2 hss w2 I hI hI1 hJ _ (congrArg some (right_with1 hr)) (text_fin 7 1 s _ _ rfl hs4 (has_1 7 hK2 hs hhas))
      · exact fields_yes2_7 a1 a2 a3 a4 a5 a6 a7 a8 a9 (cutS a3) (cutS a4) (cutS a5) (cutS a6) fi v2 n hcut hX w hG hs hhas hsz n2 s hm2 l2 hss w2 I hI hI1 hJ _ (congrArg some (right_with2 hr)) (text_fin 7 2 s _ _ rfl hs4 (has_2 7 hK2 hs hhas))
      · exact fields_yes3_7 a1 a2 a3 a4 a5 a6 a7 a8 a9 (cutS a3) (cutS a4) (cutS a5) (cutS a6) fi v2 n hcut hX w hG hs hhas hsz n2 s hm2 l2 hss w2 I hI hI1 hJ _ (congrArg some (right_with3 hr)) (text_fin 7 3 s _ _ rfl hs4 (has_3 7 hK2 hs hhas))
      · exact fields_yes4_7 a1 a2 a3 a4 a5 a6 a7 a8 a9 (cutS a3) (cutS a4) (cutS a5) (cutS a6) fi v2 n hcut hX w hG hs hhas hsz n2 s hm2 l2 hss w2 I hI hI1 hJ _ (congrArg some (right_with4 hr)) (num_fin _ n 999 _ _ rfl (has_4 7 hK2 hs hhas) (fun hp => by have := most_0 7 hK2 hp; simpa using this))
      · exact fields_yes5_7 a1 a2 a3 a4 a5 a6 a7 a8 a9 (cutS a3) (cutS a4) (cutS a5) (cutS a6) fi v2 n hcut hX w hG hs hhas hsz n2 s hm2 l2 hss w2 I hI hI1 hJ _ (congrArg some (right_with5 hr)) (num_fin _ n 2 _ _ rfl (has_5 7 hK2 hs hhas) (fun hp => by have := most_1 7 hK2 hp; simpa using this))
      · exact fields_yes6_7 a1 a2 a3 a4 a5 a6 a7 a8 a9 (cutS a3) (cutS a4) (cutS a5) (cutS a6) fi v2 n hcut hX w hG hs hhas hsz n2 s hm2 l2 hss w2 I hI hI1 hJ _ (congrArg some (right_with6 hr)) (num_fin _ n 2 _ _ rfl (has_6 7 hK2 hs hhas) (fun hp => by have := most_2 7 hK2 hp; simpa using this))
    · by_cases h10 : K = 10
      · subst h10
        rcases hJ with hJ | hJ | hJ | hJ | hJ | hJ | hJ
        · exact fields_yes0_10 a1 a2 a3 a4 a5 a6 a7 a8 a9 (cutS a3) (cutS a4) (cutS a5) (cutS a6) fi v2 n hcut hX w hG hs hhas hsz n2 s hm2 l2 hss w2 I hI hI1 hJ _ (congrArg some (right_with0 hr)) (text_fin 10 0 s _ _ rfl hs4 (has_0 10 hK2 hs hhas))
        · exact fields_yes1_10 a1 a2 a3 a4 a5 a6 a7 a8 a9 (cutS a3) (cutS a4) (cutS a5) (cutS a6) fi v2 n hcut hX w hG hs hhas hsz n2 s hm2 l2 hss w2 I hI hI1 hJ _ (congrArg some (right_with1 hr)) (text_fin 10 1 s _ _ rfl hs4 (has_1 10 hK2 hs hhas))
        · exact fields_yes2_10 a1 a2 a3 a4 a5 a6 a7 a8 a9 (cutS a3) (cutS a4) (cutS a5) (cutS a6) fi v2 n hcut hX w hG hs hhas hsz n2 s hm2 l2 hss w2 I hI hI1 hJ _ (congrArg some (right_with2 hr)) (text_fin 10 2 s _ _ rfl hs4 (has_2 10 hK2 hs hhas))
        · exact fields_yes3_10 a1 a2 a3 a4 a5 a6 a7 a8 a9 (cutS a3) (cutS a4) (cutS a5) (cutS a6) fi v2 n hcut hX w hG hs hhas hsz n2 s hm2 l2 hss w2 I hI hI1 hJ _ (congrArg some (right_with3 hr)) (text_fin 10 3 s _ _ rfl hs4 (has_3 10 hK2 hs hhas))
        · exact fields_yes4_10 a1 a2 a3 a4 a5 a6 a7 a8 a9 (cutS a3) (cutS a4) (cutS a5) (cutS a6) fi v2 n hcut hX w hG hs hhas hsz n2 s hm2 l2 hss w2 I hI hI1 hJ _ (congrArg some (right_with4 hr)) (num_fin _ n 999 _ _ rfl (has_4 10 hK2 hs hhas) (fun hp => by have := most_0 10 hK2 hp; simpa using this))
        · exact fields_yes5_10 a1 a2 a3 a4 a5 a6 a7 a8 a9 (cutS a3) (cutS a4) (cutS a5) (cutS a6) fi v2 n hcut hX w hG hs hhas hsz n2 s hm2 l2 hss w2 I hI hI1 hJ _ (congrArg some (right_with5 hr)) (num_fin _ n 2 _ _ rfl (has_5 10 hK2 hs hhas) (fun hp => by have := most_1 10 hK2 hp; simpa using this))
        · exact fields_yes6_10 a1 a2 a3 a4 a5 a6 a7 a8 a9 (cutS a3) (cutS a4) (cutS a5) (cutS a6) fi v2 n hcut hX w hG hs hhas hsz n2 s hm2 l2 hss w2 I hI hI1 hJ _ (congrArg some (right_with6 hr)) (num_fin _ n 2 _ _ rfl (has_6 10 hK2 hs hhas) (fun hp => by have := most_2 10 hK2 hp; simpa using this))
      · have e7 : ((K : Int) == 7) = false := by rw [beq_eq_false_iff_ne]; omega
        have e10 : ((K : Int) == 10) = false := by rw [beq_eq_false_iff_ne]; omega
        rcases hJ with hJ | hJ | hJ | hJ | hJ | hJ | hJ
        · exact fields_yes0_o K a1 a2 a3 a4 a5 a6 a7 a8 a9 (cutS a3) (cutS a4) (cutS a5) (cutS a6) fi v2 n hcut hX w hG hK1 hK2 e7 e10 hs hhas hsz n2 s hm2 l2 hss w2 I hI hI1 hJ _ (congrArg some (right_with0 hr)) (text_fin K 0 s _ _ rfl hs4 (has_0 K hK2 hs hhas))
        · exact fields_yes1_o K a1 a2 a3 a4 a5 a6 a7 a8 a9 (cutS a3) (cutS a4) (cutS a5) (cutS a6) fi v2 n hcut hX w hG hK1 hK2 e7 e10 hs hhas hsz n2 s hm2 l2 hss w2 I hI hI1 hJ _ (congrArg some (right_with1 hr)) (text_fin K 1 s _ _ rfl hs4 (has_1 K hK2 hs hhas))
        · exact fields_yes2_o K a1 a2 a3 a4 a5 a6 a7 a8 a9 (cutS a3) (cutS a4) (cutS a5) (cutS a6) fi v2 n hcut hX w hG hK1 hK2 e7 e10 hs hhas hsz n2 s hm2 l2 hss w2 I hI hI1 hJ _ (congrArg some (right_with2 hr)) (text_fin K 2 s _ _ rfl hs4 (has_2 K hK2 hs hhas))
        · exact fields_yes3_o K a1 a2 a3 a4 a5 a6 a7 a8 a9 (cutS a3) (cutS a4) (cutS a5) (cutS a6) fi v2 n hcut hX w hG hK1 hK2 e7 e10 hs hhas hsz n2 s hm2 l2 hss w2 I hI hI1 hJ _ (congrArg some (right_with3 hr)) (text_fin K 3 s _ _ rfl hs4 (has_3 K hK2 hs hhas))
        · exact fields_yes4_o K a1 a2 a3 a4 a5 a6 a7 a8 a9 (cutS a3) (cutS a4) (cutS a5) (cutS a6) fi v2 n hcut hX w hG hK1 hK2 e7 e10 hs hhas hsz n2 s hm2 l2 hss w2 I hI hI1 hJ _ (congrArg some (right_with4 hr)) (num_fin _ n 3 _ _ rfl (has_4 K hK2 hs hhas) (fun hp => by have := most_0 K hK2 hp; rwa [if_neg (by omega)] at this))
        · exact fields_yes5_o K a1 a2 a3 a4 a5 a6 a7 a8 a9 (cutS a3) (cutS a4) (cutS a5) (cutS a6) fi v2 n hcut hX w hG hK1 hK2 e7 e10 hs hhas hsz n2 s hm2 l2 hss w2 I hI hI1 hJ _ (congrArg some (right_with5 hr)) (num_fin _ n 2 _ _ rfl (has_5 K hK2 hs hhas) (fun hp => by have := most_1 K hK2 hp; simpa using this))
        · exact fields_yes6_o K a1 a2 a3 a4 a5 a6 a7 a8 a9 (cutS a3) (cutS a4) (cutS a5) (cutS a6) fi v2 n hcut hX w hG hK1 hK2 e7 e10 hs hhas hsz n2 s hm2 l2 hss w2 I hI hI1 hJ _ (congrArg some (right_with6 hr)) (num_fin _ n 2 _ _ rfl (has_6 K hK2 hs hhas) (fun hp => by have := most_2 K hK2 hp; simpa using this))
end Go.Proofs.YtmlhlcdamppbfaaDoor.Xa
