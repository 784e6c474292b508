/- The document's log, and the laws' small functions, in plain words. -/
import Derived.Test.YtojagnoobaleaaaDoorFrQ
namespace Go.Proofs.YtojagnoobaleaaaDoor.Ext
open Go.RowKit Go.Proofs.YtojagnoobaleaaaDoor.Xp Go.Proofs.YtojagnoobaleaaaDoorW.PrintWords Go.Proofs.YtojagnoobaleaaaDoorW.PrintLast Go.Proofs.YtojagnoobaleaaaDoorW.PrintMore
set_option linter.unusedVariables false
set_option linter.unusedSimpArgs false
theorem ref_sum (b : List Int) (hb : Bytes b) (hn : b.length ≤ 2000000) (k : Nat) (hk : b.length * 10 + 80 ≤ k) : transeptref02_Sum.f k (strOfNums b) = some (more 0 b) := by
  unfold transeptref02_Sum.f
  rw [Ref.ref_more b hb hn 0 (by omega) (by omega) k hk, bind_s]
theorem ref_four (b : List Int) (hb : Bytes b) (hn : b.length ≤ 2000000) (k : Nat) (hk : b.length * 10 + 80 ≤ k) : transeptref04_Four.f k (strOfNums b) = some (strOfNums (four b)) := by
  unfold transeptref04_Four.f
  rw [ref_sum b hb hn k hk, bind_s]
  have h := more_range b
  unfold four fourB
  rw [Int.tmod_eq_emod_of_nonneg h.1, Int.tdiv_eq_ediv_of_nonneg h.1, Int.tdiv_eq_ediv_of_nonneg h.1, Int.tdiv_eq_ediv_of_nonneg h.1]
  rw [show more 0 b % 256 % 256 = more 0 b % 256 by omega, show more 0 b / 256 % 4294967296 % 256 = more 0 b / 256 % 256 by omega, show more 0 b / 65536 % 4294967296 % 256 = more 0 b / 65536 % 256 by omega, show more 0 b / 16777216 % 4294967296 % 256 = more 0 b / 16777216 % 256 by omega]
theorem agree_l0 (a b : List Int) (ha : Bytes a) (hb : Bytes b) (hn : a.length ≤ 2000000) : ∀ (d k j : Nat), j + d = a.length → j ≤ like a b → d < k → transeptref04_agree.l0 k (strOfNums a) (strOfNums b) j = some (like a b : Int)
  | 0, k, j, hj, hl, hk => by
    obtain ⟨k, rfl⟩ : ∃ m, k = m + 1 := ⟨k - 1, by omega⟩
    have := (like_le a b).1
    rw [transeptref04_agree.l0, if_neg (by rw [strOf_size]; omega)]
    congr 1; omega
  | d + 1, k, j, hj, hl, hk => by
    obtain ⟨k, rfl⟩ : ∃ m, k = m + 1 := ⟨k - 1, by omega⟩
    have hle := like_le a b
    rw [transeptref04_agree.l0, if_pos (by rw [strOf_size]; omega)]
    by_cases h2 : j < b.length
    · have hs := like_step a b j (by omega) h2 hl
      rw [if_pos (by rw [strOf_size]; omega), if_pos (by omega), bt_str a ha j (by omega), bt_str b hb j h2]
      by_cases he : a[j] = b[j]
      · rw [if_pos he, w64 _ (by omega) (by omega), show ((j : Int) + 1) = ((j + 1 : Nat) : Int) by omega]
        exact agree_l0 a b ha hb hn d k (j + 1) (by omega) (hs.1 he) (by omega)
      · rw [if_neg he, hs.2 he]
    · rw [if_neg (by rw [strOf_size]; omega)]
      congr 1; omega
theorem ref_agree (a b : List Int) (ha : Bytes a) (hb : Bytes b) (hn : a.length ≤ 2000000) (k : Nat) (hk : a.length < k) : transeptref04_agree.f k (strOfNums a) (strOfNums b) = some (like a b : Int) := by
  unfold transeptref04_agree.f
  exact agree_l0 a b ha hb hn a.length k 0 (by omega) (by omega) hk
/-- What the document's Text answers, of at most 20000 bytes. -/
def txT (m : List Int) : List Int × Int × Int :=
  if (gl 0 0 m).2.2 = 0 then (if 20000 < (gl 0 0 m).1 then ([], (gl 0 0 m).2.1 - 1, 5) else if (m.length : Int) - (gl 0 0 m).2.1 < (gl 0 0 m).1 then ([], (m.length : Int), 2) else ((m.take ((gl 0 0 m).2.1 + (gl 0 0 m).1).toNat).drop (gl 0 0 m).2.1.toNat, (gl 0 0 m).2.1 + (gl 0 0 m).1, 0))
  else ([], (gl 0 0 m).2)
theorem ref_text (b : List Int) (hb : Bytes b) (hn : b.length ≤ 2000000) (k : Nat) (hk : b.length + 14 ≤ k) : transeptref01_Text.f k (strOfNums b) 20000 = some (strOfNums (txT b).1, (txT b).2) := by
  obtain ⟨k, rfl⟩ : ∃ m, k = m + 1 := ⟨k - 1, by omega⟩
  have hu := gl_u64 b 0 0 hb (by omega) (by omega) (by simp)
  have hr := gl_form b 0 0
  have hv := gl_nat b hb
  unfold transeptref01_Text.f txT
  rw [ref_get b hb hn (k + 1) (by omega), bind_s]
  generalize gl 0 0 b = V at *
  obtain ⟨n, s, e⟩ := V
  simp only at *
  by_cases he : e = 0
  · have hn0 := hv he
    rw [if_pos he, if_pos he, if_neg (by omega), u64w 20000 (by omega) (by omega)]
    by_cases h1 : 20000 < n
    · rw [if_pos h1, decide_eq_true (show n > 20000 from h1), transeptref01_Text.j0, if_pos rfl, w64 _ (by omega) (by omega)]; rfl
    · rw [if_neg h1, decide_eq_false (show ¬ n > 20000 from h1), transeptref01_Text.j0, if_neg (by decide), strOf_size, w64 ((b.length : Int) - s) (by omega) (by omega), u64w _ (by omega) (by omega)]
      by_cases h2 : n > (b.length : Int) - s
      · rw [if_pos h2, if_pos (show (b.length : Int) - s < n from h2)]; rfl
      · rw [if_neg h2, if_pos (by omega), w64 n (by omega) (by omega), w64 (s + n) (by omega) (by omega), if_pos (by omega), if_pos (by omega), if_neg (show ¬ (b.length : Int) - s < n from h2), strOf_cut]
  · rw [if_neg he, if_neg he]; rfl
/-- A frame out of its text and its sum. -/
theorem one_txt {m : List Int} (hm : Bytes m) : ((txT m).2.2 ≠ 0 → (oneT m).2 = (txT m).2) ∧ ((txT m).2.2 = 0 → Bytes (txT m).1 ∧ (txT m).1.length ≤ 20000 ∧ 0 ≤ (txT m).2.1 ∧ (txT m).2.1 ≤ m.length ∧
    oneT m = ((txT m).1, (txT m).2.1 + (fixT (four (txT m).1) 4 (m.drop (txT m).2.1.toNat)).2.1, (fixT (four (txT m).1) 4 (m.drop (txT m).2.1.toNat)).2.2)) := by
  have hv := gl_nat m hm
  have hr := gl_form m 0 0
  obtain ⟨⟨n, s, e⟩, hg⟩ : ∃ x, gl 0 0 m = x := ⟨_, rfl⟩
  rw [hg] at hv hr
  simp only at hv hr
  by_cases he : e = 0
  · subst he
    have hn0 := hv rfl
    by_cases h1 : 20000 < n
    · have e1 : txT m = ([], s - 1, 5) := by unfold txT; rw [hg]; simp only [if_true]; rw [if_pos h1]
      rw [e1]
      exact ⟨fun _ => by rw [one_limit (by rw [hg]) (by rw [hg]; exact h1), hg], fun h => by simp at h⟩
    · by_cases h2 : (m.length : Int) - s < n
      · have e1 : txT m = ([], (m.length : Int), 2) := by unfold txT; rw [hg]; simp only [if_true]; rw [if_neg h1, if_pos h2]
        rw [e1]
        exact ⟨fun _ => by rw [one_short hg (by omega) (by omega) (by omega) h2], fun h => by simp at h⟩
      · have e1 : txT m = ((m.take (s + n).toNat).drop s.toNat, s + n, 0) := by unfold txT; rw [hg]; simp only [if_true]; rw [if_neg h1, if_neg h2]
        rw [e1]
        refine ⟨fun h => absurd rfl h, fun _ => ⟨(hm.take _).drop _, by rw [List.length_drop, List.length_take]; omega, by simp only []; omega, by simp only []; omega, ?_⟩⟩
        have hb : (m.take (s + n).toNat).drop s.toNat = (m.drop s.toNat).take n.toNat := by rw [List.drop_take]; congr 1; omega
        rw [one_body hg (by omega) hn0.1 (by omega) (by omega) h2 ((m.take (s + n).toNat).drop s.toNat) (m.drop (s + n).toNat) hb rfl]
        simp only [Prod.mk.injEq, true_and, and_true]; omega
  · have e1 : (txT m).2 = (s, e) := by unfold txT; rw [hg]; simp only; rw [if_neg he]
    rw [e1]
    exact ⟨fun _ => by rw [one_err (by rw [hg]; exact he), hg], fun h => absurd h he⟩
theorem cut_all (l : List Int) (p : Nat) : (strOfNums l).extract p (strOfNums l).size = strOfNums (l.drop p) := by
  rw [strOf_cut, strOf_size, List.take_length]
theorem split_l0 (l : List Int) (hl : Bytes l) (hn : l.length ≤ 1048576) : ∀ (n : Nat) (bs : List (List Int)) (p k : Nat), n + bs.length = 4096 → p ≤ l.length → n + l.length * 10 + 200400 ≤ k →
    transeptref04_split.l0 k (strOfNums l) (bs.map strOfNums) p = some ((bs ++ (manyT oneT n (l.drop p)).1).map strOfNums, p + (manyT oneT n (l.drop p)).2.1, (manyT oneT n (l.drop p)).2.2) := by
  intro n
  induction n with
  | zero =>
    intro bs p k hb hp hk
    obtain ⟨k, rfl⟩ : ∃ m, k = m + 1 := ⟨k - 1, by omega⟩
    rw [transeptref04_split.l0]
    by_cases hlt : p < l.length
    · rw [if_pos (by rw [strOf_size]; omega), if_pos (by rw [List.length_map]; omega), many_zero (fun z => by have := congrArg List.length z; rw [List.length_drop, List.length_nil] at this; omega)]
      simp
    · rw [if_neg (by rw [strOf_size]; omega), List.drop_eq_nil_of_le (by omega), many_nil]
      simp
  | succ n ih =>
    intro bs p k hb hp hk
    obtain ⟨k, rfl⟩ : ∃ m, k = m + 1 := ⟨k - 1, by omega⟩
    rw [transeptref04_split.l0]
    by_cases hlt : p < l.length
    · have hne : l.drop p ≠ [] := fun z => by have := congrArg List.length z; rw [List.length_drop, List.length_nil] at this; omega
      have hmB := hl.drop p
      have hml : (l.drop p).length = l.length - p := List.length_drop
      obtain ⟨h1, h2⟩ := one_txt hmB
      rw [if_pos (by rw [strOf_size]; omega), if_neg (by rw [List.length_map]; omega), if_pos (by omega), if_pos (by rw [strOf_size]; omega), Int.toNat_natCast, cut_all, ref_text _ hmB (by omega) k (by omega), bind_s]
      simp only []
      by_cases he : (txT (l.drop p)).2.2 = 0
      · obtain ⟨hbB, hb20, ht0, ht1, hone⟩ := h2 he
        generalize hx : (txT (l.drop p)).1 = b at *
        generalize hs : (txT (l.drop p)).2.1 = s at *
        obtain ⟨s, rfl⟩ := Int.eq_ofNat_of_zero_le ht0
        simp only [Int.toNat_natCast] at hone
        have hf := fixT (four b) 4 ((l.drop p).drop s)
        have hdd : (l.drop p).drop s = l.drop (p + s) := by rw [List.drop_drop]
        rw [hdd] at hone
        have hk4 := like_le (four b) (l.drop (p + s))
        have hdl : (l.drop (p + s)).length = l.length - (p + s) := List.length_drop
        rw [four_len] at hk4
        rw [if_pos he, ref_four b hbB (by omega) k (by omega), bind_s, w64 ((p : Int) + s) (by omega) (by omega), if_pos (by omega), if_pos (by rw [strOf_size]; omega), show ((p : Int) + s).toNat = p + s by omega, cut_all,
          ref_agree _ _ (four_bytes b) (hl.drop _) (by rw [four_len]; omega) k (by rw [four_len]; omega), bind_s]
        by_cases h4 : like (four b) (l.drop (p + s)) < 4
        · rw [if_pos (by omega), w64 ((p : Int) + s + like (four b) (l.drop (p + s))) (by omega) (by omega)]
          have hfe : oneT (l.drop p) = (b, (s : Int) + (fixT (four b) 4 (l.drop (p + s))).2.1, (fixT (four b) 4 (l.drop (p + s))).2.2) := hone
          by_cases h5 : like (four b) (l.drop (p + s)) < (l.drop (p + s)).length
          · have hfx : (fixT (four b) 4 (l.drop (p + s))).2 = ((like (four b) (l.drop (p + s)) : Int), 4) := by unfold fixT; rw [if_pos (by rw [four_len]; exact h4), if_pos h5]
            rw [if_pos (by rw [strOf_size]; omega), many_bad n hne (by rw [hfe, hfx]; simp), hfe, hfx]
            simp only [List.append_nil, Option.some.injEq, Prod.mk.injEq, true_and, and_true]; omega
          · have hfx : (fixT (four b) 4 (l.drop (p + s))).2 = (((l.drop (p + s)).length : Int), 2) := by unfold fixT; rw [if_pos (by rw [four_len]; exact h4), if_neg h5]
            rw [if_neg (by rw [strOf_size]; omega), many_bad n hne (by rw [hfe, hfx]; simp), hfe, hfx, strOf_size]
            simp only [List.append_nil, Option.some.injEq, Prod.mk.injEq, true_and, and_true]; omega
        · have hfx : (fixT (four b) 4 (l.drop (p + s))).2 = (4, 0) := by unfold fixT; rw [if_neg (by rw [four_len]; exact h4), four_len]; rfl
          have hfe : oneT (l.drop p) = (b, (s : Int) + 4, 0) := by rw [hone, hfx]
          rw [if_neg (by omega), if_pos (by rw [List.length_map]; omega), w64 ((p : Int) + s + 4) (by omega) (by omega), show ((p : Int) + s + 4) = ((p + s + 4 : Nat) : Int) by omega]
          have hih := ih (bs ++ [b]) (p + s + 4) k (by rw [List.length_append, List.length_singleton]; omega) (by omega) (by omega)
          rw [show bs.map strOfNums ++ [strOfNums b] = (bs ++ [b]).map strOfNums by simp, hih, many_good n hne (by rw [hfe]), hfe]
          simp only [List.drop_drop]
          rw [show p + ((s : Int) + 4).toNat = p + s + 4 by omega]
          simp only [List.append_assoc, List.singleton_append, Option.some.injEq, Prod.mk.injEq, true_and, and_true]; omega
      · have ho := h1 he
        rw [if_neg he, many_bad n hne (by rw [ho]; exact he), ho]
        have hr := one_at hmB
        rw [ho] at hr
        rw [w64 _ (by omega) (by omega)]
        simp
    · rw [if_neg (by rw [strOf_size]; omega), List.drop_eq_nil_of_le (by omega), many_nil]
      simp
theorem magic_str : (⟨#[84, 82, 78, 49]⟩ : ByteArray) = strOfNums magic := by decide
theorem ref_split (l : List Int) (hl : Bytes l) (hn : l.length ≤ 1048576) (k : Nat) (hk : l.length * 10 + 205000 ≤ k) : transeptref04_split.f k (strOfNums l) = some ((logF l).1.map strOfNums, (logF l).2) := by
  unfold transeptref04_split.f
  rw [bind_s, magic_str, ref_agree magic l magic_bytes hl (by decide) k (by have : magic.length = 4 := rfl; omega), bind_s]
  have hm4 : magic.length = 4 := rfl
  have hle := like_le magic l
  by_cases h4 : like magic l < 4
  · rw [if_pos (by omega)]
    by_cases h5 : like magic l < l.length
    · have hfx : (fixT magic 3 l).2 = ((like magic l : Int), 3) := by unfold fixT; rw [if_pos (by omega), if_pos h5]
      rw [if_pos (by rw [strOf_size]; omega), log_bad (by rw [hfx]; simp), hfx]; rfl
    · have hfx : (fixT magic 3 l).2 = ((l.length : Int), 2) := by unfold fixT; rw [if_pos (by omega), if_neg h5]
      rw [if_neg (by rw [strOf_size]; omega), log_bad (by rw [hfx]; simp), hfx]
      simp only [List.map_nil, Option.some.injEq, Prod.mk.injEq, true_and, and_true]; omega
  · have hfx : (fixT magic 3 l).2 = (4, 0) := by unfold fixT; rw [if_neg (by omega)]; rfl
    have hs := split_l0 l hl hn 4096 [] 4 k rfl (by omega) (by omega)
    rw [if_neg (by omega), show (4 : Int) = ((4 : Nat) : Int) from rfl, show ([] : List ByteArray) = ([] : List (List Int)).map strOfNums from rfl, hs]
    unfold logF
    rw [if_pos (by rw [hfx])]
    simp
theorem ref_Split (l : List Int) (hl : Bytes l) (hn : l.length ≤ 1048576) (k : Nat) (hk : l.length * 10 + 205000 ≤ k) : transeptref04_Split.f k (strOfNums l) = some ((splitF l).1.map strOfNums, (splitF l).2) := by
  unfold transeptref04_Split.f
  rw [if_pos (by rw [strOf_size]; omega), ref_split l hl hn k hk, bind_s, split_small hn]
theorem strOf_append (a b : List Int) : strOfNums (a ++ b) = strOfNums a ++ strOfNums b := by
  apply ByteArray.ext
  simp [strOfNums]
/-- The document's number. -/
theorem ref_put : ∀ (n k : Nat), (put n).length < k → n < 18446744073709551616 → transeptref01_Put.f k (n : Int) = some (strOfNums (put n)) := by
  intro n
  induction n using Nat.strongRecOn with
  | _ n ih =>
    intro k hk hn
    obtain ⟨k, rfl⟩ : ∃ m, k = m + 1 := ⟨k - 1, by omega⟩
    simp only [transeptref01_Put.f]
    by_cases hs : n < 128
    · rw [if_pos (by omega), put_small hs, show ((n : Int) % 256) = n by omega]
    · rw [put_great (by omega)] at hk
      simp only [List.length_cons] at hk
      rw [if_neg (by omega), Int.tmod_eq_emod_of_nonneg (by omega), Int.tdiv_eq_ediv_of_nonneg (by omega), u64w _ (by omega) (by omega), u64w _ (by omega) (by omega), show ((n : Int) / 128) = ((n / 128 : Nat) : Int) by omega, ih (n / 128) (by omega) k (by omega) (by omega)]
      simp only [Option.bind_some]
      have hl := put_len10 (n / 128) (by omega)
      rw [if_pos (by rw [strOf_size, strOf_size]; simp; omega), ← strOf_append, put_great (n := n) (by omega), show (((n : Int) % 128 + 128) % 256) = ((n % 128 + 128 : Nat) : Int) by omega]; rfl
theorem ref_put_f (k : Nat) (a : Int) (h0 : 0 ≤ a) (h1 : a < 18446744073709551616) (hk : 10 < k) : transeptref01_Put.f k a = some (strOfNums (put a.toNat)) := by
  have := put_len10 a.toNat (by omega)
  have h := ref_put a.toNat k (by omega) (by omega)
  rwa [Int.toNat_of_nonneg h0] at h
theorem ref_putText (k : Nat) (s : ByteArray) (hk : 10 < k) (hs : s.size ≤ 1000000) : transeptref01_PutText.f k s = some (strOfNums (put s.size) ++ s) := by
  unfold transeptref01_PutText.f
  have := put_len10 s.size (by omega)
  rw [u64w _ (by omega) (by omega), ref_put_f k _ (by omega) (by omega) hk]
  simp only [Option.bind_some, Int.toNat_natCast]
  rw [if_pos (by rw [strOf_size]; omega)]
theorem and_range (a : Int) (m : Nat) (hm : (BitVec.ofInt IntKind.i64.bits m).toNat = m) (hb : m < 9223372036854775808) : 0 ≤ bits .and .i64 a m ∧ bits .and .i64 a m ≤ m := by
  simp only [bits]
  have h : ((BitVec.ofInt IntKind.i64.bits a &&& BitVec.ofInt IntKind.i64.bits m).toNat) ≤ m := by
    rw [BitVec.toNat_and]
    exact Nat.le_trans Nat.and_le_right (by omega)
  generalize (BitVec.ofInt IntKind.i64.bits a &&& BitVec.ofInt IntKind.i64.bits m).toNat = n at *
  rw [IntKind.wrap_i64]; omega
theorem tmod_range (a b : Int) (ha : 0 ≤ a) (hb : 0 < b) : 0 ≤ Int.tmod a b ∧ Int.tmod a b < b := by
  rw [Int.tmod_eq_emod_of_nonneg ha]
  exact ⟨Int.emod_nonneg _ (by omega), Int.emod_lt_of_pos _ hb⟩
theorem toList_beq (s t : ByteArray) : (s.toList == t.toList) = decide (s = t) := by
  rw [ByteArray.toList_eq, ByteArray.toList_eq]
  by_cases h : s = t
  · subst h; simp
  · rw [decide_eq_false h, beq_eq_false_iff_ne]
    intro e
    exact h (ByteArray.ext (Array.ext' e))
theorem strOf_inj {a b : List Int} (ha : Bytes a) (hb : Bytes b) (h : strOfNums a = strOfNums b) : a = b := by
  rw [← bytesOf_strOf a ha, ← bytesOf_strOf b hb, h]
/-- The bodies that the laws take. -/
def fewF (l : List (List Int)) : List (List Int) := (l.take 50).map (fun b => b.take 300)
theorem rd_L2_get (l : List (List Int)) (i : Nat) (h : i < l.length) : rd_L2 l i = l[i] := rd_get2 h
theorem few_l0 (l : List (List Int)) : ∀ (d k i : Nat) (a : List (List Int)) (b : List ByteArray), i + d = min l.length 50 → d < k → a.length ≤ i → b.length ≤ i →
    transeptlaw04_few.l0 k l a b i = some (a ++ (fewF l).drop i, b ++ ((fewF l).drop i).map strOfNums)
  | 0, k, i, a, b, hi, hk, ha, hb => by
    obtain ⟨k, rfl⟩ : ∃ m, k = m + 1 := ⟨k - 1, by omega⟩
    have hd : (fewF l).drop i = [] := List.drop_eq_nil_of_le (by simp [fewF, List.length_take]; omega)
    rw [transeptlaw04_few.l0, hd]
    by_cases h : i < l.length
    · rw [if_pos (by omega), if_neg (by omega)]; simp
    · rw [if_neg (by omega)]; simp
  | d + 1, k, i, a, b, hi, hk, ha, hb => by
    obtain ⟨k, rfl⟩ : ∃ m, k = m + 1 := ⟨k - 1, by omega⟩
    have hil : i < l.length := by omega
    obtain ⟨m1, m2, m3⟩ := mn_le ((rd_L2 l i).length : Int) 300
    have hfl : i < (fewF l).length := by simp [fewF, List.length_take]; omega
    have hg : (fewF l)[i] = (rd_L2 l i).take 300 := by
      rw [rd_get2 hil]; simp [fewF]
    have htk : (rd_L2 l i).take (mn ((rd_L2 l i).length : Int) 300).toNat = (rd_L2 l i).take 300 := by
      rcases m3 with h | h
      · rw [h, Int.toNat_natCast, List.take_length, List.take_of_length_le (by omega)]
      · rw [h]; rfl
    rw [transeptlaw04_few.l0, if_pos (by omega), if_pos (by omega), if_pos (by omega), if_pos (by omega), if_pos m1, bind_s, htk, if_pos (by rw [List.length_take, List.length_nil]; omega), if_pos (by omega), if_pos (by omega), w64 _ (by omega) (by omega), show ((i : Int) + 1) = ((i + 1 : Nat) : Int) by omega, List.nil_append,
      few_l0 l d k (i + 1) _ _ (by omega) (by omega) (by rw [List.length_append]; simp; omega) (by rw [List.length_append]; simp; omega), List.drop_eq_getElem_cons hfl, hg]
    simp
theorem few_f (l : List (List Int)) (k : Nat) (hk : 50 < k) : transeptlaw04_few.f k l = some (fewF l, (fewF l).map strOfNums) := by
  unfold transeptlaw04_few.f
  have := few_l0 l (min l.length 50) k 0 [] [] (by omega) (by omega) (by simp) (by simp)
  simpa using this
theorem few_bytes {l : List (List Int)} (h : ∀ b ∈ l, Bytes b) : ∀ b ∈ fewF l, Bytes b := fun b hb => by
  simp only [fewF, List.mem_map] at hb
  obtain ⟨c, hc, rfl⟩ := hb
  exact (h c (List.mem_of_mem_take hc)).take 300
theorem few_len (l : List (List Int)) : (fewF l).length ≤ 50 ∧ ∀ b ∈ fewF l, b.length ≤ 300 :=
  ⟨by simp [fewF, List.length_take]; omega, fun b hb => by
    simp only [fewF, List.mem_map] at hb
    obtain ⟨c, hc, rfl⟩ := hb
    rw [List.length_take]; omega⟩
theorem few_V {l : List (List Int)} (h : ∀ b ∈ l, Bytes b) : ∀ b ∈ fewF l, bodyV b := fun b hb => ⟨by have := (few_len l).2 b hb; omega, few_bytes h b hb⟩
theorem toList_iff (s t : ByteArray) : s.toList = t.toList ↔ s = t := ⟨fun h => by
  have := toList_beq s t
  rw [h] at this; simpa using this, fun h => by rw [h]⟩
theorem same_l0 (a : List (List Int)) (b : List ByteArray) (hl : a.length = b.length) : ∀ (d k i : Nat), i + d = a.length → d < k → a.length ≤ 140737488355328 → transeptlaw04_same.l0 k a b i = some (decide ((a.drop i).map strOfNums = b.drop i))
  | 0, k, i, hi, hk, hn => by
    obtain ⟨k, rfl⟩ : ∃ m, k = m + 1 := ⟨k - 1, by omega⟩
    rw [transeptlaw04_same.l0, if_neg (by omega), List.drop_eq_nil_of_le (by omega), List.drop_eq_nil_of_le (by omega)]; simp
  | d + 1, k, i, hi, hk, hn => by
    obtain ⟨k, rfl⟩ : ∃ m, k = m + 1 := ⟨k - 1, by omega⟩
    have hia : i < a.length := by omega
    have hib : i < b.length := by omega
    have hr : rdOf ByteArray.empty b i = b[i] := by simp [rdOf, List.getD_eq_getElem?_getD, List.getElem?_eq_getElem hib]
    rw [transeptlaw04_same.l0, if_pos (by omega), if_pos (by omega), if_pos (by omega), rd_get2 hia, hr, w64 _ (by omega) (by omega), show ((i : Int) + 1) = ((i + 1 : Nat) : Int) by omega,
      same_l0 a b hl d k (i + 1) (by omega) (by omega) hn, List.drop_eq_getElem_cons hia, List.drop_eq_getElem_cons hib]
    simp only [toList_iff, List.map_cons, List.cons.injEq]
    by_cases h : strOfNums a[i] = b[i]
    · rw [if_pos h]; simp [h]
    · rw [if_neg h]; simp [h]
theorem same_f (a : List (List Int)) (b : List ByteArray) (k : Nat) (hk : a.length + 1 < k) (hn : a.length ≤ 140737488355328) : transeptlaw04_same.f k a b = some (decide (a.map strOfNums = b)) := by
  unfold transeptlaw04_same.f
  by_cases h : a.length = b.length
  · rw [if_pos (by omega)]
    have := same_l0 a b h a.length k 0 (by omega) (by omega) hn
    simpa using this
  · rw [if_neg (by omega), decide_eq_false (fun z => h (by rw [← z, List.length_map]))]
theorem strs_inj {a b : List (List Int)} (ha : ∀ x ∈ a, Bytes x) (hb : ∀ x ∈ b, Bytes x) (h : a.map strOfNums = b.map strOfNums) : a = b := by
  have := congrArg (List.map bytesOf) h
  rw [List.map_map, List.map_map] at this
  have e : ∀ c : List (List Int), (∀ x ∈ c, Bytes x) → c.map (bytesOf ∘ strOfNums) = c := fun c hc => by
    conv => rhs; rw [← List.map_id c]
    exact List.map_congr_left (fun x hx => bytesOf_strOf x (hc x hx))
  rwa [e a ha, e b hb] at this
theorem ref_frame (b : List Int) (hb : Bytes b) (hn : b.length ≤ 1000000) (k : Nat) (hk : b.length * 10 + 80 ≤ k) : transeptref04_Frame.f k (strOfNums b) = some (strOfNums (frE b)) := by
  unfold transeptref04_Frame.f
  have hp := put_len10 b.length (by omega)
  rw [ref_putText k _ (by omega) (by rw [strOf_size]; omega), bind_s, ref_four b hb (by omega) k hk, bind_s, strOf_size, if_pos (by rw [← strOf_append, strOf_size, strOf_size, four_len, List.length_append]; omega), ← strOf_append, ← strOf_append]
  unfold frE; rw [List.append_assoc]
theorem join_l0 (l : List (List Int)) (hl : ∀ b ∈ l, bodyV b) (hn : l.length ≤ 4096) : ∀ (d k i : Nat), i + d = l.length → d + 200081 ≤ k →
    transeptref04_Join.l0 k (l.map strOfNums) (strOfNums (logE (l.take i))) i = some (strOfNums (logE l))
  | 0, k, i, hi, hk => by
    obtain ⟨k, rfl⟩ : ∃ m, k = m + 1 := ⟨k - 1, by omega⟩
    rw [transeptref04_Join.l0, if_neg (by rw [List.length_map]; omega), List.take_of_length_le (by omega)]
  | d + 1, k, i, hi, hk => by
    obtain ⟨k, rfl⟩ : ∃ m, k = m + 1 := ⟨k - 1, by omega⟩
    have hil : i < l.length := by omega
    have hv := hl _ (List.getElem_mem hil)
    have hr : rdOf ByteArray.empty (l.map strOfNums) i = strOfNums l[i] := by simp [rdOf, List.getD_eq_getElem?_getD, List.getElem?_eq_getElem hil]
    have hle := logE_le (fun b hb => (hl b hb).1) i (by omega)
    have hfl := frE_len l[i]
    have hpl := plen_le l[i] hv.1
    have hv1 := hv.1
    rw [transeptref04_Join.l0, if_pos (by rw [List.length_map]; omega), if_pos (by omega), hr, ref_frame l[i] hv.2 (by omega) k (by omega), bind_s, if_pos (by rw [strOf_size, strOf_size]; omega), ← strOf_append, w64 _ (by omega) (by omega), show ((i : Int) + 1) = ((i + 1 : Nat) : Int) by omega]
    have he : logE (l.take i) ++ frE l[i] = logE (l.take (i + 1)) := by
      rw [List.take_succ_eq_append_getElem hil]
      unfold logE
      rw [manyE_append, List.append_assoc]; simp [manyE]
    rw [he]
    exact join_l0 l hl hn d k (i + 1) (by omega) (by omega)
theorem ref_join (l : List (List Int)) (hl : ∀ b ∈ l, bodyV b) (hn : l.length ≤ 4096) (k : Nat) (hk : 210000 ≤ k) : transeptref04_Join.f k (l.map strOfNums) = some (strOfNums (logE l)) := by
  unfold transeptref04_Join.f
  have := join_l0 l hl hn l.length k 0 (by omega) (by omega)
  rw [magic_str]
  simpa [logE, manyE] using this
/-- Join, of bodies that may be. -/
theorem joinL_ok : ∀ (l : List (List Int)) (acc : List Int), (∀ b ∈ l, bodyV b) → (acc ++ manyE frE l).length ≤ 1048576 → joinL acc l = (acc ++ manyE frE l, 0)
  | [], acc, _, _ => by simp [joinL, manyE]
  | b :: l, acc, h, hn => by
    have hb := h b (by simp)
    have hb1 := hb.1
    rw [manyE_cons, ← List.append_assoc] at hn
    have hn2 := hn
    rw [List.length_append] at hn2
    rw [joinL, if_neg (by omega), if_neg (by omega), joinL_ok l _ (fun x hx => h x (List.mem_cons_of_mem _ hx)) hn, manyE_cons, List.append_assoc]
theorem join_ok {l : List (List Int)} (h : ∀ b ∈ l, bodyV b) (hn : l.length ≤ 4096) (hlen : (logE l).length ≤ 1048576) : joinF l = (logE l, 0) := by
  unfold joinF
  rw [if_neg (by omega)]
  exact joinL_ok l magic h hlen
theorem few_join {l : List (List Int)} (h : ∀ b ∈ l, Bytes b) : joinF (fewF l) = (logE (fewF l), 0) ∧ (logE (fewF l)).length ≤ 20000 := by
  have h1 := few_len l
  have h2 : ∀ (a : List (List Int)), (∀ b ∈ a, b.length ≤ 300) → (logE a).length ≤ 4 + a.length * 314 := fun a ha => by
    unfold logE
    rw [List.length_append]
    have : ∀ (a : List (List Int)), (∀ b ∈ a, b.length ≤ 300) → (manyE frE a).length ≤ a.length * 314 := fun a => by
      induction a with
      | nil => intro _; simp [manyE]
      | cons b a ih =>
        intro hh
        have hb := hh b (by simp)
        have := ih (fun x hx => hh x (List.mem_cons_of_mem _ hx))
        have h3 := frE_len b
        have h4 := plen_le b (by omega)
        rw [manyE_cons, List.length_append, List.length_cons]; omega
    have := this a ha
    simp only [magic, List.length_cons, List.length_nil]; omega
  have h3 := h2 _ h1.2
  have h4 := h1.1
  exact ⟨join_ok (few_V h) (by omega) (by omega), by omega⟩
end Go.Proofs.YtojagnoobaleaaaDoor.Ext
