/- The log of frames in plain words: what is read of bytes, and what follows. -/
import Derived.Test.YtojagnoobaleaaaDoorFrC
import Derived.Test.YtojagnoobaleaaaDoorCrc
namespace Go.Proofs.YtojagnoobaleaaaDoor.Ext
open Go.RowKit Go.Proofs.YtojagnoobaleaaaDoorW.PrintWords Go.Proofs.YtojagnoobaleaaaDoorW.PrintLast Go.Proofs.YtojagnoobaleaaaDoorW.PrintMore
set_option linter.unusedVariables false
/-- How many are the same, from the left. -/
def like : List Int → List Int → Nat
  | a :: m, b :: l => if a = b then like m l + 1 else 0
  | _, _ => 0
theorem like_le : ∀ m l : List Int, like m l ≤ m.length ∧ like m l ≤ l.length
  | [], l => by simp [like]
  | a :: m, [] => by simp [like]
  | a :: m, b :: l => by
    have := like_le m l
    rw [like]; split <;> simp <;> omega
theorem like_pre : ∀ m l : List Int, like m (m ++ l) = m.length
  | [], l => by simp [like]
  | a :: m, l => by simp [like, like_pre m l]
theorem like_take : ∀ (m : List Int) (k : Nat), like m (m.take k) = min k m.length
  | [], k => by simp [like]
  | a :: m, 0 => by simp [like]
  | a :: m, k + 1 => by simp [like, like_take m k]
theorem like_all : ∀ m l : List Int, like m l = m.length → ∃ r, l = m ++ r
  | [], l, _ => ⟨l, rfl⟩
  | a :: m, [], h => by simp [like] at h
  | a :: m, b :: l, h => by
    rw [like] at h
    split at h
    · rename_i e
      obtain ⟨r, hr⟩ := like_all m l (by simpa using h)
      exact ⟨r, by rw [e, hr]; rfl⟩
    · simp at h
theorem like_part : ∀ m l : List Int, like m l < m.length → like m l < l.length → ∃ p c q, l = p ++ c :: q ∧ p.length = like m l ∧ (∀ r, like m (p ++ c :: r) = p.length) ∧ like m p = p.length
  | [], l, h, _ => by simp at h
  | a :: m, [], _, h => by simp at h
  | a :: m, b :: l, h, h' => by
    by_cases e : a = b
    · subst e
      rw [like, if_pos rfl] at h h' ⊢
      obtain ⟨p, c, q, hl, hp, h1, h2⟩ := like_part m l (by simpa using h) (by simpa using h')
      refine ⟨a :: p, c, q, by rw [hl]; rfl, by simp [hp], fun r => by simp [like, h1], by simp [like, h2]⟩
    · refine ⟨[], b, l, rfl, by rw [like, if_neg e]; rfl, fun r => by simp [like, e], by simp [like]⟩
theorem like_end : ∀ m l : List Int, like m l < m.length → ¬ like m l < l.length → l = m.take l.length ∧ l.length < m.length
  | [], l, h, _ => by simp at h
  | a :: m, [], _, _ => by simp
  | a :: m, b :: l, h, h' => by
    by_cases e : a = b
    · subst e
      rw [like, if_pos rfl] at h h'
      obtain ⟨h1, h2⟩ := like_end m l (by simpa using h) (by simpa using h')
      exact ⟨by simp only [List.length_cons, List.take_succ_cons]; rw [← h1], by simpa using h2⟩
    · rw [like, if_neg e] at h'; simp at h'
/-- Bytes that are known. -/
def fixT (m : List Int) (e : Int) (l : List Int) : Unit × Int × Int :=
  if like m l < m.length then (if like m l < l.length then ((), (like m l : Int), e) else ((), (l.length : Int), 2)) else ((), (m.length : Int), 0)
theorem fix_codec (m : List Int) (e : Int) (hm : Bytes m) (h0 : e ≠ 0) (h2 : e ≠ 2) (h8 : e ≠ 8) : Codec (fun _ : Unit => True) (fun _ => m) (fixT m e) where
  bytes := fun _ _ => hm
  full := fun x r _ _ => by unfold fixT; rw [if_neg (by rw [like_pre]; omega)]
  sound := fun l _ h => by
    unfold fixT at h
    split at h
    · split at h
      · exact absurd h h0
      · simp at h
    · obtain ⟨r, hr⟩ := like_all m l (by have := (like_le m l).1; omega)
      exact ⟨(), r, trivial, hr⟩
  cut := fun x k _ hk => by
    unfold fixT
    rw [like_take, Nat.min_eq_left (by omega), if_pos hk, if_neg (by rw [List.length_take]; omega), List.length_take, Nat.min_eq_left (by omega)]
  short := fun l _ h => by
    unfold fixT at h ⊢
    split at h
    · rename_i h1
      rw [if_pos h1]
      split at h
      · exact absurd h h2
      · rename_i h3; rw [if_neg h3]
    · simp at h
  wrong := fun l _ h h' => by
    unfold fixT at h h' ⊢
    split at h
    · rename_i h1
      rw [if_pos h1] at h' ⊢
      split at h
      · rename_i h3
        rw [if_pos h3]
        obtain ⟨p, c, q, hl, hp, h4, h5⟩ := like_part m l h1 h3
        refine ⟨p, c, q, hl, by simp only [hp], fun r _ => ?_, ?_⟩
        · rw [h4 r, if_pos (by omega), if_pos (by simp), hp]
        · rw [h5, if_pos (by omega), if_neg (by omega)]
      · rename_i h3; rw [if_neg h3] at h'; simp at h'
    · simp at h
  no8 := fun l _ => by
    unfold fixT
    split
    · split
      · exact h8
      · simp
    · simp
/-- A body's length. -/
def lenT (l : List Int) : Int × Int × Int := if (gl 0 0 l).2.2 = 0 then (if 20000 < (gl 0 0 l).1 then (0, (gl 0 0 l).2.1 - 1, 5) else gl 0 0 l) else (0, (gl 0 0 l).2)
theorem lenT_at (m : Nat) (r : List Int) (hm : m < 18446744073709551616) (hr : Bytes r) : lenT (put m ++ r) = if 20000 < (m : Int) then (0, ((put m).length : Int) - 1, 5) else ((m : Int), ((put m).length : Int), 0) := by
  have e := gl_codec.full (m : Int) r ⟨by omega, by omega⟩ hr
  simp only [Int.toNat_natCast] at e
  unfold lenT
  simp only [e, if_true]
theorem len_codec : Codec (fun n : Int => 0 ≤ n ∧ n ≤ 20000) (fun n => put n.toNat) lenT where
  bytes := fun n _ => put_bytes _
  full := fun n r h hr => by
    rw [lenT_at _ _ (by omega) hr, if_neg (by omega), Int.toNat_of_nonneg h.1]
  sound := fun l hl h => by
    have h0 : (gl 0 0 l).2.2 = 0 := by
      apply Classical.byContradiction
      intro hne
      unfold lenT at h
      rw [if_neg hne] at h
      exact hne h
    obtain ⟨x, r, hx, rfl⟩ := gl_codec.sound l hl h0
    rw [lenT_at _ _ (by omega) hl.right] at h
    split at h
    · simp at h
    · exact ⟨x, r, ⟨hx.1, by omega⟩, rfl⟩
  cut := fun n k h hk => by
    have := gl_codec.cut n k ⟨h.1, by omega⟩ hk
    unfold lenT
    rw [if_neg (by rw [this]; simp), this]
  short := fun l hl h => by
    by_cases h0 : (gl 0 0 l).2.2 = 0
    · obtain ⟨x, r, hx, rfl⟩ := gl_codec.sound l hl h0
      rw [lenT_at _ _ (by omega) hl.right] at h
      split at h <;> simp at h
    · unfold lenT at h ⊢
      rw [if_neg h0] at h ⊢
      exact gl_codec.short l hl h
  wrong := fun l hl h h' => by
    by_cases h0 : (gl 0 0 l).2.2 = 0
    · obtain ⟨x, r, hx, rfl⟩ := gl_codec.sound l hl h0
      have hb := hl.right
      rw [lenT_at _ _ (by omega) hb] at h h' ⊢
      split at h
      · rename_i h1
        rw [if_pos h1]
        obtain ⟨p, c, hsp, hlen⟩ := put_split x.toNat
        refine ⟨p, c, r, by rw [hsp]; simp, by simp only []; omega, fun s hs => ?_, ?_⟩
        · rw [show p ++ c :: s = put x.toNat ++ s by rw [hsp]; simp, lenT_at _ _ (by omega) hs, if_pos h1]
        · have hcut := gl_codec.cut x p.length hx (by omega)
          rw [hsp, List.take_left] at hcut
          unfold lenT
          rw [if_neg (by rw [hcut]; simp), hcut]
      · simp at h
    · have e : (lenT l).2 = (gl 0 0 l).2 := by unfold lenT; rw [if_neg h0]
      rw [e] at h h' ⊢
      obtain ⟨p, c, q, hr, h2, h3, h5⟩ := gl_codec.wrong l hl h h'
      refine ⟨p, c, q, hr, h2, fun s hs => ?_, ?_⟩
      · unfold lenT
        rw [if_neg (by rw [h3 s hs]; exact h)]; exact h3 s hs
      · unfold lenT
        rw [if_neg (by rw [h5]; simp)]; exact h5
  no8 := fun l hl => by
    unfold lenT
    split
    · split
      · simp
      · rename_i h _; rw [h]; simp
    · exact gl_codec.no8 l hl
/-- So many bytes. -/
def bodyT (n : Int) (l : List Int) : List Int × Int × Int := if (l.length : Int) < n then ([], (l.length : Int), 2) else (l.take n.toNat, n, 0)
theorem body_codec (n : Int) (h0 : 0 ≤ n) : Codec (fun b : List Int => (b.length : Int) = n ∧ Bytes b) (fun b => b) (bodyT n) where
  bytes := fun b h => h.2
  full := fun b r h _ => by
    unfold bodyT
    rw [if_neg (by rw [List.length_append]; omega), show n.toNat = b.length by omega, List.take_left, h.1]
  sound := fun l hl h => by
    unfold bodyT at h
    split at h
    · simp at h
    · exact ⟨l.take n.toNat, l.drop n.toNat, ⟨by rw [List.length_take]; omega, hl.take _⟩, (List.take_append_drop _ _).symm⟩
  cut := fun b k h hk => by
    unfold bodyT
    rw [if_pos (by rw [List.length_take]; omega), List.length_take, Nat.min_eq_left (by omega)]
  short := fun l _ h => by
    unfold bodyT at h ⊢
    split
    · rfl
    · rename_i h1; rw [if_neg h1] at h; simp at h
  wrong := fun l _ h h' => by
    unfold bodyT at h h'
    split at h
    · rename_i h1; rw [if_pos h1] at h'; simp at h'
    · simp at h
  no8 := fun l _ => by unfold bodyT; split <;> simp
/-- A number's four bytes, the lowest first. -/
def fourB (n : Int) : List Int := [n % 256, n / 256 % 256, n / 65536 % 256, n / 16777216 % 256]
/-- A body's sum. -/
def four (b : List Int) : List Int := fourB (more 0 b)
theorem four_len (b : List Int) : (four b).length = 4 := rfl
theorem fourB_bytes (n : Int) : Bytes (fourB n) := by
  intro x hx
  simp only [fourB, List.mem_cons, List.not_mem_nil, or_false] at hx
  rcases hx with rfl | rfl | rfl | rfl <;> omega
theorem four_bytes (b : List Int) : Bytes (four b) := fourB_bytes _
/-- A body that may be. -/
def bodyV (b : List Int) : Prop := b.length ≤ 20000 ∧ Bytes b
/-- Its frame. -/
def frE (b : List Int) : List Int := put b.length ++ (b ++ four b)
/-- The frame at the beginning. -/
def oneT (l : List Int) : List Int × Int × Int :=
  ((seqT lenT ([], ()) (fun n => seqT (bodyT n) () (fun b => fixT (four b) 4)) l).1.2.1, (seqT lenT ([], ()) (fun n => seqT (bodyT n) () (fun b => fixT (four b) 4)) l).2)
theorem one_codec : Codec bodyV frE oneT :=
  (len_codec.seq ([], ()) (fun n hn => (body_codec n hn.1).seq () (fun b _ => fix_codec (four b) 4 (four_bytes b) (by decide) (by decide) (by decide)))).map (fun p => p.2.1) bodyV frE
    (fun b h => ⟨((b.length : Int), b, ()), ⟨⟨by omega, by have := h.1; simp only []; omega⟩, ⟨rfl, h.2⟩, trivial⟩, rfl⟩)
    (fun p h => ⟨by have h1 := h.1.2; have h2 := h.2.1.1; omega, h.2.1.2⟩)
    (fun p h => by
      have h2 := h.2.1.1
      simp only [frE]
      rw [← h2]; rfl)
theorem frE_pos (b : List Int) : 5 ≤ (frE b).length := by
  unfold frE
  simp only [List.length_append, four_len]
  have := put_pos b.length
  omega
section
variable {α : Type} {V : α → Prop} {enc : α → List Int} {take : List Int → α × Int × Int}
/-- At most so many, one behind the other. -/
def manyT (take : List Int → α × Int × Int) : Nat → List Int → List α × Int × Int
  | _, [] => ([], 0, 0)
  | 0, _ :: _ => ([], 0, 5)
  | n + 1, c :: l =>
    if (take (c :: l)).2.2 = 0 then
      ((take (c :: l)).1 :: (manyT take n ((c :: l).drop (take (c :: l)).2.1.toNat)).1, (take (c :: l)).2.1 + (manyT take n ((c :: l).drop (take (c :: l)).2.1.toNat)).2.1, (manyT take n ((c :: l).drop (take (c :: l)).2.1.toNat)).2.2)
    else ([], (take (c :: l)).2)
def manyE (enc : α → List Int) (xs : List α) : List Int := (xs.map enc).flatten
theorem many_nil (n : Nat) : manyT take n [] = ([], 0, 0) := by cases n <;> rfl
theorem many_zero {l : List Int} (h : l ≠ []) : manyT take 0 l = ([], 0, 5) := by
  cases l with
  | nil => exact absurd rfl h
  | cons c l => rfl
theorem many_bad (n : Nat) {l : List Int} (hne : l ≠ []) (h : (take l).2.2 ≠ 0) : manyT take (n + 1) l = ([], (take l).2) := by
  cases l with
  | nil => exact absurd rfl hne
  | cons c l => exact if_neg h
theorem many_good (n : Nat) {l : List Int} (hne : l ≠ []) (h : (take l).2.2 = 0) : manyT take (n + 1) l = ((take l).1 :: (manyT take n (l.drop (take l).2.1.toNat)).1, (take l).2.1 + (manyT take n (l.drop (take l).2.1.toNat)).2.1, (manyT take n (l.drop (take l).2.1.toNat)).2.2) := by
  cases l with
  | nil => exact absurd rfl hne
  | cons c l => exact if_pos h
theorem manyE_cons (x : α) (xs : List α) : manyE enc (x :: xs) = enc x ++ manyE enc xs := by simp [manyE]
theorem manyE_nil : manyE enc ([] : List α) = [] := rfl
theorem manyE_append (xs ys : List α) : manyE enc (xs ++ ys) = manyE enc xs ++ manyE enc ys := by simp [manyE]
theorem manyE_bytes (C : Codec V enc take) : ∀ xs : List α, (∀ x ∈ xs, V x) → Bytes (manyE enc xs)
  | [], _ => Bytes.nil
  | x :: xs, h => by rw [manyE_cons]; exact (C.bytes x (h x (by simp))).append (manyE_bytes C xs (fun y hy => h y (List.mem_cons_of_mem _ hy)))
theorem many_cons (C : Codec V enc take) (pos : ∀ x, 0 < (enc x).length) (n : Nat) (x : α) (r : List Int) (h : V x) (hr : Bytes r) :
    manyT take (n + 1) (enc x ++ r) = (x :: (manyT take n r).1, ((enc x).length : Int) + (manyT take n r).2.1, (manyT take n r).2.2) := by
  have e := C.full x r h hr
  have hp := pos x
  rw [many_good n (fun z => by have := congrArg List.length z; simp only [List.length_append, List.length_nil] at this; omega) (by rw [e]), e]
  simp only [Int.toNat_natCast, List.drop_left]
theorem many_append (C : Codec V enc take) (pos : ∀ x, 0 < (enc x).length) : ∀ (xs : List α) (n : Nat) (r : List Int), (∀ x ∈ xs, V x) → xs.length ≤ n → Bytes r →
    manyT take n (manyE enc xs ++ r) = (xs ++ (manyT take (n - xs.length) r).1, ((manyE enc xs).length : Int) + (manyT take (n - xs.length) r).2.1, (manyT take (n - xs.length) r).2.2)
  | [], n, r, _, _, _ => by simp [manyE]
  | x :: xs, n, r, h, hn, hr => by
    obtain ⟨n, rfl⟩ : ∃ m, n = m + 1 := ⟨n - 1, by simp at hn; omega⟩
    have hx : ∀ y ∈ xs, V y := fun y hy => h y (List.mem_cons_of_mem _ hy)
    rw [manyE_cons, List.append_assoc, many_cons C pos n x _ (h x (by simp)) ((manyE_bytes C xs hx).append hr), many_append C pos xs n r hx (by simpa using hn) hr]
    simp only [List.length_cons, List.length_append, List.cons_append, Nat.add_sub_add_right, Prod.mk.injEq, and_true, true_and]
    omega
theorem many_full (C : Codec V enc take) (pos : ∀ x, 0 < (enc x).length) (xs : List α) (n : Nat) (h : ∀ x ∈ xs, V x) (hn : xs.length ≤ n) : manyT take n (manyE enc xs) = (xs, ((manyE enc xs).length : Int), 0) := by
  have := many_append C pos xs n [] h hn Bytes.nil
  rw [List.append_nil, many_nil] at this
  simpa using this
/-- What was read, and what is behind it. -/
theorem many_parts (C : Codec V enc take) (pos : ∀ x, 0 < (enc x).length) : ∀ (n : Nat) (l : List Int), Bytes l → ∃ (xs : List α) (r : List Int), (∀ x ∈ xs, V x) ∧ xs.length ≤ n ∧ l = manyE enc xs ++ r ∧
    ((r = [] ∧ manyT take n l = (xs, ((manyE enc xs).length : Int), 0)) ∨ (r ≠ [] ∧ xs.length = n ∧ manyT take n l = (xs, ((manyE enc xs).length : Int), 5)) ∨
      (r ≠ [] ∧ xs.length < n ∧ (take r).2.2 ≠ 0 ∧ manyT take n l = (xs, ((manyE enc xs).length : Int) + (take r).2.1, (take r).2.2)))
  | n, [], _ => ⟨[], [], by simp, by simp, rfl, .inl ⟨rfl, by rw [many_nil]; rfl⟩⟩
  | 0, c :: l, _ => ⟨[], c :: l, by simp, by simp, rfl, .inr (.inl ⟨by simp, rfl, rfl⟩)⟩
  | n + 1, c :: l, hl => by
    by_cases h : (take (c :: l)).2.2 = 0
    · obtain ⟨x, r, hx, e⟩ := C.sound _ hl h
      rw [e] at hl ⊢
      obtain ⟨xs, s, hV, hlen, rfl, hh⟩ := many_parts C pos n r hl.right
      refine ⟨x :: xs, s, fun y hy => by rcases List.mem_cons.1 hy with rfl | hy; exact hx; exact hV y hy, by simpa using hlen, by rw [manyE_cons, List.append_assoc], ?_⟩
      rw [many_cons C pos n x _ hx hl.right]
      rcases hh with ⟨h1, h2⟩ | ⟨h1, h2, h3⟩ | ⟨h1, h2, h3, h4⟩
      · exact .inl ⟨h1, by rw [h2, manyE_cons, List.length_append]; simp⟩
      · exact .inr (.inl ⟨h1, by simpa using h2, by rw [h3, manyE_cons, List.length_append]; simp⟩)
      · exact .inr (.inr ⟨h1, by simpa using h2, h3, by rw [h4, manyE_cons, List.length_append]; simp; omega⟩)
    · refine ⟨[], c :: l, by simp, by simp, rfl, .inr (.inr ⟨by simp, by simp, h, ?_⟩)⟩
      rw [many_bad n (by simp) h]; simp [manyE]
theorem many_cut (C : Codec V enc take) (pos : ∀ x, 0 < (enc x).length) : ∀ (xs : List α) (n k : Nat), (∀ x ∈ xs, V x) → xs.length ≤ n → k ≤ (manyE enc xs).length → ∃ j, j ≤ xs.length ∧
    manyT take n ((manyE enc xs).take k) = (xs.take j, (k : Int), if k = (manyE enc (xs.take j)).length then 0 else 2) ∧ (manyE enc (xs.take j)).length ≤ k
  | [], n, k, _, _, hk => ⟨0, by simp, by simp [manyE] at hk; subst hk; simp [manyE, many_nil], by simp [manyE]⟩
  | x :: xs, n, k, h, hn, hk => by
    obtain ⟨n, rfl⟩ : ∃ m, n = m + 1 := ⟨n - 1, by simp at hn; omega⟩
    have hx : ∀ y ∈ xs, V y := fun y hy => h y (List.mem_cons_of_mem _ hy)
    rw [manyE_cons] at hk ⊢
    by_cases hk1 : k < (enc x).length
    · refine ⟨0, by simp, ?_, by simp [manyE]⟩
      rw [List.take_append_of_le_length (by omega)]
      by_cases hk0 : k = 0
      · subst hk0; simp [many_nil, manyE]
      · have hc := C.cut x k (h x (by simp)) hk1
        rw [many_bad n (fun z => by have := congrArg List.length z; simp only [List.length_take, List.length_nil] at this; omega) (by rw [hc]; simp), hc]
        simp [manyE, hk0]
    · rw [List.length_append] at hk
      obtain ⟨j, hj, hm, hle⟩ := many_cut C pos xs n (k - (enc x).length) hx (by simpa using hn) (by omega)
      refine ⟨j + 1, by simpa using hj, ?_, by rw [List.take_succ_cons, manyE_cons, List.length_append]; omega⟩
      rw [List.take_append, List.take_of_length_le (show (enc x).length ≤ k by omega), many_cons C pos n x _ (h x (by simp)) ((manyE_bytes C xs hx).take _), hm, List.take_succ_cons, manyE_cons, List.length_append]
      simp only [Prod.mk.injEq, true_and]
      refine ⟨by omega, ?_⟩
      by_cases he : k - (enc x).length = (manyE enc (xs.take j)).length
      · rw [if_pos he, if_pos (by omega)]
      · rw [if_neg he, if_neg (by omega)]
theorem many_wrong (C : Codec V enc take) (pos : ∀ x, 0 < (enc x).length) (n : Nat) (l : List Int) (hl : Bytes l) (h0 : (manyT take n l).2.2 ≠ 0) (h2 : (manyT take n l).2.2 ≠ 2) :
    ∃ p c q, l = p ++ c :: q ∧ (manyT take n l).2.1 = (p.length : Int) ∧ (∀ r, Bytes r → manyT take n (p ++ c :: r) = manyT take n l) ∧ (manyT take n p).1 = (manyT take n l).1 ∧ (manyT take n p).2.1 = (p.length : Int) ∧ ((manyT take n p).2.2 = 0 ∨ (manyT take n p).2.2 = 2) := by
  obtain ⟨xs, r, hV, hlen, rfl, hh⟩ := many_parts C pos n l hl
  rcases hh with ⟨h1, h3⟩ | ⟨h1, h3, h4⟩ | ⟨h1, h3, h4, h5⟩
  · rw [h3] at h0; exact absurd rfl h0
  · cases r with
    | nil => exact absurd rfl h1
    | cons c q =>
      refine ⟨manyE enc xs, c, q, rfl, by rw [h4], fun s hs => ?_, ?_⟩
      · have hb : Bytes (c :: s) := fun y hy => by rcases List.mem_cons.1 hy with rfl | hy; exact hl.right _ (by simp); exact hs y hy
        rw [h4, many_append C pos xs n _ hV hlen hb, show n - xs.length = 0 by omega]
        simp [manyT]
      · rw [h4, many_full C pos xs n hV hlen]
        exact ⟨rfl, rfl, .inl rfl⟩
  · rw [h5] at h0 h2
    obtain ⟨p, c, q, hr, h6, h7, h8⟩ := C.wrong r hl.right h0 h2
    have hp : Bytes p := by have := hl.right; rw [hr] at this; exact this.left
    have hc : Bytes [c] := by have := hl.right; rw [hr] at this; exact (show Bytes ([c] ++ q) from this.right).left
    obtain ⟨m, hm⟩ : ∃ m, n - xs.length = m + 1 := ⟨n - xs.length - 1, by omega⟩
    refine ⟨manyE enc xs ++ p, c, q, by rw [hr]; simp, by rw [h5]; simp only [h6, List.length_append]; omega, fun s hs => ?_, ?_⟩
    · rw [h5, List.append_assoc, many_append C pos xs n _ hV hlen (hp.append (show Bytes (c :: s) from hc.append hs)), hm, many_bad m (by simp) (by rw [h7 s hs]; exact h4), h7 s hs]
      simp
    · rw [h5, many_append C pos xs n _ hV hlen hp, hm]
      by_cases hp0 : p = []
      · subst hp0; rw [many_nil]; simp
      · rw [many_bad m hp0 (by rw [h8]; simp), h8]
        simp
theorem many_short (C : Codec V enc take) (pos : ∀ x, 0 < (enc x).length) (n : Nat) (l : List Int) (hl : Bytes l) (h : (manyT take n l).2.2 = 2 ∨ (manyT take n l).2.2 = 0) : (manyT take n l).2.1 = l.length := by
  obtain ⟨xs, r, hV, hlen, rfl, hh⟩ := many_parts C pos n l hl
  rcases hh with ⟨h1, h3⟩ | ⟨h1, h3, h4⟩ | ⟨h1, h3, h4, h5⟩
  · rw [h3, h1]; simp
  · rw [h4] at h; simp at h
  · rw [h5] at h ⊢
    rcases h with h | h
    · have := C.short r hl.right h
      simp only [this, List.length_append]; omega
    · exact absurd h h4
end
/-- What a log begins with. -/
def magic : List Int := [84, 82, 78, 49]
/-- The log of bodies. -/
def logE (xs : List (List Int)) : List Int := magic ++ manyE frE xs
/-- A log's bodies, or what is wrong. -/
def logF (l : List Int) : List (List Int) × Int × Int :=
  if (fixT magic 3 l).2.2 = 0 then ((manyT oneT 4096 (l.drop 4)).1, 4 + (manyT oneT 4096 (l.drop 4)).2.1, (manyT oneT 4096 (l.drop 4)).2.2) else ([], (fixT magic 3 l).2)
/-- The same, of whatever length. -/
def splitF (l : List Int) : List (List Int) × Int × Int :=
  if 1048576 < l.length ∧ ((logF (l.take 1048576)).2.2 = 0 ∨ (logF (l.take 1048576)).2.2 = 2) then ((logF (l.take 1048576)).1, 1048576, 5) else logF (l.take 1048576)
theorem split_small {l : List Int} (h : l.length ≤ 1048576) : splitF l = logF l := by
  unfold splitF
  rw [if_neg (fun z => by omega), List.take_of_length_le h]
theorem magic_bytes : Bytes magic := by intro x hx; simp [magic] at hx; omega
theorem magic_codec : Codec (fun _ : Unit => True) (fun _ => magic) (fixT magic 3) := fix_codec magic 3 magic_bytes (by decide) (by decide) (by decide)
theorem fr_pos (b : List Int) : 0 < (frE b).length := by have := frE_pos b; omega
theorem log_at (r : List Int) (hr : Bytes r) : logF (magic ++ r) = ((manyT oneT 4096 r).1, 4 + (manyT oneT 4096 r).2.1, (manyT oneT 4096 r).2.2) := by
  have := magic_codec.full () r trivial hr
  unfold logF
  rw [this]
  simp only [if_true]
  rfl
theorem log_bad {l : List Int} (h : (fixT magic 3 l).2.2 ≠ 0) : logF l = ([], (fixT magic 3 l).2) := if_neg h
theorem logE_bytes {xs : List (List Int)} (h : ∀ x ∈ xs, bodyV x) : Bytes (logE xs) := magic_bytes.append (manyE_bytes one_codec xs h)
theorem log_append {xs : List (List Int)} {r : List Int} (h : ∀ x ∈ xs, bodyV x) (hn : xs.length ≤ 4096) (hr : Bytes r) :
    logF (logE xs ++ r) = (xs ++ (manyT oneT (4096 - xs.length) r).1, ((logE xs).length : Int) + (manyT oneT (4096 - xs.length) r).2.1, (manyT oneT (4096 - xs.length) r).2.2) := by
  unfold logE
  rw [List.append_assoc, log_at _ ((manyE_bytes one_codec xs h).append hr), many_append one_codec fr_pos xs 4096 r h hn hr]
  simp only [List.length_append, Prod.mk.injEq, true_and, and_true]
  simp only [magic, List.length_cons, List.length_nil]; omega
theorem log_full {xs : List (List Int)} (h : ∀ x ∈ xs, bodyV x) (hn : xs.length ≤ 4096) : logF (logE xs) = (xs, ((logE xs).length : Int), 0) := by
  have := log_append (r := []) h hn Bytes.nil
  rw [List.append_nil, many_nil] at this
  simpa using this
theorem log_sound {l : List Int} (hl : Bytes l) (h : (logF l).2.2 = 0) : (∀ x ∈ (logF l).1, bodyV x) ∧ (logF l).1.length ≤ 4096 ∧ l = logE (logF l).1 ∧ (logF l).2.1 = l.length := by
  by_cases h0 : (fixT magic 3 l).2.2 = 0
  · obtain ⟨_, r, _, rfl⟩ := magic_codec.sound l hl h0
    have hr := hl.right
    rw [log_at r hr] at h ⊢
    obtain ⟨xs, s, hV, hlen, rfl, hh⟩ := many_parts one_codec fr_pos 4096 r hr
    rcases hh with ⟨h1, h3⟩ | ⟨h1, h3, h4⟩ | ⟨h1, h3, h4, h5⟩
    · subst h1
      rw [h3]
      refine ⟨hV, hlen, by simp [logE], ?_⟩
      simp [magic]; omega
    · rw [h4] at h; simp at h
    · rw [h5] at h; exact absurd h h4
  · rw [log_bad h0] at h; exact absurd h h0
theorem log_short {l : List Int} (hl : Bytes l) (h : (logF l).2.2 = 2 ∨ (logF l).2.2 = 0) : (logF l).2.1 = l.length := by
  by_cases h0 : (fixT magic 3 l).2.2 = 0
  · obtain ⟨_, r, _, rfl⟩ := magic_codec.sound l hl h0
    have hr := hl.right
    rw [log_at r hr] at h ⊢
    have := many_short one_codec fr_pos 4096 r hr h
    simp [magic, this]; omega
  · rw [log_bad h0] at h ⊢
    rcases h with h | h
    · exact magic_codec.short l hl h
    · exact absurd h h0
theorem logE_len (xs : List (List Int)) : 4 ≤ (logE xs).length := by simp [logE, magic]
theorem log_cut {xs : List (List Int)} (k : Nat) (h : ∀ x ∈ xs, bodyV x) (hn : xs.length ≤ 4096) (hk : k ≤ (logE xs).length) : ∃ j, j ≤ xs.length ∧
    logF ((logE xs).take k) = (xs.take j, (k : Int), if k = (logE (xs.take j)).length then 0 else 2) := by
  by_cases hk4 : k < 4
  · refine ⟨0, by simp, ?_⟩
    have hc := magic_codec.cut () k trivial hk4
    have ht : (logE xs).take k = magic.take k := by unfold logE; rw [List.take_append_of_le_length (by simp [magic]; omega)]
    rw [ht, log_bad (by rw [hc]; simp), hc]
    have := logE_len (xs.take 0)
    rw [if_neg (by omega)]; simp
  · unfold logE at hk ⊢
    rw [List.length_append] at hk
    have h4 : magic.length = 4 := rfl
    obtain ⟨j, hj, hm, _⟩ := many_cut one_codec fr_pos xs 4096 (k - 4) h hn (by omega)
    refine ⟨j, hj, ?_⟩
    rw [List.take_append, List.take_of_length_le (by omega), log_at _ ((manyE_bytes one_codec xs h).take _), h4, hm]
    simp only [List.length_append, h4, Prod.mk.injEq, true_and]
    refine ⟨by omega, ?_⟩
    by_cases he : k - 4 = (manyE frE (xs.take j)).length
    · rw [if_pos he, if_pos (by omega)]
    · rw [if_neg he, if_neg (by omega)]
theorem log_wrong {l : List Int} (hl : Bytes l) (h0 : (logF l).2.2 ≠ 0) (h2 : (logF l).2.2 ≠ 2) :
    ∃ p c q, l = p ++ c :: q ∧ (logF l).2.1 = (p.length : Int) ∧ (∀ r, Bytes r → logF (p ++ c :: r) = logF l) ∧ (logF p).1 = (logF l).1 ∧ (logF p).2.1 = (p.length : Int) ∧ ((logF p).2.2 = 0 ∨ (logF p).2.2 = 2) := by
  by_cases h1 : (fixT magic 3 l).2.2 = 0
  · obtain ⟨_, r, _, rfl⟩ := magic_codec.sound l hl h1
    have hr := hl.right
    rw [log_at r hr] at h0 h2 ⊢
    obtain ⟨p, c, q, hp, h3, h4, h5, h6, h7⟩ := many_wrong one_codec fr_pos 4096 r hr h0 h2
    have hb : Bytes p := by rw [hp] at hr; exact hr.left
    have hc : Bytes [c] := by rw [hp] at hr; exact (show Bytes ([c] ++ q) from hr.right).left
    have h4m : magic.length = 4 := rfl
    refine ⟨magic ++ p, c, q, by rw [hp]; simp, by simp only [h3, List.length_append, h4m]; omega, fun s hs => ?_, ?_⟩
    · rw [List.append_assoc, log_at _ (hb.append (show Bytes (c :: s) from hc.append hs)), h4 s hs]
    · rw [log_at _ hb]
      refine ⟨h5, ?_, h7⟩
      simp only [h6, List.length_append, h4m]; omega
  · rw [log_bad h1] at h0 h2 ⊢
    obtain ⟨p, c, q, hp, h3, h4, h5⟩ := magic_codec.wrong l hl h0 h2
    have hne : (fixT magic 3 p).2.2 ≠ 0 := by rw [h5]; simp
    refine ⟨p, c, q, hp, h3, fun s hs => ?_, ?_⟩
    · rw [log_bad (by rw [h4 s hs]; exact h1), h4 s hs]
    · rw [log_bad hne, h5]
      exact ⟨rfl, rfl, .inr rfl⟩
theorem log_at_le {l : List Int} (hl : Bytes l) : 0 ≤ (logF l).2.1 ∧ (logF l).2.1 ≤ l.length := by
  by_cases h0 : (logF l).2.2 = 0
  · rw [log_short hl (.inr h0)]; omega
  · by_cases h2 : (logF l).2.2 = 2
    · rw [log_short hl (.inl h2)]; omega
    · obtain ⟨p, c, q, rfl, h3, _⟩ := log_wrong hl h0 h2
      rw [h3]; simp; omega
end Go.Proofs.YtojagnoobaleaaaDoor.Ext
