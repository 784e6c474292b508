/- Ways to read something at the beginning of bytes, one behind the other, in plain words. -/
import Derived.Test.YtmlhlcdamppbfaaDoorDec
import Derived.Test.YtmlhlcdamppbfaaDoorEnc
import Derived.Test.YtmlhlcdamppbfaaDoorRdr2
namespace Go.Proofs.YtmlhlcdamppbfaaDoor.Ext
/-- What is read is what was written; what is wrong is wrong at its byte; what is cut off is cut off. -/
structure Codec {α : Type} (V : α → Prop) (enc : α → List Int) (take : List Int → α × Int × Int) : Prop where
  bytes : ∀ x, V x → Bytes (enc x)
  full : ∀ x r, V x → Bytes r → take (enc x ++ r) = (x, ((enc x).length : Int), 0)
  sound : ∀ l, Bytes l → (take l).2.2 = 0 → ∃ x r, V x ∧ l = enc x ++ r
  cut : ∀ x k, V x → k < (enc x).length → (take ((enc x).take k)).2 = ((k : Int), 2)
  short : ∀ l, Bytes l → (take l).2.2 = 2 → (take l).2.1 = l.length
  wrong : ∀ l, Bytes l → (take l).2.2 ≠ 0 → (take l).2.2 ≠ 2 → ∃ p c q, l = p ++ c :: q ∧ (take l).2.1 = (p.length : Int) ∧ (∀ r, Bytes r → (take (p ++ c :: r)).2 = (take l).2) ∧ (take p).2 = ((p.length : Int), 2)
  no8 : ∀ l, Bytes l → (take l).2.2 ≠ 8
theorem Bytes.right {l m : List Int} (h : Bytes (l ++ m)) : Bytes m := fun x hx => h x (List.mem_append.2 (.inr hx))
theorem Bytes.left {l m : List Int} (h : Bytes (l ++ m)) : Bytes l := fun x hx => h x (List.mem_append.2 (.inl hx))
theorem Bytes.nil : Bytes [] := fun x hx => by simp at hx
theorem Bytes.one {c : Int} (h0 : 0 ≤ c) (h1 : c < 256) : Bytes [c] := fun x hx => by simp at hx; omega
/-- One behind the other. -/
def seqT {α β : Type} (t1 : List Int → α × Int × Int) (d : β) (t2 : α → List Int → β × Int × Int) (l : List Int) : (α × β) × Int × Int :=
  if (t1 l).2.2 = 0 then (((t1 l).1, (t2 (t1 l).1 (l.drop (t1 l).2.1.toNat)).1), (t1 l).2.1 + (t2 (t1 l).1 (l.drop (t1 l).2.1.toNat)).2.1, (t2 (t1 l).1 (l.drop (t1 l).2.1.toNat)).2.2)
  else (((t1 l).1, d), (t1 l).2)
section
variable {α β : Type} {V1 : α → Prop} {e1 : α → List Int} {t1 : List Int → α × Int × Int} {V2 : α → β → Prop} {e2 : α → β → List Int} {t2 : α → List Int → β × Int × Int} {d : β}
theorem seq_at (C1 : Codec V1 e1 t1) (x : α) (r : List Int) (h : V1 x) (hr : Bytes r) : seqT t1 d t2 (e1 x ++ r) = ((x, (t2 x r).1), ((e1 x).length : Int) + (t2 x r).2.1, (t2 x r).2.2) := by
  have e := C1.full x r h hr
  unfold seqT
  simp only [e, if_true, Int.toNat_natCast, List.drop_left]
theorem seq_bad {l : List Int} (h : (t1 l).2.2 ≠ 0) : seqT t1 d t2 l = (((t1 l).1, d), (t1 l).2) := if_neg h
theorem Codec.seq (d : β) (C1 : Codec V1 e1 t1) (C2 : ∀ x, V1 x → Codec (V2 x) (e2 x) (t2 x)) : Codec (fun p : α × β => V1 p.1 ∧ V2 p.1 p.2) (fun p => e1 p.1 ++ e2 p.1 p.2) (seqT t1 d t2) where
  bytes := fun p h => (C1.bytes _ h.1).append ((C2 _ h.1).bytes _ h.2)
  full := fun p r h hr => by
    rw [List.append_assoc, seq_at C1 p.1 _ h.1 (((C2 _ h.1).bytes _ h.2).append hr), (C2 _ h.1).full _ _ h.2 hr]
    simp
  sound := fun l hl h => by
    by_cases h1 : (t1 l).2.2 = 0
    · obtain ⟨x, r, hx, rfl⟩ := C1.sound l hl h1
      rw [seq_at C1 x r hx hl.right] at h
      obtain ⟨y, s, hy, rfl⟩ := (C2 x hx).sound r hl.right h
      exact ⟨(x, y), s, ⟨hx, hy⟩, by simp⟩
    · rw [seq_bad h1] at h; exact absurd h h1
  cut := fun p k h hk => by
    simp only [List.length_append] at hk
    by_cases hk1 : k < (e1 p.1).length
    · have := C1.cut p.1 k h.1 hk1
      rw [List.take_append_of_le_length (by omega), seq_bad (by rw [this]; simp), this]
    · rw [List.take_append, List.take_of_length_le (l := e1 p.1) (show (e1 p.1).length ≤ k by omega), seq_at C1 p.1 _ h.1 (((C2 _ h.1).bytes _ h.2).take _)]
      have := (C2 _ h.1).cut p.2 (k - (e1 p.1).length) h.2 (by omega)
      rw [this]; simp only [Prod.mk.injEq, and_true]; omega
  short := fun l hl h => by
    by_cases h1 : (t1 l).2.2 = 0
    · obtain ⟨x, r, hx, rfl⟩ := C1.sound l hl h1
      rw [seq_at C1 x r hx hl.right] at h ⊢
      have := (C2 x hx).short r hl.right h
      simp only [List.length_append] at *; omega
    · rw [seq_bad h1] at h ⊢; exact C1.short l hl h
  wrong := fun l hl h h' => by
    by_cases h1 : (t1 l).2.2 = 0
    · obtain ⟨x, r, hx, rfl⟩ := C1.sound l hl h1
      rw [seq_at C1 x r hx hl.right] at h h' ⊢
      obtain ⟨p, c, q, hr, h2, h3, h4⟩ := (C2 x hx).wrong r hl.right h h'
      have hb := hl.right
      rw [hr] at hb
      refine ⟨e1 x ++ p, c, q, by rw [hr]; simp, by simp only [List.length_append, h2]; omega, fun s hs => ?_, ?_⟩
      · rw [List.append_assoc, seq_at C1 x _ hx (hb.left.append (fun y hy => by rcases List.mem_cons.1 hy with rfl | hy; exact hb.right _ (by simp); exact hs y hy)), h3 s hs]
      · rw [seq_at C1 x _ hx hb.left, h4]
        simp only [List.length_append, Prod.mk.injEq, and_true]; omega
    · rw [seq_bad h1] at h h' ⊢
      obtain ⟨p, c, q, hr, h2, h3, h4⟩ := C1.wrong l hl h h'
      refine ⟨p, c, q, hr, h2, fun s hs => ?_, ?_⟩
      · rw [seq_bad (by rw [h3 s hs]; exact h1), h3 s hs]
      · rw [seq_bad (by rw [h4]; simp), h4]
  no8 := fun l hl => by
    by_cases h1 : (t1 l).2.2 = 0
    · obtain ⟨x, r, hx, rfl⟩ := C1.sound l hl h1
      rw [seq_at C1 x r hx hl.right]
      exact (C2 x hx).no8 r hl.right
    · rw [seq_bad h1]; exact C1.no8 l hl
end
section
variable {α : Type} {V : α → Prop} {enc : α → List Int} {take : List Int → α × Int × Int}
theorem Codec.nil (C : Codec V enc take) (x : α) (h : V x) : take (enc x) = (x, ((enc x).length : Int), 0) := by
  have := C.full x [] h Bytes.nil
  rwa [List.append_nil] at this
theorem Codec.end_full (C : Codec V enc take) (x : α) (h : V x) : endF (enc x).length (take (enc x)).2 = (((enc x).length : Int), 0) := by
  rw [C.nil x h]; simp [endF]
theorem Codec.end_ok (C : Codec V enc take) (l : List Int) (hl : Bytes l) (h : (endF l.length (take l).2).2 = 0) : ∃ x, V x ∧ l = enc x := by
  have h0 : (take l).2.2 = 0 := by
    unfold endF at h; split at h
    · simp at h
    · exact h
  obtain ⟨x, r, hx, rfl⟩ := C.sound l hl h0
  refine ⟨x, hx, ?_⟩
  rw [C.full x r hx hl.right] at h
  unfold endF at h
  split at h
  · simp at h
  · rename_i hn
    simp only [true_and, List.length_append, Int.not_lt] at hn
    cases r with
    | nil => simp
    | cons a r => simp only [List.length_cons] at hn; omega
theorem Codec.end_cut (C : Codec V enc take) (x : α) (k : Nat) (h : V x) (hk : k < (enc x).length) : endF ((enc x).take k).length (take ((enc x).take k)).2 = ((k : Int), 2) := by
  rw [C.cut x k h hk]; simp [endF]
theorem Codec.end_more (C : Codec V enc take) (x : α) (c : Int) (r : List Int) (h : V x) (hr : Bytes (c :: r)) : endF (enc x ++ c :: r).length (take (enc x ++ c :: r)).2 = (((enc x).length : Int), 8) := by
  rw [C.full x _ h hr]; simp only [endF, List.length_append, List.length_cons, true_and]; rw [if_pos (by omega)]
theorem Codec.end_short (C : Codec V enc take) (l : List Int) (hl : Bytes l) (h : (endF l.length (take l).2).2 = 0 ∨ (endF l.length (take l).2).2 = 2) : (endF l.length (take l).2).1 = l.length := by
  rcases h with h | h
  · obtain ⟨x, hx, rfl⟩ := C.end_ok l hl h
    rw [C.end_full x hx]
  · have h0 : (take l).2.2 = 2 := by
      unfold endF at h; split at h
      · simp at h
      · exact h
    have := C.short l hl h0
    unfold endF
    rw [if_neg (by rw [h0]; simp)]; exact this
theorem Codec.end_wrong (C : Codec V enc take) (l : List Int) (hl : Bytes l) (h : (endF l.length (take l).2).2 ≠ 0) (h' : (endF l.length (take l).2).2 ≠ 2) :
    ∃ p c q, l = p ++ c :: q ∧ (endF l.length (take l).2).1 = (p.length : Int) ∧ (∀ r, Bytes r → endF (p ++ c :: r).length (take (p ++ c :: r)).2 = endF l.length (take l).2) ∧ endF p.length (take p).2 = ((p.length : Int), if (endF l.length (take l).2).2 = 8 then 0 else 2) := by
  by_cases h0 : (take l).2.2 = 0
  · obtain ⟨x, r, hx, rfl⟩ := C.sound l hl h0
    cases r with
    | nil => exact absurd (by rw [List.append_nil, C.end_full x hx]) h
    | cons c q =>
      rw [C.end_more x c q hx hl.right]
      refine ⟨enc x, c, q, rfl, rfl, fun s hs => ?_, by rw [C.end_full x hx]; simp⟩
      exact C.end_more x c s hx (fun y hy => by rcases List.mem_cons.1 hy with rfl | hy; exact hl.right _ (by simp); exact hs y hy)
  · have e : ∀ (n : Nat) (s : Int × Int), s.2 ≠ 0 → endF n s = s := fun n s hs => by unfold endF; rw [if_neg (fun z => hs z.1)]
    rw [e _ _ h0] at h h' ⊢
    obtain ⟨p, c, q, hr, h2, h3, h4⟩ := C.wrong l hl h0 h'
    refine ⟨p, c, q, hr, h2, fun s hs => ?_, ?_⟩
    · rw [h3 s hs, e _ _ h0]
    · rw [h4, e _ _ (by simp), if_neg (C.no8 l hl)]
/-- None's bytes are a beginning of another one's. -/
theorem Codec.apart (C : Codec V enc take) (x y : α) (hx : V x) (hy : V y) (r : List Int) (h : enc x = enc y ++ r) : x = y := by
  have hb := C.bytes x hx
  rw [h] at hb
  have e1 := C.nil x hx
  rw [h, C.full y r hy hb.right] at e1
  exact (Prod.mk.inj e1).1.symm
theorem Codec.begin_ (C : Codec V enc take) (x y : α) (hx : V x) (hy : V y) (n : Nat) (hn : n = min (enc x).length (enc y).length) (h : (enc x).take n = (enc y).take n) : x = y := by
  by_cases hle : (enc x).length ≤ (enc y).length
  · rw [hn, Nat.min_eq_left hle, List.take_length] at h
    exact (C.apart y x hy hx ((enc y).drop (enc x).length) (by conv => lhs; rw [← List.take_append_drop (enc x).length (enc y)]
                                                               rw [← h])).symm
  · rw [hn, Nat.min_eq_right (by omega), List.take_length] at h
    exact C.apart x y hx hy ((enc x).drop (enc y).length) (by conv => lhs; rw [← List.take_append_drop (enc y).length (enc x)]
                                                              rw [h])
end
end Go.Proofs.YtmlhlcdamppbfaaDoor.Ext
namespace Go.Proofs.YtmlhlcdamppbfaaDoor.Ext
open Go.RowKit Go.Proofs.YtmlhlcdamppbfaaDoor.Xp Go.Proofs.YtmlhlcdamppbfaaDoorW.PrintWords Go.Proofs.YtmlhlcdamppbfaaDoorW.PrintLast Go.Proofs.YtmlhlcdamppbfaaDoorW.PrintMore
theorem gl_lt : ∀ (m i : Nat) (a : Int) (r : List Int), i ≤ 9 → (gl i a (put m ++ r)).2.2 = 0 → m * 2 ^ (7 * i) < 2 ^ 64 := by
  intro m
  induction m using Nat.strongRecOn with
  | _ m ih =>
    intro i a r hi h
    have hc : i = 0 ∨ i = 1 ∨ i = 2 ∨ i = 3 ∨ i = 4 ∨ i = 5 ∨ i = 6 ∨ i = 7 ∨ i = 8 ∨ i = 9 := by omega
    by_cases hs : m < 128
    · rw [put_small hs, List.singleton_append, gl] at h
      have h9 : i = 9 → m ≤ 1 := fun e => by
        apply Classical.byContradiction
        intro hm
        rw [if_pos (.inl ⟨e, by omega⟩)] at h
        simp at h
      rcases hc with rfl | rfl | rfl | rfl | rfl | rfl | rfl | rfl | rfl | rfl <;> simp only [Nat.reduceMul, Nat.reducePow] <;> first | omega | (have := h9 rfl; omega)
    · rw [put_great (by omega), List.cons_append, gl] at h
      have h9 : i ≠ 9 := fun e => by
        rw [if_pos (.inl ⟨e, by omega⟩)] at h
        simp at h
      rw [if_neg (by rintro (⟨h1, _⟩ | ⟨_, h2⟩) <;> omega), if_neg (by omega)] at h
      have := ih (m / 128) (by omega) (i + 1) _ r (by omega) h
      have hP : (2 : Nat) ^ 64 = 2 ^ (57 - 7 * i) * 2 ^ (7 * (i + 1)) := by rw [← Nat.pow_add]; congr 1; omega
      have hQ : (2 : Nat) ^ 64 = 2 ^ (57 - 7 * i) * 128 * 2 ^ (7 * i) := by rw [hP, show 7 * (i + 1) = 7 + 7 * i by omega, Nat.pow_add, Nat.mul_assoc]
      rw [hP] at this
      have hq := Nat.lt_of_mul_lt_mul_right this
      generalize 2 ^ (57 - 7 * i) = Q at *
      rw [hQ]
      exact Nat.mul_lt_mul_of_pos_right (by omega) (Nat.pow_pos (by omega))
theorem bytesOf_bytes (s : ByteArray) : Bytes (bytesOf s) := by
  intro x hx
  simp only [bytesOf, List.mem_map] at hx
  obtain ⟨b, _, rfl⟩ := hx
  have := b.toNat_lt
  omega
theorem strOf_bytesOf (s : ByteArray) : strOfNums (bytesOf s) = s := by
  apply ByteArray.ext
  simp only [strOfNums, bytesOf, List.map_map]
  apply Array.ext'
  simp only []
  conv => rhs; rw [← List.map_id s.data.toList]
  apply List.map_congr_left
  intro b _
  simp
theorem bytesOf_strOf (l : List Int) (h : Bytes l) : bytesOf (strOfNums l) = l := by
  simp only [strOfNums, bytesOf, List.map_map]
  conv => rhs; rw [← List.map_id l]
  apply List.map_congr_left
  intro b hb
  have := h b hb
  simp; omega
theorem size_strOf (l : List Int) (h : Bytes l) : (strOfNums l).size = l.length := by
  rw [← bytesOf_length, bytesOf_strOf l h]
theorem gl_codec : Codec (fun n : Int => 0 ≤ n ∧ n < 18446744073709551616) (fun n => put n.toNat) (gl 0 0) where
  bytes := fun n _ => put_bytes _
  full := fun n r h _ => by
    have := gl_put n.toNat 0 0 r (fun h => absurd h (by omega)) (by omega) (by simp; omega)
    simp only [Int.toNat_of_nonneg h.1, Nat.mul_zero] at this
    rw [this]; simp
  sound := fun l hl h => by
    obtain ⟨m, r, hm, _, _⟩ := gl_ok l 0 0 hl h
    subst hm
    have := gl_lt m 0 0 r (by omega) h
    exact ⟨m, r, ⟨by omega, by simp at this; omega⟩, by simp⟩
  cut := fun n k h hk => by
    have := gl_cut n.toNat 0 k 0 (fun h => absurd h (by omega)) (by omega) (by simp; omega) hk
    rw [this]; simp
  short := fun l _ h => by rw [gl_short l 0 0 h]; simp
  wrong := fun l _ h h' => by
    have h3 : (gl 0 0 l).2.2 = 3 := by rcases gl_errs l 0 0 with e | e | e <;> first | exact absurd e h | exact absurd e h' | exact e
    obtain ⟨p, c, q, hp, h1, h2⟩ := gl_form3 l 0 0 h3
    refine ⟨p, c, q, hp, ?_, fun r _ => ?_, ?_⟩
    · rw [hp, h1]; simp
    · rw [hp, h1, h1]
    · rw [h2]; simp
  no8 := fun l _ => by rcases gl_errs l 0 0 with e | e | e <;> rw [e] <;> decide
/-- One byte of some. -/
def byteT (b : Int → Bool) : List Int → Int × Int × Int
  | [] => (0, 0, 2)
  | c :: _ => if b c then (c, 1, 0) else (0, 0, 3)
theorem byte_codec (b : Int → Bool) (hb : ∀ c, b c = true → 0 ≤ c ∧ c < 256) : Codec (fun c => b c = true) (fun c => [c]) (byteT b) where
  bytes := fun c h => Bytes.one (hb c h).1 (hb c h).2
  full := fun c r h _ => by simp [byteT, h]
  sound := fun l _ h => by
    cases l with
    | nil => simp [byteT] at h
    | cons c r =>
      simp only [byteT] at h
      split at h
      · exact ⟨c, r, by assumption, rfl⟩
      · simp at h
  cut := fun c k _ hk => by
    have : k = 0 := by simp at hk; omega
    subst this; rfl
  short := fun l _ h => by
    cases l with
    | nil => rfl
    | cons c r => simp only [byteT] at h; split at h <;> simp at h
  wrong := fun l _ h h' => by
    cases l with
    | nil => simp [byteT] at h'
    | cons c r =>
      have hc : b c = false := by
        cases e : b c with
        | false => rfl
        | true => simp [byteT, e] at h
      exact ⟨[], c, r, rfl, by simp [byteT, hc], fun s _ => by simp [byteT, hc], rfl⟩
  no8 := fun l _ => by
    cases l with
    | nil => simp [byteT]
    | cons c r => simp only [byteT]; split <;> simp
/-- What is nothing. -/
theorem triv_codec {α : Type} (d : α) : Codec (fun x => x = d) (fun _ => []) (fun _ => (d, 0, 0)) where
  bytes := fun _ _ => Bytes.nil
  full := fun x r h _ => by simp [h]
  sound := fun l _ _ => ⟨d, l, rfl, rfl⟩
  cut := fun x k _ hk => by simp at hk
  short := fun l _ h => by simp at h
  wrong := fun l _ h => by simp at h
  no8 := fun l _ => by simp
/-- Read as something else. -/
theorem Codec.map {α β : Type} {V : α → Prop} {enc : α → List Int} {take : List Int → α × Int × Int} (C : Codec V enc take) (f : α → β) (V' : β → Prop) (enc' : β → List Int)
    (h1 : ∀ y, V' y → ∃ x, V x ∧ f x = y) (h2 : ∀ x, V x → V' (f x)) (h3 : ∀ x, V x → enc' (f x) = enc x) : Codec V' enc' (fun l => (f (take l).1, (take l).2)) where
  bytes := fun y h => by obtain ⟨x, hx, rfl⟩ := h1 y h; rw [h3 x hx]; exact C.bytes x hx
  full := fun y r h hr => by obtain ⟨x, hx, rfl⟩ := h1 y h; rw [h3 x hx, C.full x r hx hr]
  sound := fun l hl h => by obtain ⟨x, r, hx, hl⟩ := C.sound l hl h; exact ⟨f x, r, h2 x hx, by rw [h3 x hx]; exact hl⟩
  cut := fun y k h hk => by obtain ⟨x, hx, rfl⟩ := h1 y h; rw [h3 x hx] at hk ⊢; exact C.cut x k hx hk
  short := fun l hl h => C.short l hl h
  wrong := fun l hl h h' => C.wrong l hl h h'
  no8 := fun l hl => C.no8 l hl
theorem Codec.congr {α : Type} {V V' : α → Prop} {enc enc' : α → List Int} {take take' : List Int → α × Int × Int} (C : Codec V enc take) (h1 : ∀ y, V' y ↔ V y) (h3 : ∀ x, V x → enc' x = enc x) (h4 : ∀ l, take' l = take l) : Codec V' enc' take' := by
  have : take' = take := funext h4
  subst this
  exact C.map id V' enc' (fun y h => ⟨y, (h1 y).1 h, rfl⟩) (fun x h => (h1 x).2 h) h3
theorem bound_byte (m : Int) (l : List Int) (hl : Bytes l) : boundF m l = byteT (fun c => decide (0 ≤ c) && decide (c ≤ m) && decide (c < 256)) l := by
  cases l with
  | nil => rfl
  | cons c r =>
    have := hl c (by simp)
    simp only [boundF, byteT]
    by_cases h : m < c
    · rw [if_pos h, if_neg]; simp; omega
    · rw [if_neg h, if_pos]; simp; omega
/-- A codec's way to read may be another one where there are no bytes. -/
theorem Codec.on_bytes {α : Type} {V : α → Prop} {enc : α → List Int} {take take' : List Int → α × Int × Int} (C : Codec V enc take) (h4 : ∀ l, Bytes l → take' l = take l) : Codec V enc take' where
  bytes := C.bytes
  full := fun x r h hr => by rw [h4 _ ((C.bytes x h).append hr)]; exact C.full x r h hr
  sound := fun l hl h => by rw [h4 l hl] at h; exact C.sound l hl h
  cut := fun x k h hk => by rw [h4 _ ((C.bytes x h).take k)]; exact C.cut x k h hk
  short := fun l hl h => by rw [h4 l hl] at h ⊢; exact C.short l hl h
  wrong := fun l hl h h' => by
    rw [h4 l hl] at h h' ⊢
    obtain ⟨p, c, q, hr, h2, h3, h5⟩ := C.wrong l hl h h'
    have hb := hl
    rw [hr] at hb
    refine ⟨p, c, q, hr, h2, fun r hr2 => ?_, ?_⟩
    · rw [h4 _ (hb.left.append (fun y hy => by rcases List.mem_cons.1 hy with rfl | hy; exact hb.right _ (by simp); exact hr2 y hy))]; exact h3 r hr2
    · rw [h4 _ hb.left]; exact h5
  no8 := fun l hl => by rw [h4 l hl]; exact C.no8 l hl
theorem bound_codec (m : Int) (hm : m < 256) : Codec (fun c : Int => 0 ≤ c ∧ c ≤ m) (fun c => [c]) (boundF m) :=
  ((byte_codec (fun c => decide (0 ≤ c) && decide (c ≤ m) && decide (c < 256)) (fun c h => by simp at h; omega)).congr (V' := fun c : Int => 0 ≤ c ∧ c ≤ m) (enc' := fun c => [c]) (fun y => by simp; omega) (fun _ _ => rfl) (fun _ => rfl)).on_bytes (bound_byte m)
/-- The kind. -/
def kindT : List Int → Int × Int × Int := byteT (fun c => decide (1 ≤ c) && decide (c ≤ 14))
theorem kind_codec : Codec (fun c : Int => 1 ≤ c ∧ c ≤ 14) (fun c => [c]) kindT :=
  (byte_codec (fun c => decide (1 ≤ c) && decide (c ≤ 14)) (fun c h => by simp at h; omega)).congr (fun y => by simp) (fun _ _ => rfl) (fun _ => rfl)
/-- The fetch. -/
def idT (k : Int) (l : List Int) : Int × Int × Int :=
  if k = 1 ∨ k = 2 then boundF 0 l else if (gl 0 0 l).2.2 = 0 ∧ (gl 0 0 l).1 = 0 then (0, 0, 3) else gl 0 0 l
theorem put_zero : put 0 = [0] := by rw [put_small (by omega)]; rfl
/-- A number's bytes, 0 aside. -/
theorem nz_codec : Codec (fun n : Int => 1 ≤ n ∧ n < 18446744073709551616) (fun n => put n.toNat) (fun l => if (gl 0 0 l).2.2 = 0 ∧ (gl 0 0 l).1 = 0 then (0, 0, 3) else gl 0 0 l) where
  bytes := fun n _ => put_bytes _
  full := fun n r h hr => by
    have := gl_codec.full n r ⟨by omega, h.2⟩ hr
    rw [this, if_neg (by simp; omega)]
  sound := fun l hl h => by
    split at h
    · simp at h
    · rename_i hne
      obtain ⟨x, r, hx, hr⟩ := gl_codec.sound l hl h
      refine ⟨x, r, ⟨?_, hx.2⟩, hr⟩
      apply Classical.byContradiction
      intro h0
      have e := gl_codec.full x r hx (by rw [hr] at hl; exact hl.right)
      rw [hr, e] at hne
      exact hne ⟨rfl, by simp only []; omega⟩
  cut := fun n k h hk => by
    have := gl_codec.cut n k ⟨by omega, h.2⟩ hk
    rw [if_neg (by rw [this]; simp)]; exact this
  short := fun l hl h => by
    split at h
    · simp at h
    · rename_i hne
      rw [if_neg hne]; exact gl_codec.short l hl h
  wrong := fun l hl h h' => by
    split at h
    · rename_i hz
      rw [if_pos hz] at h'
      rw [if_pos hz]
      obtain ⟨x, r, hx, hr⟩ := gl_codec.sound l hl hz.1
      have e := gl_codec.full x r hx (by rw [hr] at hl; exact hl.right)
      rw [hr, e] at hz
      obtain rfl : x = 0 := hz.2
      simp only [Int.toNat_zero, put_zero, List.singleton_append] at hr
      refine ⟨[], 0, r, hr, rfl, fun s hs => ?_, rfl⟩
      have e2 := gl_codec.full 0 s ⟨by omega, by omega⟩ hs
      simp only [Int.toNat_zero, put_zero, List.singleton_append] at e2
      rw [List.nil_append, e2, if_pos ⟨rfl, rfl⟩]
    · rename_i hne
      rw [if_neg hne] at h' ⊢
      obtain ⟨p, c, q, hr, h2, h3, h5⟩ := gl_codec.wrong l hl h h'
      refine ⟨p, c, q, hr, h2, fun s hs => ?_, ?_⟩
      · rw [if_neg (by rw [h3 s hs]; exact fun z => h z.1)]; exact h3 s hs
      · rw [if_neg (by rw [h5]; simp)]; exact h5
  no8 := fun l hl => by
    split
    · simp
    · exact gl_codec.no8 l hl
theorem id_codec (k : Int) : Codec (fun n : Int => (if k = 1 ∨ k = 2 then n = 0 else 1 ≤ n) ∧ 0 ≤ n ∧ n < 18446744073709551616) (fun n => put n.toNat) (idT k) := by
  by_cases h : k = 1 ∨ k = 2
  · refine (bound_codec 0 (by omega)).congr (fun y => by rw [if_pos h]; omega) (fun x hx => ?_) (fun l => by unfold idT; rw [if_pos h])
    obtain rfl : x = 0 := by omega
    exact put_zero
  · exact nz_codec.congr (fun y => by rw [if_neg h]; omega) (fun _ _ => rfl) (fun l => by unfold idT; rw [if_neg h])
theorem put_split (n : Nat) : ∃ p c, put n = p ++ [c] ∧ p.length + 1 = (put n).length := by
  have h := put_pos n
  generalize put n = l at h
  have hne : l ≠ [] := fun e => by rw [e] at h; simp at h
  exact ⟨l.dropLast, l.getLast hne, (List.dropLast_concat_getLast hne).symm, by rw [List.length_dropLast]; omega⟩
theorem textF_at (m : Nat) (r : List Int) (hm : m < 18446744073709551616) (hr : Bytes r) : textF (put m ++ r) =
    if 4096 < (m : Int) then (⟨#[]⟩, ((put m).length : Int) - 1, 5) else if (r.length : Int) < m then (⟨#[]⟩, ((put m ++ r).length : Int), 2) else (strOfNums (r.take m), ((put m).length : Int) + m, 0) := by
  have e := gl_codec.full (m : Int) r ⟨by omega, by omega⟩ hr
  simp only [Int.toNat_natCast] at e
  unfold textF
  simp only [e, if_true]
  have e1 : (((put m ++ r).length : Int) - ((put m).length : Int) < (m : Int)) = ((r.length : Int) < m) := by rw [List.length_append]; apply propext; omega
  have e2 : ((put m ++ r).take (((put m).length : Int) + (m : Int)).toNat).drop ((put m).length : Int).toNat = r.take m := by
    rw [show (((put m).length : Int) + (m : Int)).toNat = (put m).length + m by omega, Int.toNat_natCast, List.take_length_add_append, List.drop_left]
  simp only [e1, e2]
theorem textB_bytes (s : ByteArray) : Bytes (textB s) := (put_bytes _).append (bytesOf_bytes s)
theorem text_codec : Codec (fun s : ByteArray => (s.size : Int) ≤ 4096) textB textF where
  bytes := fun s _ => textB_bytes s
  full := fun s r h hr => by
    unfold textB
    rw [List.append_assoc, textF_at _ _ (by omega) ((bytesOf_bytes s).append hr), if_neg (by omega), if_neg (by rw [List.length_append, bytesOf_length]; omega)]
    rw [← bytesOf_length s, List.take_left, strOf_bytesOf, List.length_append]; simp
  sound := fun l hl h => by
    have h0 : (gl 0 0 l).2.2 = 0 := by
      apply Classical.byContradiction
      intro hne
      unfold textF at h
      rw [if_neg hne] at h
      exact hne h
    obtain ⟨x, r, hx, rfl⟩ := gl_codec.sound l hl h0
    have hb := hl.right
    rw [textF_at _ _ (by omega) hb] at h
    split at h
    · simp at h
    · split at h
      · simp at h
      · rename_i h1 h2
        refine ⟨strOfNums (r.take x.toNat), r.drop x.toNat, ?_, ?_⟩
        · rw [size_strOf _ (hb.take _), List.length_take]; omega
        · unfold textB
          rw [size_strOf _ (hb.take _), bytesOf_strOf _ (hb.take _), List.length_take, Nat.min_eq_left (by omega), List.append_assoc, List.take_append_drop]
  cut := fun s k h hk => by
    unfold textB at hk ⊢
    by_cases hc : k < (put s.size).length
    · rw [List.take_append_of_le_length (by omega)]
      have := gl_codec.cut (s.size : Int) k ⟨by omega, by omega⟩ (by simpa using hc)
      simp only [Int.toNat_natCast] at this
      unfold textF
      rw [if_neg (by rw [this]; simp), this]
    · rw [List.length_append, bytesOf_length] at hk
      rw [List.take_append, List.take_of_length_le (by omega), textF_at _ _ (by omega) ((bytesOf_bytes s).take _), if_neg (by omega), if_pos (by rw [List.length_take, bytesOf_length]; omega)]
      simp only [List.length_append, List.length_take, bytesOf_length, Prod.mk.injEq, and_true]; omega
  short := fun l hl h => by
    by_cases h0 : (gl 0 0 l).2.2 = 0
    · obtain ⟨x, r, hx, rfl⟩ := gl_codec.sound l hl h0
      rw [textF_at _ _ (by omega) hl.right] at h ⊢
      split at h
      · simp at h
      · rename_i h1
        rw [if_neg h1]
        split at h
        · rename_i h2; rw [if_pos h2]
        · simp at h
    · unfold textF at h ⊢
      rw [if_neg h0] at h ⊢
      exact gl_codec.short l hl h
  wrong := fun l hl h h' => by
    by_cases h0 : (gl 0 0 l).2.2 = 0
    · obtain ⟨x, r, hx, rfl⟩ := gl_codec.sound l hl h0
      have hb := hl.right
      rw [textF_at _ _ (by omega) hb] at h h' ⊢
      split at h
      · rename_i h1
        rw [if_pos h1]
        obtain ⟨p, c, hsp, hlen⟩ := put_split x.toNat
        refine ⟨p, c, r, by rw [hsp]; simp, by simp only []; omega, fun s hs => ?_, ?_⟩
        · rw [show p ++ c :: s = put x.toNat ++ s by rw [hsp]; simp, textF_at _ _ (by omega) hs, if_pos h1]
        · have hcut := gl_codec.cut x p.length hx (by omega)
          rw [hsp, List.take_left] at hcut
          unfold textF
          rw [if_neg (by rw [hcut]; simp), hcut]
      · rename_i h1
        rw [if_neg h1] at h'
        split at h
        · rename_i h2
          rw [if_pos h2] at h'
          simp at h'
        · simp at h
    · have e : (textF l).2 = (gl 0 0 l).2 := by unfold textF; rw [if_neg h0]
      rw [e] at h h' ⊢
      obtain ⟨p, c, q, hr, h2, h3, h5⟩ := gl_codec.wrong l hl h h'
      refine ⟨p, c, q, hr, h2, fun s hs => ?_, ?_⟩
      · unfold textF
        rw [if_neg (by rw [h3 s hs]; exact h)]; exact h3 s hs
      · unfold textF
        rw [if_neg (by rw [h5]; simp)]; exact h5
  no8 := fun l hl => by
    unfold textF
    split
    · split
      · simp
      · split <;> simp
    · exact gl_codec.no8 l hl
/-- A text, where the kind has one. -/
def oT (b : Bool) (l : List Int) : ByteArray × Int × Int := if b then textF l else (⟨#[]⟩, 0, 0)
theorem oT_codec (b : Bool) : Codec (fun s : ByteArray => if b then (s.size : Int) ≤ 4096 else s = ⟨#[]⟩) (fun s => if b then textB s else []) (oT b) := by
  cases b with
  | true => exact text_codec.congr (fun _ => by simp) (fun _ _ => by simp) (fun _ => by simp [oT])
  | false => exact (triv_codec (⟨#[]⟩ : ByteArray)).congr (fun _ => by simp) (fun _ _ => by simp) (fun _ => by simp [oT])
/-- A number below another one, where the kind has one. -/
def belT (m : Int) (l : List Int) : Int × Int × Int :=
  if m ≤ 256 then boundF (m - 1) l
  else (fun l => ((fun p : Int × Int => p.1 * 256 + p.2) (seqT (boundF ((m - 1) / 256)) 0 (fun h => boundF (if h = (m - 1) / 256 then (m - 1) % 256 else 255)) l).1, (seqT (boundF ((m - 1) / 256)) 0 (fun h => boundF (if h = (m - 1) / 256 then (m - 1) % 256 else 255)) l).2)) l
theorem bel_codec (m : Int) (h0 : 0 < m) (h1 : m ≤ 65536) : Codec (fun n : Int => 0 ≤ n ∧ n < m) (fun n => numB m n) (belT m) := by
  by_cases h : m ≤ 256
  · refine (bound_codec (m - 1) (by omega)).congr (fun y => by omega) (fun x hx => ?_) (fun l => by unfold belT; rw [if_pos h])
    unfold numB
    rw [if_neg (by omega), if_pos h0, List.nil_append, Int.emod_eq_of_lt (by omega) (by omega)]
  · have C := (bound_codec ((m - 1) / 256) (by omega)).seq 0 (t2 := fun h => boundF (if h = (m - 1) / 256 then (m - 1) % 256 else 255)) (fun x hx => bound_codec (if x = (m - 1) / 256 then (m - 1) % 256 else 255) (by split <;> omega))
    refine (C.map (fun p : Int × Int => p.1 * 256 + p.2) (fun n : Int => 0 ≤ n ∧ n < m) (fun n => numB m n) (fun y hy => ⟨(y / 256, y % 256), ⟨⟨by simp only []; omega, by simp only []; omega⟩, by simp only []; omega, by simp only []; split <;> omega⟩, by simp only []; omega⟩) ?_ ?_).congr (fun _ => Iff.rfl) (fun _ _ => rfl) (fun l => by unfold belT; rw [if_neg h])
    · rintro ⟨a, b⟩ ⟨⟨p, q⟩, r, s⟩
      simp only at *
      split at s <;> omega
    · rintro ⟨a, b⟩ ⟨⟨p, q⟩, r, s⟩
      simp only at *
      have hb : b < 256 := by split at s <;> omega
      unfold numB
      rw [if_pos (by omega), if_pos h0, show (a * 256 + b) / 256 = a by omega, show (a * 256 + b) % 256 = b by omega, Int.emod_eq_of_lt (by omega) (by omega)]
def onT (m : Int) (l : List Int) : Int × Int × Int := if 0 < m then belT m l else (0, 0, 0)
theorem on_codec (m : Int) (h1 : m ≤ 65536) : Codec (fun n : Int => if 0 < m then 0 ≤ n ∧ n < m else n = 0) (fun n => if 0 < m then numB m n else []) (onT m) := by
  by_cases h : 0 < m
  · exact (bel_codec m h h1).congr (fun _ => by rw [if_pos h]) (fun _ _ => by rw [if_pos h]) (fun _ => by unfold onT; rw [if_pos h])
  · exact (triv_codec (0 : Int)).congr (fun _ => by rw [if_neg h]) (fun _ _ => by rw [if_neg h]) (fun _ => by unfold onT; rw [if_neg h])
end Go.Proofs.YtmlhlcdamppbfaaDoor.Ext
namespace Go.Proofs.YtmlhlcdamppbfaaDoor.Ext
open Go.RowKit Go.Proofs.YtmlhlcdamppbfaaDoor.Xp Go.Proofs.YtmlhlcdamppbfaaDoorW.PrintWords Go.Proofs.YtmlhlcdamppbfaaDoorW.PrintLast Go.Proofs.YtmlhlcdamppbfaaDoorW.PrintMore
abbrev Nums := Int × Int × Int
abbrev Txts := ByteArray × ByteArray × ByteArray × ByteArray × Nums
abbrev Ev := Int × Int × Int × Txts
abbrev E0 : ByteArray := ⟨#[]⟩
def zN : Nums := (0, 0, 0)
def numsT (k : Int) : List Int → Nums × Int × Int := seqT (onT (TN k 0)) (0, 0) (fun _ => seqT (onT (TN k 1)) 0 (fun _ => onT (TN k 2)))
def txtsT (k : Int) : List Int → Txts × Int × Int :=
  seqT (oT (decide (0 < T0 k))) (E0, E0, E0, zN) (fun _ => seqT (oT (decide (1 < T0 k))) (E0, E0, zN) (fun _ => seqT (oT (decide (2 < T0 k))) (E0, zN) (fun _ => seqT (oT (decide (3 < T0 k))) zN (fun _ => numsT k))))
def zT : Txts := (E0, E0, E0, E0, zN)
def evT : List Int → Ev × Int × Int := seqT kindT (0, 0, zT) (fun k => seqT (gl 0 0) (0, zT) (fun _ => seqT (idT k) zT (fun _ => txtsT k)))
def zE : Ev := (0, 0, 0, zT)
theorem eachF_skip {α : Type} {t : List Int → α × Int × Int} {d : α} {l : List Int} {p e : Int} (h : e ≠ 0) : eachF t d l p e = (d, p, e) := if_neg h
theorem eachF_at {α : Type} {t : List Int → α × Int × Int} {d : α} {l : List Int} {p : Int} (h : (t (l.drop p.toNat)).2.2 = 0) : eachF t d l p 0 = ((t (l.drop p.toNat)).1, p + (t (l.drop p.toNat)).2.1, 0) := by
  unfold eachF; rw [if_pos rfl, if_pos h]
theorem eachF_bad {α : Type} {t : List Int → α × Int × Int} {d : α} {l : List Int} {p : Int} (h : (t (l.drop p.toNat)).2.2 ≠ 0) : eachF t d l p 0 = (d, p + (t (l.drop p.toNat)).2.1, (t (l.drop p.toNat)).2.2) := by
  unfold eachF; rw [if_pos rfl, if_neg h]
theorem eachF_two {α : Type} (t : List Int → α × Int × Int) (d : α) (l : List Int) (p : Int) : (eachF t d l p 0).2 = (p + (t (l.drop p.toNat)).2.1, (t (l.drop p.toNat)).2.2) := by
  by_cases h : (t (l.drop p.toNat)).2.2 = 0
  · rw [eachF_at h, h]
  · rw [eachF_bad h]
theorem eachF_triv {α : Type} (d : α) (l : List Int) (p e : Int) : eachF (fun _ => (d, 0, 0)) d l p e = (d, p, e) := by
  unfold eachF
  split
  · rename_i h; simp [h]
  · rfl
section
variable {α β : Type} {t1 : List Int → α × Int × Int} {t2 : α → List Int → β × Int × Int} {d2 : β} (d1 : α) (d : α × β) (e2 : β)
/-- What is read one behind the other is read one by one. -/
theorem eachF_seq (l : List Int) (p e : Int) (hp : e = 0 → 0 ≤ p) (h1 : (t1 (l.drop p.toNat)).2.2 = 0 → 0 ≤ (t1 (l.drop p.toNat)).2.1) :
    (eachF (seqT t1 d2 t2) d l p e).2 = (eachF (t2 (eachF t1 d1 l p e).1) e2 l (eachF t1 d1 l p e).2.1 (eachF t1 d1 l p e).2.2).2 ∧
    ((eachF (t2 (eachF t1 d1 l p e).1) e2 l (eachF t1 d1 l p e).2.1 (eachF t1 d1 l p e).2.2).2.2 = 0 →
      (eachF (seqT t1 d2 t2) d l p e).1 = ((eachF t1 d1 l p e).1, (eachF (t2 (eachF t1 d1 l p e).1) e2 l (eachF t1 d1 l p e).2.1 (eachF t1 d1 l p e).2.2).1)) := by
  by_cases he : e = 0
  · subst he
    by_cases h : (t1 (l.drop p.toNat)).2.2 = 0
    · have h0 := h1 h
      have hp := hp rfl
      have hs : seqT t1 d2 t2 (l.drop p.toNat) = (((t1 (l.drop p.toNat)).1, (t2 (t1 (l.drop p.toNat)).1 (l.drop (p + (t1 (l.drop p.toNat)).2.1).toNat)).1), (t1 (l.drop p.toNat)).2.1 + (t2 (t1 (l.drop p.toNat)).1 (l.drop (p + (t1 (l.drop p.toNat)).2.1).toNat)).2.1, (t2 (t1 (l.drop p.toNat)).1 (l.drop (p + (t1 (l.drop p.toNat)).2.1).toNat)).2.2) := by
        unfold seqT
        rw [if_pos h, List.drop_drop, show p.toNat + (t1 (l.drop p.toNat)).2.1.toNat = (p + (t1 (l.drop p.toNat)).2.1).toNat by omega]
      rw [eachF_two, eachF_at h, hs]
      simp only []
      rw [eachF_two]
      refine ⟨by rw [Int.add_assoc], fun hz => ?_⟩
      rw [eachF_at (by rw [hs]; exact hz), eachF_at hz, hs]
    · have hs : seqT t1 d2 t2 (l.drop p.toNat) = (((t1 (l.drop p.toNat)).1, d2), (t1 (l.drop p.toNat)).2) := seq_bad h
      rw [eachF_two, eachF_bad h, hs]
      simp only []
      rw [eachF_skip h]
      exact ⟨rfl, fun hz => absurd hz h⟩
  · rw [eachF_skip he, eachF_skip he]
    simp only []
    rw [eachF_skip he]
    exact ⟨rfl, fun hz => absurd hz he⟩
end
theorem Codec.ge {α : Type} {V : α → Prop} {enc : α → List Int} {take : List Int → α × Int × Int} (C : Codec V enc take) {l : List Int} (hl : Bytes l) (h : (take l).2.2 = 0) : 0 ≤ (take l).2.1 := by
  obtain ⟨x, r, hx, rfl⟩ := C.sound l hl h
  rw [C.full x r hx hl.right]; simp only []; omega
theorem Codec.each_ge {α : Type} {V : α → Prop} {enc : α → List Int} {take : List Int → α × Int × Int} (C : Codec V enc take) {l : List Int} (hl : Bytes l) (d : α) {p e : Int} (hp : e = 0 → 0 ≤ p) (h : (eachF take d l p e).2.2 = 0) : 0 ≤ (eachF take d l p e).2.1 := by
  by_cases he : e = 0
  · subst he
    rw [eachF_two] at h ⊢
    have := C.ge (hl.drop p.toNat) h
    have hp := hp rfl
    simp only []; omega
  · rw [eachF_skip he] at h; exact absurd h he
theorem TN_le (k : Int) (i : Nat) : TN k i ≤ 65536 := by
  unfold TN
  have h : ∀ n : Fin 60, tab.getD n.val 0 ≤ 65536 := by decide +kernel
  by_cases hn : k.toNat * 4 + (i + 1) < 60
  · exact h ⟨_, hn⟩
  · rw [List.getD_eq_getElem?_getD, List.getElem?_eq_none (by simp [tab]; omega)]; decide
/-- What is valid, and its bytes. -/
def numsV (k : Int) (n : Nums) : Prop := (if 0 < TN k 0 then 0 ≤ n.1 ∧ n.1 < TN k 0 else n.1 = 0) ∧ (if 0 < TN k 1 then 0 ≤ n.2.1 ∧ n.2.1 < TN k 1 else n.2.1 = 0) ∧ (if 0 < TN k 2 then 0 ≤ n.2.2 ∧ n.2.2 < TN k 2 else n.2.2 = 0)
def numsE (k : Int) (n : Nums) : List Int := (if 0 < TN k 0 then numB (TN k 0) n.1 else []) ++ ((if 0 < TN k 1 then numB (TN k 1) n.2.1 else []) ++ (if 0 < TN k 2 then numB (TN k 2) n.2.2 else []))
def oV (b : Bool) (s : ByteArray) : Prop := if b then (s.size : Int) ≤ 4096 else s = ⟨#[]⟩
def oE (b : Bool) (s : ByteArray) : List Int := if b then textB s else []
def txtsV (k : Int) (n : Txts) : Prop := oV (decide (0 < T0 k)) n.1 ∧ oV (decide (1 < T0 k)) n.2.1 ∧ oV (decide (2 < T0 k)) n.2.2.1 ∧ oV (decide (3 < T0 k)) n.2.2.2.1 ∧ numsV k n.2.2.2.2
def txtsE (k : Int) (n : Txts) : List Int := oE (decide (0 < T0 k)) n.1 ++ (oE (decide (1 < T0 k)) n.2.1 ++ (oE (decide (2 < T0 k)) n.2.2.1 ++ (oE (decide (3 < T0 k)) n.2.2.2.1 ++ numsE k n.2.2.2.2)))
def evV (n : Ev) : Prop := (1 ≤ n.1 ∧ n.1 ≤ 14) ∧ (0 ≤ n.2.1 ∧ n.2.1 < 18446744073709551616) ∧ ((if n.1 = 1 ∨ n.1 = 2 then n.2.2.1 = 0 else 1 ≤ n.2.2.1) ∧ 0 ≤ n.2.2.1 ∧ n.2.2.1 < 18446744073709551616) ∧ txtsV n.1 n.2.2.2
def evE (n : Ev) : List Int := [n.1] ++ (put n.2.1.toNat ++ (put n.2.2.1.toNat ++ txtsE n.1 n.2.2.2))
theorem nums_codec (k : Int) : Codec (numsV k) (numsE k) (numsT k) := by
  have c1 := (on_codec (TN k 1) (TN_le k 1)).seq (0 : Int) (fun x _ => on_codec (TN k 2) (TN_le k 2))
  exact (on_codec (TN k 0) (TN_le k 0)).seq (0, 0) (fun _ _ => c1)
theorem txts_codec (k : Int) : Codec (txtsV k) (txtsE k) (txtsT k) := by
  have c3 := (oT_codec (decide (3 < T0 k))).seq zN (fun _ _ => nums_codec k)
  have c2 := (oT_codec (decide (2 < T0 k))).seq (E0, zN) (fun _ _ => c3)
  have c1 := (oT_codec (decide (1 < T0 k))).seq (E0, E0, zN) (fun _ _ => c2)
  exact (oT_codec (decide (0 < T0 k))).seq (E0, E0, E0, zN) (fun _ _ => c1)
theorem ev_codec : Codec evV evE evT := by
  have i := fun k : Int => (id_codec k).seq zT (fun _ _ => txts_codec k)
  have t := fun k : Int => gl_codec.seq (0, zT) (fun _ _ => i k)
  exact kind_codec.seq (0, 0, zT) (fun k _ => t k)
end Go.Proofs.YtmlhlcdamppbfaaDoor.Ext
set_option linter.unusedVariables false
namespace Go.Proofs.YtmlhlcdamppbfaaDoor.Ext
open Go.RowKit Go.Proofs.YtmlhlcdamppbfaaDoor.Xp Go.Proofs.YtmlhlcdamppbfaaDoorW.PrintWords Go.Proofs.YtmlhlcdamppbfaaDoorW.PrintLast Go.Proofs.YtmlhlcdamppbfaaDoorW.PrintMore
def X0 (l : List Int) := eachF kindT 0 l 0 0
def X1 (l : List Int) := eachF (gl 0 0) 0 l (X0 l).2.1 (X0 l).2.2
def X2 (l : List Int) := eachF (idT (X0 l).1) 0 l (X1 l).2.1 (X1 l).2.2
def X3 (l : List Int) := eachF (oT (decide (0 < T0 (X0 l).1))) E0 l (X2 l).2.1 (X2 l).2.2
def X4 (l : List Int) := eachF (oT (decide (1 < T0 (X0 l).1))) E0 l (X3 l).2.1 (X3 l).2.2
def X5 (l : List Int) := eachF (oT (decide (2 < T0 (X0 l).1))) E0 l (X4 l).2.1 (X4 l).2.2
def X6 (l : List Int) := eachF (oT (decide (3 < T0 (X0 l).1))) E0 l (X5 l).2.1 (X5 l).2.2
def X7 (l : List Int) := eachF (onT (TN (X0 l).1 0)) 0 l (X6 l).2.1 (X6 l).2.2
def X8 (l : List Int) := eachF (onT (TN (X0 l).1 1)) 0 l (X7 l).2.1 (X7 l).2.2
def X9 (l : List Int) := eachF (onT (TN (X0 l).1 2)) 0 l (X8 l).2.1 (X8 l).2.2
theorem X0_ge {l : List Int} (hl : Bytes l) : (X0 l).2.2 = 0 → 0 ≤ (X0 l).2.1 := fun h => kind_codec.each_ge hl _ (fun _ => Int.le_refl _) h
theorem X1_ge {l : List Int} (hl : Bytes l) : (X1 l).2.2 = 0 → 0 ≤ (X1 l).2.1 := fun h => gl_codec.each_ge hl _ (X0_ge hl) h
theorem X2_ge {l : List Int} (hl : Bytes l) : (X2 l).2.2 = 0 → 0 ≤ (X2 l).2.1 := fun h => (id_codec _).each_ge hl _ (X1_ge hl) h
theorem X3_ge {l : List Int} (hl : Bytes l) : (X3 l).2.2 = 0 → 0 ≤ (X3 l).2.1 := fun h => (oT_codec _).each_ge hl _ (X2_ge hl) h
theorem X4_ge {l : List Int} (hl : Bytes l) : (X4 l).2.2 = 0 → 0 ≤ (X4 l).2.1 := fun h => (oT_codec _).each_ge hl _ (X3_ge hl) h
theorem X5_ge {l : List Int} (hl : Bytes l) : (X5 l).2.2 = 0 → 0 ≤ (X5 l).2.1 := fun h => (oT_codec _).each_ge hl _ (X4_ge hl) h
theorem X6_ge {l : List Int} (hl : Bytes l) : (X6 l).2.2 = 0 → 0 ≤ (X6 l).2.1 := fun h => (oT_codec _).each_ge hl _ (X5_ge hl) h
theorem X7_ge {l : List Int} (hl : Bytes l) : (X7 l).2.2 = 0 → 0 ≤ (X7 l).2.1 := fun h => (on_codec _ (TN_le _ _)).each_ge hl _ (X6_ge hl) h
theorem X8_ge {l : List Int} (hl : Bytes l) : (X8 l).2.2 = 0 → 0 ≤ (X8 l).2.1 := fun h => (on_codec _ (TN_le _ _)).each_ge hl _ (X7_ge hl) h
theorem X9_ge {l : List Int} (hl : Bytes l) : (X9 l).2.2 = 0 → 0 ≤ (X9 l).2.1 := fun h => (on_codec _ (TN_le _ _)).each_ge hl _ (X8_ge hl) h
theorem chain {l : List Int} (hl : Bytes l) : (evT l).2 = (X9 l).2 ∧ ((X9 l).2.2 = 0 → (evT l).1 = ((X0 l).1, (X1 l).1, (X2 l).1, (X3 l).1, (X4 l).1, (X5 l).1, (X6 l).1, (X7 l).1, (X8 l).1, (X9 l).1)) := by
  have z : (eachF evT zE l 0 0).2 = (evT l).2 := by rw [eachF_two]; simp
  have a0 := eachF_seq (t1 := kindT) (d2 := (0, 0, zT)) (t2 := (fun k => seqT (gl 0 0) (0, zT) (fun _ => seqT (idT k) zT (fun _ => txtsT k)))) 0 zE (0, 0, zT) l 0 0 (fun _ => Int.le_refl _) (fun h => kind_codec.ge (hl.drop _) h)
  have a1 := eachF_seq (t1 := (gl 0 0)) (d2 := (0, zT)) (t2 := (fun _ => seqT (idT (X0 l).1) zT (fun _ => txtsT (X0 l).1))) 0 (0, 0, zT) (0, zT) l (X0 l).2.1 (X0 l).2.2 (X0_ge hl) (fun h => gl_codec.ge (hl.drop _) h)
  have a2 := eachF_seq (t1 := (idT (X0 l).1)) (d2 := zT) (t2 := (fun _ => txtsT (X0 l).1)) 0 (0, zT) zT l (X1 l).2.1 (X1 l).2.2 (X1_ge hl) (fun h => (id_codec _).ge (hl.drop _) h)
  have a3 := eachF_seq (t1 := (oT (decide (0 < T0 (X0 l).1)))) (d2 := (E0, E0, E0, zN)) (t2 := (fun _ => seqT (oT (decide (1 < T0 (X0 l).1))) (E0, E0, zN) (fun _ => seqT (oT (decide (2 < T0 (X0 l).1))) (E0, zN) (fun _ => seqT (oT (decide (3 < T0 (X0 l).1))) zN (fun _ => numsT (X0 l).1))))) E0 zT (E0, E0, E0, zN) l (X2 l).2.1 (X2 l).2.2 (X2_ge hl) (fun h => (oT_codec _).ge (hl.drop _) h)
  have a4 := eachF_seq (t1 := (oT (decide (1 < T0 (X0 l).1)))) (d2 := (E0, E0, zN)) (t2 := (fun _ => seqT (oT (decide (2 < T0 (X0 l).1))) (E0, zN) (fun _ => seqT (oT (decide (3 < T0 (X0 l).1))) zN (fun _ => numsT (X0 l).1)))) E0 (E0, E0, E0, zN) (E0, E0, zN) l (X3 l).2.1 (X3 l).2.2 (X3_ge hl) (fun h => (oT_codec _).ge (hl.drop _) h)
  have a5 := eachF_seq (t1 := (oT (decide (2 < T0 (X0 l).1)))) (d2 := (E0, zN)) (t2 := (fun _ => seqT (oT (decide (3 < T0 (X0 l).1))) zN (fun _ => numsT (X0 l).1))) E0 (E0, E0, zN) (E0, zN) l (X4 l).2.1 (X4 l).2.2 (X4_ge hl) (fun h => (oT_codec _).ge (hl.drop _) h)
  have a6 := eachF_seq (t1 := (oT (decide (3 < T0 (X0 l).1)))) (d2 := zN) (t2 := (fun _ => numsT (X0 l).1)) E0 (E0, zN) zN l (X5 l).2.1 (X5 l).2.2 (X5_ge hl) (fun h => (oT_codec _).ge (hl.drop _) h)
  have a7 := eachF_seq (t1 := (onT (TN (X0 l).1 0))) (d2 := (0, 0)) (t2 := (fun _ => seqT (onT (TN (X0 l).1 1)) 0 (fun _ => onT (TN (X0 l).1 2)))) 0 zN (0, 0) l (X6 l).2.1 (X6 l).2.2 (X6_ge hl) (fun h => (on_codec _ (TN_le _ _)).ge (hl.drop _) h)
  have a8 := eachF_seq (t1 := (onT (TN (X0 l).1 1))) (d2 := 0) (t2 := (fun _ => onT (TN (X0 l).1 2))) 0 (0, 0) 0 l (X7 l).2.1 (X7 l).2.2 (X7_ge hl) (fun h => (on_codec _ (TN_le _ _)).ge (hl.drop _) h)
  have b8 := a8.1
  have b7 := a7.1.trans b8
  have b6 := a6.1.trans b7
  have b5 := a5.1.trans b6
  have b4 := a4.1.trans b5
  have b3 := a3.1.trans b4
  have b2 := a2.1.trans b3
  have b1 := a1.1.trans b2
  have b0 := a0.1.trans b1
  refine ⟨z.symm.trans b0, fun h => ?_⟩
  have h' : (evT l).2.2 = 0 := by rw [z.symm.trans b0]; exact h
  have y : (eachF evT zE l 0 0).1 = (evT l).1 := by rw [eachF_at (by simpa using h')]; simp
  have c8 := a8.2 h
  have c7 := (a7.2 ((congrArg Prod.snd b8).trans h)).trans (congrArg (Prod.mk _) c8)
  have c6 := (a6.2 ((congrArg Prod.snd b7).trans h)).trans (congrArg (Prod.mk _) c7)
  have c5 := (a5.2 ((congrArg Prod.snd b6).trans h)).trans (congrArg (Prod.mk _) c6)
  have c4 := (a4.2 ((congrArg Prod.snd b5).trans h)).trans (congrArg (Prod.mk _) c5)
  have c3 := (a3.2 ((congrArg Prod.snd b4).trans h)).trans (congrArg (Prod.mk _) c4)
  have c2 := (a2.2 ((congrArg Prod.snd b3).trans h)).trans (congrArg (Prod.mk _) c3)
  have c1 := (a1.2 ((congrArg Prod.snd b2).trans h)).trans (congrArg (Prod.mk _) c2)
  have c0 := (a0.2 ((congrArg Prod.snd b1).trans h)).trans (congrArg (Prod.mk _) c1)
  exact y.symm.trans c0
theorem kind_is {l : List Int} (hl : Bytes l) : (X0 l).2 = (kindF l).2 ∧ ((X0 l).2.2 = 0 → X0 l = kindF l) := by
  unfold X0 kindF
  cases l with
  | nil => simp [eachF, kindT, byteT, boundF]
  | cons c r =>
    have hc := hl c (by simp)
    by_cases h1 : 14 < c
    · have e1 : ¬ c ≤ 14 := by omega
      simp [eachF, kindT, byteT, boundF, h1, e1]
    · have e1 : c ≤ 14 := by omega
      by_cases h2 : 1 ≤ c
      · simp [eachF, kindT, byteT, boundF, h1, e1, h2]
      · simp [eachF, kindT, byteT, boundF, h1, e1, h2]
theorem idF_each (k : Int) (l : List Int) (p e : Int) : idF k l p e = eachF (idT k) 0 l p e := by
  unfold idF idT
  by_cases h : k = 1 ∨ k = 2
  · rw [if_pos h]; congr; funext l; rw [if_pos h]
  · rw [if_neg h]
    have e1 : (fun l => if k = 1 ∨ k = 2 then boundF 0 l else if (gl 0 0 l).2.2 = 0 ∧ (gl 0 0 l).1 = 0 then (0, 0, 3) else gl 0 0 l) = (fun l => if (gl 0 0 l).2.2 = 0 ∧ (gl 0 0 l).1 = 0 then (0, 0, 3) else gl 0 0 l) := by funext l; rw [if_neg h]
    show _ = eachF (fun l => if k = 1 ∨ k = 2 then boundF 0 l else if (gl 0 0 l).2.2 = 0 ∧ (gl 0 0 l).1 = 0 then (0, 0, 3) else gl 0 0 l) 0 l p e
    rw [e1]
    by_cases he : e = 0
    · subst he
      by_cases hg : (gl 0 0 (l.drop p.toNat)).2.2 = 0
      · rw [eachF_at hg]
        by_cases hz : (gl 0 0 (l.drop p.toNat)).1 = 0
        · rw [if_pos ⟨rfl, hz⟩, eachF_bad (by rw [if_pos ⟨hg, hz⟩]; decide), if_pos ⟨hg, hz⟩]; simp
        · rw [if_neg (fun z => hz z.2), eachF_at (by rw [if_neg (fun z => hz z.2)]; exact hg), if_neg (fun z => hz z.2)]
      · rw [eachF_bad hg, if_neg (fun z => hg z.1), eachF_bad (by rw [if_neg (fun z => hg z.1)]; exact hg), if_neg (fun z => hg z.1)]
    · rw [eachF_skip he, eachF_skip he, if_neg (fun z => he z.1)]
theorem eachF_map {α β : Type} (f : α → β) (t : List Int → α × Int × Int) (d : α) (d' : β) (l : List Int) (p e : Int) : (eachF (fun l => (f (t l).1, (t l).2)) d' l p e).2 = (eachF t d l p e).2 ∧ ((eachF t d l p e).2.2 = 0 → (eachF (fun l => (f (t l).1, (t l).2)) d' l p e).1 = f (eachF t d l p e).1) := by
  by_cases he : e = 0
  · subst he
    by_cases h : (t (l.drop p.toNat)).2.2 = 0
    · rw [eachF_at h, eachF_at (by exact h)]; exact ⟨rfl, fun _ => rfl⟩
    · rw [eachF_bad h, eachF_bad (by exact h)]; exact ⟨rfl, fun z => absurd z h⟩
  · rw [eachF_skip he, eachF_skip he]; exact ⟨rfl, fun z => absurd z he⟩
theorem belowF_each (m : Int) (hm : 0 < m) (hm1 : m ≤ 65536) {l : List Int} (hl : Bytes l) (p e : Int) (hp : e = 0 → 0 ≤ p) : (belowF m l p e).2 = (eachF (belT m) 0 l p e).2 ∧ ((eachF (belT m) 0 l p e).2.2 = 0 → (belowF m l p e).1 = (eachF (belT m) 0 l p e).1) := by
  unfold belowF
  by_cases h : m ≤ 256
  · have e1 : belT m = boundF (m - 1) := by funext l; unfold belT; rw [if_pos h]
    rw [if_pos h, e1]; exact ⟨rfl, fun _ => rfl⟩
  · have e1 : belT m = (fun l => ((fun p : Int × Int => p.1 * 256 + p.2) (seqT (boundF ((m - 1) / 256)) 0 (fun h => boundF (if h = (m - 1) / 256 then (m - 1) % 256 else 255)) l).1, (seqT (boundF ((m - 1) / 256)) 0 (fun h => boundF (if h = (m - 1) / 256 then (m - 1) % 256 else 255)) l).2)) := by
      funext l; unfold belT; rw [if_neg h]
    rw [if_neg h, e1]
    have a := eachF_map (fun p : Int × Int => p.1 * 256 + p.2) (seqT (boundF ((m - 1) / 256)) 0 (fun h => boundF (if h = (m - 1) / 256 then (m - 1) % 256 else 255))) (0, 0) 0 l p e
    have b := eachF_seq (t1 := boundF ((m - 1) / 256)) (d2 := 0) (t2 := fun h => boundF (if h = (m - 1) / 256 then (m - 1) % 256 else 255)) 0 (0, 0) 0 l p e hp (fun _ => (boundF_range _ _).1)
    refine ⟨(a.1.trans b.1).symm, fun hz => ?_⟩
    have hz' := hz
    rw [a.1] at hz'
    rw [a.2 hz', b.2 (by rw [← b.1]; exact hz')]
theorem T0_cases (k : Int) : T0 k = 0 ∨ T0 k = 1 ∨ T0 k = 2 ∨ T0 k = 4 := by
  by_cases h : k.toNat < 15
  · unfold T0
    generalize k.toNat = n at *
    have : ∀ n : Fin 15, tab.getD (n.val * 4) 0 = 0 ∨ tab.getD (n.val * 4) 0 = 1 ∨ tab.getD (n.val * 4) 0 = 2 ∨ tab.getD (n.val * 4) 0 = 4 := by decide +kernel
    exact this ⟨n, h⟩
  · left; unfold T0
    rw [List.getD_eq_getElem?_getD, List.getElem?_eq_none (by simp [tab]; omega)]; rfl
theorem oT_t : oT true = textF := by funext l; simp [oT]
theorem oT_f : oT false = fun _ => (E0, 0, 0) := by funext l; simp [oT]
theorem texts_is (l : List Int) : (chT l (X2 l).2 (T0 (X0 l).1).toNat).2 = (X6 l).2 ∧ txt l (X2 l).2 (T0 (X0 l).1).toNat 0 = (X3 l).1 ∧ txt l (X2 l).2 (T0 (X0 l).1).toNat 1 = (X4 l).1 ∧ txt l (X2 l).2 (T0 (X0 l).1).toNat 2 = (X5 l).1 ∧ txt l (X2 l).2 (T0 (X0 l).1).toNat 3 = (X6 l).1 := by
  rcases T0_cases (X0 l).1 with h | h | h | h
  all_goals
    unfold X6 X5 X4 X3
    rw [h]
    simp [oT_t, oT_f, eachF_triv, chT, txt]
theorem num_is {l : List Int} (hl : Bytes l) (k : Int) (j : Nat) (p e : Int) (hp : e = 0 → 0 ≤ p) :
    (if 0 < TN k j then belowF (TN k j) l p e else (0, p, e)).2 = (eachF (onT (TN k j)) 0 l p e).2 ∧ ((eachF (onT (TN k j)) 0 l p e).2.2 = 0 → (if 0 < TN k j then belowF (TN k j) l p e else (0, p, e)).1 = (eachF (onT (TN k j)) 0 l p e).1) := by
  by_cases h : 0 < TN k j
  · have e1 : onT (TN k j) = belT (TN k j) := by funext l; unfold onT; rw [if_pos h]
    rw [if_pos h, e1]; exact belowF_each _ h (TN_le _ _) hl p e hp
  · have e1 : onT (TN k j) = fun _ => (0, 0, 0) := by funext l; unfold onT; rw [if_neg h]
    rw [if_neg h, e1, eachF_triv]; exact ⟨rfl, fun _ => rfl⟩
theorem each_err {α : Type} {t : List Int → α × Int × Int} {d : α} {l : List Int} {p e : Int} (h : (eachF t d l p e).2.2 = 0) : e = 0 := Classical.byContradiction fun he => he (by rw [eachF_skip he] at h; exact h)
theorem nums_is {l : List Int} (hl : Bytes l) : (chN l (X0 l).1 (X6 l).2 3).2 = (X9 l).2 ∧ ((X9 l).2.2 = 0 → num l (X0 l).1 (X6 l).2 3 0 = (X7 l).1 ∧ num l (X0 l).1 (X6 l).2 3 1 = (X8 l).1 ∧ num l (X0 l).1 (X6 l).2 3 2 = (X9 l).1) := by
  have a7 := num_is hl (X0 l).1 0 (X6 l).2.1 (X6 l).2.2 (X6_ge hl)
  have a8 := num_is hl (X0 l).1 1 (X7 l).2.1 (X7 l).2.2 (X7_ge hl)
  have a9 := num_is hl (X0 l).1 2 (X8 l).2.1 (X8 l).2.2 (X8_ge hl)
  have c1 : chN l (X0 l).1 (X6 l).2 1 = (if 0 < TN (X0 l).1 0 then belowF (TN (X0 l).1 0) l (X6 l).2.1 (X6 l).2.2 else (0, (X6 l).2.1, (X6 l).2.2)) := rfl
  have d1 : (chN l (X0 l).1 (X6 l).2 1).2 = (X7 l).2 := by rw [c1]; exact a7.1
  have c2 : chN l (X0 l).1 (X6 l).2 2 = (if 0 < TN (X0 l).1 1 then belowF (TN (X0 l).1 1) l (X7 l).2.1 (X7 l).2.2 else (0, (X7 l).2.1, (X7 l).2.2)) := by
    show (if 0 < TN (X0 l).1 1 then belowF (TN (X0 l).1 1) l (chN l (X0 l).1 (X6 l).2 1).2.1 (chN l (X0 l).1 (X6 l).2 1).2.2 else (0, (chN l (X0 l).1 (X6 l).2 1).2)) = _
    rw [d1]
  have d2 : (chN l (X0 l).1 (X6 l).2 2).2 = (X8 l).2 := by rw [c2]; exact a8.1
  have c3 : chN l (X0 l).1 (X6 l).2 3 = (if 0 < TN (X0 l).1 2 then belowF (TN (X0 l).1 2) l (X8 l).2.1 (X8 l).2.2 else (0, (X8 l).2.1, (X8 l).2.2)) := by
    show (if 0 < TN (X0 l).1 2 then belowF (TN (X0 l).1 2) l (chN l (X0 l).1 (X6 l).2 2).2.1 (chN l (X0 l).1 (X6 l).2 2).2.2 else (0, (chN l (X0 l).1 (X6 l).2 2).2)) = _
    rw [d2]
  refine ⟨by rw [c3]; exact a9.1, fun h => ?_⟩
  have h8 : (X8 l).2.2 = 0 := each_err (t := onT (TN (X0 l).1 2)) (d := 0) (l := l) h
  have h7 : (X7 l).2.2 = 0 := each_err (t := onT (TN (X0 l).1 1)) (d := 0) (l := l) h8
  refine ⟨?_, ?_, ?_⟩
  · show (chN l (X0 l).1 (X6 l).2 1).1 = _
    rw [c1]; exact a7.2 h7
  · show (chN l (X0 l).1 (X6 l).2 2).1 = _
    rw [c2]; exact a8.2 h8
  · show (chN l (X0 l).1 (X6 l).2 3).1 = _
    rw [c3]; exact a9.2 h
theorem skip_all {l : List Int} (h : (X0 l).2.2 ≠ 0) : (X9 l).2 = (X0 l).2 := by
  have e1 : (X1 l).2 = (X0 l).2 := by unfold X1; rw [eachF_skip h]
  have e2 : (X2 l).2 = (X0 l).2 := by unfold X2; rw [eachF_skip (by rw [e1]; exact h), e1]
  have e3 : (X3 l).2 = (X0 l).2 := by unfold X3; rw [eachF_skip (by rw [e2]; exact h), e2]
  have e4 : (X4 l).2 = (X0 l).2 := by unfold X4; rw [eachF_skip (by rw [e3]; exact h), e3]
  have e5 : (X5 l).2 = (X0 l).2 := by unfold X5; rw [eachF_skip (by rw [e4]; exact h), e4]
  have e6 : (X6 l).2 = (X0 l).2 := by unfold X6; rw [eachF_skip (by rw [e5]; exact h), e5]
  have e7 : (X7 l).2 = (X0 l).2 := by unfold X7; rw [eachF_skip (by rw [e6]; exact h), e6]
  have e8 : (X8 l).2 = (X0 l).2 := by unfold X8; rw [eachF_skip (by rw [e7]; exact h), e7]
  have e9 : (X9 l).2 = (X0 l).2 := by unfold X9; rw [eachF_skip (by rw [e8]; exact h), e8]
  exact e9
theorem skip_two {l : List Int} (h : (X2 l).2.2 ≠ 0) : (X9 l).2 = (X2 l).2 := by
  have e2 : (X2 l).2 = (X2 l).2 := rfl
  have e3 : (X3 l).2 = (X2 l).2 := by unfold X3; rw [eachF_skip (by rw [e2]; exact h), e2]
  have e4 : (X4 l).2 = (X2 l).2 := by unfold X4; rw [eachF_skip (by rw [e3]; exact h), e3]
  have e5 : (X5 l).2 = (X2 l).2 := by unfold X5; rw [eachF_skip (by rw [e4]; exact h), e4]
  have e6 : (X6 l).2 = (X2 l).2 := by unfold X6; rw [eachF_skip (by rw [e5]; exact h), e5]
  have e7 : (X7 l).2 = (X2 l).2 := by unfold X7; rw [eachF_skip (by rw [e6]; exact h), e6]
  have e8 : (X8 l).2 = (X2 l).2 := by unfold X8; rw [eachF_skip (by rw [e7]; exact h), e7]
  have e9 : (X9 l).2 = (X2 l).2 := by unfold X9; rw [eachF_skip (by rw [e8]; exact h), e8]
  exact e9
theorem start_is {l : List Int} (hl : Bytes l) (h : (X0 l).2.2 = 0) : startF l = ((X0 l).1, (X1 l).1, (X2 l).1, (X2 l).2.1, (X2 l).2.2) := by
  unfold startF
  rw [← (kind_is hl).2 h]
  simp only [idF_each]
  rfl
theorem stop_is {l : List Int} (hl : Bytes l) : stopF l = endF l.length (evT l).2 := by
  rw [(chain hl).1]
  by_cases h : (X0 l).2.2 = 0
  · unfold stopF
    simp only [start_is hl h]
    by_cases h2 : (X2 l).2.2 = 0
    · rw [if_pos h2, show ((X2 l).2.1, (X2 l).2.2) = (X2 l).2 from rfl, (texts_is l).1, (nums_is hl).1]
    · rw [if_neg h2, skip_two h2]
  · rw [skip_all h]
    have hk := (kind_is hl).1
    have hk2 : (kindF l).2.2 ≠ 0 := by rw [← hk]; exact h
    unfold stopF startF
    simp only [idF_each]
    rw [eachF_skip (t := gl 0 0) hk2]
    simp only []
    rw [eachF_skip hk2]
    simp only []
    rw [if_neg hk2, hk]
/-- An event as cells. -/
def cells (n : Ev) : Array Value := #[.int .i64 n.1, .int .u64 n.2.1, .int .u64 n.2.2.1, .string n.2.2.2.1, .string n.2.2.2.2.1, .string n.2.2.2.2.2.1, .string n.2.2.2.2.2.2.1, .int .i64 n.2.2.2.2.2.2.2.1, .int .i64 n.2.2.2.2.2.2.2.2.1, .int .i64 n.2.2.2.2.2.2.2.2.2]
/-- The event of bytes, where it ends, and how. -/
def decF (l : List Int) : Ev × Int × Int := (if (endF l.length (evT l).2).2 = 0 then (evT l).1 else zE, endF l.length (evT l).2)
theorem dec_is {l : List Int} (hl : Bytes l) : decC l = cells (decF l).1 := by
  unfold decC decF
  rw [stop_is hl]
  by_cases h : (endF l.length (evT l).2).2 = 0
  · rw [if_pos h]
    simp only [if_pos h]
    have h9 : (X9 l).2.2 = 0 := by
      rw [(chain hl).1] at h
      unfold endF at h; split at h
      · simp at h
      · exact h
    rw [(chain hl).2 h9]
    have h0 : (X0 l).2.2 = 0 := Classical.byContradiction fun z => z (by rw [← skip_all z]; exact h9)
    have t := texts_is l
    have n := (nums_is hl).2 h9
    rw [start_is hl h0]
    simp only [show ((X2 l).2.1, (X2 l).2.2) = (X2 l).2 from rfl, t.1, t.2.1, t.2.2.1, t.2.2.2.1, t.2.2.2.2, n.1, n.2.1, n.2.2]
    rfl
  · rw [if_neg h]
    simp only [if_neg h]
    rfl
end Go.Proofs.YtmlhlcdamppbfaaDoor.Ext
