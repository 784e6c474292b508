/- Plain words on numbers, bytes, and ways to read something at the beginning of bytes. -/
import Derived.Test.YtojagnoobaleaaaDoorGet
namespace Go.Proofs.YtojagnoobaleaaaDoor.Ext
open Go.RowKit Go.Proofs.YtojagnoobaleaaaDoorW.PrintWords Go.Proofs.YtojagnoobaleaaaDoorW.PrintLast Go.Proofs.YtojagnoobaleaaaDoorW.PrintMore
set_option linter.unusedVariables false
def Bytes (l : List Int) : Prop := ∀ x ∈ l, 0 ≤ x ∧ x < 256
theorem u8_bounds {a : Int} (h : (Lit.int .u8 a).wf = true) : 0 ≤ a ∧ a < 256 := by
  simp [Lit.wf, IntKind.min, IntKind.max, IntKind.bits, IntKind.signed] at h; omega
theorem u64_bounds {a : Int} (h : (Lit.int .u64 a).wf = true) : 0 ≤ a ∧ a < 18446744073709551616 := by
  simp [Lit.wf, IntKind.min, IntKind.max, IntKind.bits, IntKind.signed] at h; omega
theorem i64_bounds {a : Int} (h : (Lit.int .i64 a).wf = true) : -9223372036854775808 ≤ a ∧ a < 9223372036854775808 := by
  simp [Lit.wf, IntKind.min, IntKind.max, IntKind.bits, IntKind.signed] at h; omega
theorem bytes_wf {l : List Int} (h : ∀ x ∈ l, (Lit.int .u8 x).wf = true) : Bytes l := fun x hx => u8_bounds (h x hx)
theorem Bytes.take {l : List Int} (h : Bytes l) (n : Nat) : Bytes (l.take n) := fun x hx => h x (List.mem_of_mem_take hx)
theorem Bytes.drop {l : List Int} (h : Bytes l) (n : Nat) : Bytes (l.drop n) := fun x hx => h x (List.mem_of_mem_drop hx)
theorem Bytes.append {l m : List Int} (h : Bytes l) (k : Bytes m) : Bytes (l ++ m) := fun x hx => (List.mem_append.1 hx).elim (h x) (k x)
theorem mn_le (a b : Int) : mn a b ≤ a ∧ mn a b ≤ b ∧ (mn a b = a ∨ mn a b = b) := by unfold mn; split <;> omega
theorem w64 (n : Int) (h0 : -9223372036854775808 ≤ n) (h1 : n < 9223372036854775808) : wrap64 n = n := by unfold wrap64; omega
theorem u64w (n : Int) (h0 : 0 ≤ n) (h1 : n < 18446744073709551616) : IntKind.u64.wrap n = n := wrap_u64_in n h0 (by omega)

/-- A number's bytes. -/
def put (n : Nat) : List Int := if n < 128 then [(n : Int)] else ((n % 128 + 128 : Nat) : Int) :: put (n / 128)
theorem put_small {n : Nat} (h : n < 128) : put n = [(n : Int)] := by rw [put, if_pos h]
theorem put_great {n : Nat} (h : 128 ≤ n) : put n = ((n % 128 + 128 : Nat) : Int) :: put (n / 128) := by rw [put, if_neg (by omega)]
theorem put_bytes (n : Nat) : Bytes (put n) := by
  induction n using Nat.strongRecOn with
  | _ n ih =>
    by_cases h : n < 128
    · rw [put_small h]; intro x hx; simp at hx; omega
    · rw [put_great (by omega)]
      intro x hx
      rcases List.mem_cons.1 hx with rfl | hx
      · omega
      · exact ih (n / 128) (by omega) x hx
theorem put_pos (n : Nat) : 0 < (put n).length := by
  by_cases h : n < 128
  · rw [put_small h]; simp
  · rw [put_great (by omega)]; simp
theorem put_len (j : Nat) : ∀ n : Nat, n < 128 ^ (j + 1) → (put n).length ≤ j + 1 := by
  induction j with
  | zero => intro n h; rw [put_small (by simpa using h)]; simp
  | succ j ih =>
    intro n h
    by_cases hs : n < 128
    · rw [put_small hs]; simp
    · rw [put_great (by omega)]
      have := ih (n / 128) (by rw [Nat.div_lt_iff_lt_mul (by omega)]; rw [Nat.pow_succ] at h; exact h)
      simp; omega
theorem put_len10 (n : Nat) (h : n < 18446744073709551616) : (put n).length ≤ 10 := put_len 9 n (by have : (128 : Nat) ^ (9 + 1) = 1180591620717411303424 := by decide
                                                                                                    omega)
theorem or128 (x : Int) (h0 : 0 ≤ x) (h1 : x < 256) : bits .or .u8 x 128 = x % 128 + 128 := by
  have : ∀ n : Fin 256, bits .or .u8 (n.val : Int) 128 = (n.val : Int) % 128 + 128 := by decide +kernel
  have h := this ⟨x.toNat, by omega⟩
  simpa [Int.toNat_of_nonneg h0] using h

/-- Reading what was written, at a place. -/
theorem gl_put : ∀ (m i : Nat) (a : Int) (r : List Int), (0 < i → 0 < m) → i ≤ 9 → m * 2 ^ (7 * i) < 2 ^ 64 → gl i a (put m ++ r) = (a + m * 2 ^ (7 * i), (i : Int) + (put m).length, 0) := by
  intro m
  induction m using Nat.strongRecOn with
  | _ m ih =>
    intro i a r hm hi hb
    have h9 : i = 9 → m ≤ 1 := by
      intro h
      subst h
      have : (2 : Nat) ^ (7 * 9) = 9223372036854775808 := by decide
      have h2 : (2 : Nat) ^ 64 = 18446744073709551616 := by decide
      rw [this, h2] at hb; omega
    by_cases hs : m < 128
    · rw [put_small hs]
      simp only [List.cons_append, List.nil_append, gl]
      have hc : ¬ ((i = 9 ∧ 1 < (m : Int)) ∨ (0 < i ∧ (m : Int) = 0)) := by
        rintro (⟨h1, h2⟩ | ⟨h1, h2⟩)
        · have := h9 h1; omega
        · have := hm h1; omega
      rw [if_neg hc, if_pos (by omega)]; simp
    · have hi9 : i ≠ 9 := fun h => by have := h9 h; omega
      rw [put_great (by omega)]
      simp only [List.cons_append, gl]
      have hc : ¬ ((i = 9 ∧ 1 < ((m % 128 + 128 : Nat) : Int)) ∨ (0 < i ∧ ((m % 128 + 128 : Nat) : Int) = 0)) := by
        rintro (⟨h1, h2⟩ | ⟨h1, h2⟩) <;> omega
      rw [if_neg hc, if_neg (by omega)]
      have hp : (2 : Nat) ^ (7 * (i + 1)) = 128 * 2 ^ (7 * i) := by rw [show 7 * (i + 1) = 7 + 7 * i by omega, Nat.pow_add]
      have hle : m / 128 * 2 ^ (7 * (i + 1)) ≤ m * 2 ^ (7 * i) := by
        rw [hp, ← Nat.mul_assoc]; exact Nat.mul_le_mul_right _ (by omega)
      rw [ih (m / 128) (by omega) (i + 1) _ r (fun _ => by omega) (by omega) (by omega)]
      have hpi : (2 : Int) ^ (7 * (i + 1)) = 128 * 2 ^ (7 * i) := by exact_mod_cast hp
      rw [hpi]
      generalize (2 : Int) ^ (7 * i) = P
      simp only [Prod.mk.injEq, List.length_cons]
      refine ⟨?_, by omega, trivial⟩
      have : (m : Int) = ((m % 128 : Nat) : Int) + 128 * ((m / 128 : Nat) : Int) := by omega
      rw [show (((m % 128 + 128 : Nat) : Int) - 128) = ((m % 128 : Nat) : Int) by omega, ← Int.mul_assoc, Int.mul_comm ((m / 128 : Nat) : Int) 128, Int.add_assoc, ← Int.add_mul, ← this]
/-- What was read is what, written, stands there. -/
theorem gl_ok : ∀ (l : List Int) (i : Nat) (a : Int), Bytes l → (gl i a l).2.2 = 0 → ∃ (m : Nat) (r : List Int), l = put m ++ r ∧ (0 < i → 0 < m) ∧ gl i a l = (a + m * 2 ^ (7 * i), (i : Int) + (put m).length, 0)
  | [], i, a, _, h => by simp [gl] at h
  | c :: l, i, a, hl, h => by
    have hc := hl c (by simp)
    rw [gl] at h
    split at h
    · simp at h
    · rename_i hb
      split at h
      · rename_i hs
        refine ⟨c.toNat, l, by rw [put_small (by omega)]; simp; omega, fun hi => ?_, ?_⟩
        · have : c ≠ 0 := fun h0 => hb (.inr ⟨hi, h0⟩)
          omega
        · rw [gl, if_neg hb, if_pos hs, put_small (by omega), Int.toNat_of_nonneg hc.1]; simp
      · rename_i hs
        obtain ⟨m, r, hr, hm, hg⟩ := gl_ok l (i + 1) _ (fun x hx => hl x (by simp [hx])) h
        have hm0 := hm (by omega)
        refine ⟨(c - 128).toNat + 128 * m, r, ?_, fun _ => by omega, ?_⟩
        · rw [put_great (by omega), show ((c - 128).toNat + 128 * m) / 128 = m by omega, hr]
          simp only [List.cons_append]; congr 1; omega
        · rw [gl, if_neg hb, if_neg hs, hg, put_great (n := (c - 128).toNat + 128 * m) (by omega), show ((c - 128).toNat + 128 * m) / 128 = m by omega]
          have hpi : (2 : Int) ^ (7 * (i + 1)) = 128 * 2 ^ (7 * i) := by rw [show 7 * (i + 1) = 7 + 7 * i by omega, Int.pow_add]; rfl
          rw [hpi]
          generalize (2 : Int) ^ (7 * i) = P
          simp only [Prod.mk.injEq, List.length_cons]
          refine ⟨?_, by omega, trivial⟩
          rw [show (((c - 128).toNat + 128 * m : Nat) : Int) = (c - 128) + 128 * m by omega, Int.add_mul, ← Int.mul_assoc (m : Int), Int.mul_comm (m : Int) 128]; omega
theorem gl_short : ∀ (l : List Int) (i : Nat) (a : Int), (gl i a l).2.2 = 2 → gl i a l = (0, (i : Int) + l.length, 2)
  | [], i, a, _ => by simp [gl]
  | c :: l, i, a, h => by
    rw [gl] at h ⊢
    split at h
    · simp at h
    · rename_i hb
      rw [if_neg hb]
      split at h
      · simp at h
      · rename_i hs
        rw [if_neg hs, gl_short l (i + 1) _ h]; simp; omega
theorem gl_errs : ∀ (l : List Int) (i : Nat) (a : Int), (gl i a l).2.2 = 0 ∨ (gl i a l).2.2 = 2 ∨ (gl i a l).2.2 = 3
  | [], i, a => by simp [gl]
  | c :: l, i, a => by
    rw [gl]
    split
    · simp
    · split
      · simp
      · exact gl_errs l _ _
/-- What is refused is refused at its byte, whatever stands behind; without it, it is cut off. -/
theorem gl_form3 : ∀ (l : List Int) (i : Nat) (a : Int), (gl i a l).2.2 = 3 → ∃ (p : List Int) (c : Int) (q : List Int), l = p ++ c :: q ∧ (∀ r, gl i a (p ++ c :: r) = (0, (i : Int) + p.length, 3)) ∧ gl i a p = (0, (i : Int) + p.length, 2)
  | [], i, a, h => by simp [gl] at h
  | c :: l, i, a, h => by
    rw [gl] at h
    split at h
    · rename_i hb
      exact ⟨[], c, l, rfl, fun r => by simp only [List.nil_append, gl]; rw [if_pos hb]; simp, by simp [gl]⟩
    · rename_i hb
      split at h
      · simp at h
      · rename_i hs
        obtain ⟨p, c', q, hp, h1, h2⟩ := gl_form3 l (i + 1) _ h
        refine ⟨c :: p, c', q, by rw [hp]; rfl, fun r => ?_, ?_⟩
        · simp only [List.cons_append, gl]; rw [if_neg hb, if_neg hs, h1 r]; simp; omega
        · simp only [gl]; rw [if_neg hb, if_neg hs, h2]; simp; omega
/-- A number cut off is cut off. -/
theorem gl_cut : ∀ (m i j : Nat) (a : Int), (0 < i → 0 < m) → i ≤ 9 → m * 2 ^ (7 * i) < 2 ^ 64 → j < (put m).length → gl i a ((put m).take j) = (0, (i : Int) + j, 2) := by
  intro m
  induction m using Nat.strongRecOn with
  | _ m ih =>
    intro i j a hm hi hb hj
    cases j with
    | zero => simp [gl]
    | succ j =>
      have h9 : i = 9 → m ≤ 1 := by
        intro h
        subst h
        have : (2 : Nat) ^ (7 * 9) = 9223372036854775808 := by decide
        have h2 : (2 : Nat) ^ 64 = 18446744073709551616 := by decide
        rw [this, h2] at hb; omega
      by_cases hs : m < 128
      · rw [put_small hs] at hj; simp at hj
      · have hi9 : i ≠ 9 := fun h => by have := h9 h; omega
        rw [put_great (by omega)] at hj ⊢
        simp only [List.length_cons] at hj
        simp only [List.take_succ_cons, gl]
        have hc : ¬ ((i = 9 ∧ 1 < ((m % 128 + 128 : Nat) : Int)) ∨ (0 < i ∧ ((m % 128 + 128 : Nat) : Int) = 0)) := by
          rintro (⟨h1, h2⟩ | ⟨h1, h2⟩) <;> omega
        rw [if_neg hc, if_neg (by omega)]
        have hp : (2 : Nat) ^ (7 * (i + 1)) = 128 * 2 ^ (7 * i) := by rw [show 7 * (i + 1) = 7 + 7 * i by omega, Nat.pow_add]
        have hle : m / 128 * 2 ^ (7 * (i + 1)) ≤ m * 2 ^ (7 * i) := by
          rw [hp, ← Nat.mul_assoc]; exact Nat.mul_le_mul_right _ (by omega)
        rw [ih (m / 128) (by omega) (i + 1) j _ (fun _ => by omega) (by omega) (by omega) (by omega)]
        simp; omega
theorem get_f (l : List Int) (hl : Bytes l) (hn : l.length ≤ 140737488355328) : number_Get.f l = some (gl 0 0 l) := by
  unfold number_Get.f
  rw [if_pos]
  simp only [Bool.and_eq_true, List.all_eq_true, decide_eq_true_eq]
  exact ⟨hl, hn⟩
/-- What is read is what was written; what is wrong is wrong at its byte; what is cut off is cut off. -/
structure Codec {α : Type} (V : α → Prop) (enc : α → List Int) (take : List Int → α × Int × Int) : Prop where
  bytes : ∀ x, V x → Bytes (enc x)
  full : ∀ x r, V x → Bytes r → take (enc x ++ r) = (x, ((enc x).length : Int), 0)
  sound : ∀ l, Bytes l → (take l).2.2 = 0 → ∃ x r, V x ∧ l = enc x ++ r
  cut : ∀ x k, V x → k < (enc x).length → (take ((enc x).take k)).2 = ((k : Int), 2)
  short : ∀ l, Bytes l → (take l).2.2 = 2 → (take l).2.1 = l.length
  wrong : ∀ l, Bytes l → (take l).2.2 ≠ 0 → (take l).2.2 ≠ 2 → ∃ p c q, l = p ++ c :: q ∧ (take l).2.1 = (p.length : Int) ∧ (∀ r, Bytes r → (take (p ++ c :: r)).2 = (take l).2) ∧ (take p).2 = ((p.length : Int), 2)
  no8 : ∀ l, Bytes l → (take l).2.2 ≠ 8
theorem Bytes.right {l m : List Int} (h : Bytes (l ++ m)) : Bytes m := fun x hx => h x (List.mem_append.2 (.inr hx))
theorem Bytes.left {l m : List Int} (h : Bytes (l ++ m)) : Bytes l := fun x hx => h x (List.mem_append.2 (.inl hx))
theorem Bytes.nil : Bytes [] := fun x hx => by simp at hx
theorem Bytes.one {c : Int} (h0 : 0 ≤ c) (h1 : c < 256) : Bytes [c] := fun x hx => by simp at hx; omega
/-- One behind the other. -/
def seqT {α β : Type} (t1 : List Int → α × Int × Int) (d : β) (t2 : α → List Int → β × Int × Int) (l : List Int) : (α × β) × Int × Int :=
  if (t1 l).2.2 = 0 then (((t1 l).1, (t2 (t1 l).1 (l.drop (t1 l).2.1.toNat)).1), (t1 l).2.1 + (t2 (t1 l).1 (l.drop (t1 l).2.1.toNat)).2.1, (t2 (t1 l).1 (l.drop (t1 l).2.1.toNat)).2.2)
  else (((t1 l).1, d), (t1 l).2)
section
variable {α β : Type} {V1 : α → Prop} {e1 : α → List Int} {t1 : List Int → α × Int × Int} {V2 : α → β → Prop} {e2 : α → β → List Int} {t2 : α → List Int → β × Int × Int} {d : β}
theorem seq_at (C1 : Codec V1 e1 t1) (x : α) (r : List Int) (h : V1 x) (hr : Bytes r) : seqT t1 d t2 (e1 x ++ r) = ((x, (t2 x r).1), ((e1 x).length : Int) + (t2 x r).2.1, (t2 x r).2.2) := by
  have e := C1.full x r h hr
  unfold seqT
  simp only [e, if_true, Int.toNat_natCast, List.drop_left]
theorem seq_bad {l : List Int} (h : (t1 l).2.2 ≠ 0) : seqT t1 d t2 l = (((t1 l).1, d), (t1 l).2) := if_neg h
theorem Codec.seq (d : β) (C1 : Codec V1 e1 t1) (C2 : ∀ x, V1 x → Codec (V2 x) (e2 x) (t2 x)) : Codec (fun p : α × β => V1 p.1 ∧ V2 p.1 p.2) (fun p => e1 p.1 ++ e2 p.1 p.2) (seqT t1 d t2) where
  bytes := fun p h => (C1.bytes _ h.1).append ((C2 _ h.1).bytes _ h.2)
  full := fun p r h hr => by
    rw [List.append_assoc, seq_at C1 p.1 _ h.1 (((C2 _ h.1).bytes _ h.2).append hr), (C2 _ h.1).full _ _ h.2 hr]
    simp
  sound := fun l hl h => by
    by_cases h1 : (t1 l).2.2 = 0
    · obtain ⟨x, r, hx, rfl⟩ := C1.sound l hl h1
      rw [seq_at C1 x r hx hl.right] at h
      obtain ⟨y, s, hy, rfl⟩ := (C2 x hx).sound r hl.right h
      exact ⟨(x, y), s, ⟨hx, hy⟩, by simp⟩
    · rw [seq_bad h1] at h; exact absurd h h1
  cut := fun p k h hk => by
    simp only [List.length_append] at hk
    by_cases hk1 : k < (e1 p.1).length
    · have := C1.cut p.1 k h.1 hk1
      rw [List.take_append_of_le_length (by omega), seq_bad (by rw [this]; simp), this]
    · rw [List.take_append, List.take_of_length_le (l := e1 p.1) (show (e1 p.1).length ≤ k by omega), seq_at C1 p.1 _ h.1 (((C2 _ h.1).bytes _ h.2).take _)]
      have := (C2 _ h.1).cut p.2 (k - (e1 p.1).length) h.2 (by omega)
      rw [this]; simp only [Prod.mk.injEq, and_true]; omega
  short := fun l hl h => by
    by_cases h1 : (t1 l).2.2 = 0
    · obtain ⟨x, r, hx, rfl⟩ := C1.sound l hl h1
      rw [seq_at C1 x r hx hl.right] at h ⊢
      have := (C2 x hx).short r hl.right h
      simp only [List.length_append] at *; omega
    · rw [seq_bad h1] at h ⊢; exact C1.short l hl h
  wrong := fun l hl h h' => by
    by_cases h1 : (t1 l).2.2 = 0
    · obtain ⟨x, r, hx, rfl⟩ := C1.sound l hl h1
      rw [seq_at C1 x r hx hl.right] at h h' ⊢
      obtain ⟨p, c, q, hr, h2, h3, h4⟩ := (C2 x hx).wrong r hl.right h h'
      have hb := hl.right
      rw [hr] at hb
      refine ⟨e1 x ++ p, c, q, by rw [hr]; simp, by simp only [List.length_append, h2]; omega, fun s hs => ?_, ?_⟩
      · rw [List.append_assoc, seq_at C1 x _ hx (hb.left.append (fun y hy => by rcases List.mem_cons.1 hy with rfl | hy; exact hb.right _ (by simp); exact hs y hy)), h3 s hs]
      · rw [seq_at C1 x _ hx hb.left, h4]
        simp only [List.length_append, Prod.mk.injEq, and_true]; omega
    · rw [seq_bad h1] at h h' ⊢
      obtain ⟨p, c, q, hr, h2, h3, h4⟩ := C1.wrong l hl h h'
      refine ⟨p, c, q, hr, h2, fun s hs => ?_, ?_⟩
      · rw [seq_bad (by rw [h3 s hs]; exact h1), h3 s hs]
      · rw [seq_bad (by rw [h4]; simp), h4]
  no8 := fun l hl => by
    by_cases h1 : (t1 l).2.2 = 0
    · obtain ⟨x, r, hx, rfl⟩ := C1.sound l hl h1
      rw [seq_at C1 x r hx hl.right]
      exact (C2 x hx).no8 r hl.right
    · rw [seq_bad h1]; exact C1.no8 l hl
end
section
variable {α : Type} {V : α → Prop} {enc : α → List Int} {take : List Int → α × Int × Int}
theorem Codec.nil (C : Codec V enc take) (x : α) (h : V x) : take (enc x) = (x, ((enc x).length : Int), 0) := by
  have := C.full x [] h Bytes.nil
  rwa [List.append_nil] at this
/-- None's bytes are a beginning of another one's. -/
theorem Codec.apart (C : Codec V enc take) (x y : α) (hx : V x) (hy : V y) (r : List Int) (h : enc x = enc y ++ r) : x = y := by
  have hb := C.bytes x hx
  rw [h] at hb
  have e1 := C.nil x hx
  rw [h, C.full y r hy hb.right] at e1
  exact (Prod.mk.inj e1).1.symm
theorem Codec.begin_ (C : Codec V enc take) (x y : α) (hx : V x) (hy : V y) (n : Nat) (hn : n = min (enc x).length (enc y).length) (h : (enc x).take n = (enc y).take n) : x = y := by
  by_cases hle : (enc x).length ≤ (enc y).length
  · rw [hn, Nat.min_eq_left hle, List.take_length] at h
    exact (C.apart y x hy hx ((enc y).drop (enc x).length) (by conv => lhs; rw [← List.take_append_drop (enc x).length (enc y)]
                                                               rw [← h])).symm
  · rw [hn, Nat.min_eq_right (by omega), List.take_length] at h
    exact C.apart x y hx hy ((enc x).drop (enc y).length) (by conv => lhs; rw [← List.take_append_drop (enc y).length (enc x)]
                                                              rw [h])
end
theorem gl_lt : ∀ (m i : Nat) (a : Int) (r : List Int), i ≤ 9 → (gl i a (put m ++ r)).2.2 = 0 → m * 2 ^ (7 * i) < 2 ^ 64 := by
  intro m
  induction m using Nat.strongRecOn with
  | _ m ih =>
    intro i a r hi h
    have hc : i = 0 ∨ i = 1 ∨ i = 2 ∨ i = 3 ∨ i = 4 ∨ i = 5 ∨ i = 6 ∨ i = 7 ∨ i = 8 ∨ i = 9 := by omega
    by_cases hs : m < 128
    · rw [put_small hs, List.singleton_append, gl] at h
      have h9 : i = 9 → m ≤ 1 := fun e => by
        apply Classical.byContradiction
        intro hm
        rw [if_pos (.inl ⟨e, by omega⟩)] at h
        simp at h
      rcases hc with rfl | rfl | rfl | rfl | rfl | rfl | rfl | rfl | rfl | rfl <;> simp only [Nat.reduceMul, Nat.reducePow] <;> first | omega | (have := h9 rfl; omega)
    · rw [put_great (by omega), List.cons_append, gl] at h
      have h9 : i ≠ 9 := fun e => by
        rw [if_pos (.inl ⟨e, by omega⟩)] at h
        simp at h
      rw [if_neg (by rintro (⟨h1, _⟩ | ⟨_, h2⟩) <;> omega), if_neg (by omega)] at h
      have := ih (m / 128) (by omega) (i + 1) _ r (by omega) h
      have hP : (2 : Nat) ^ 64 = 2 ^ (57 - 7 * i) * 2 ^ (7 * (i + 1)) := by rw [← Nat.pow_add]; congr 1; omega
      have hQ : (2 : Nat) ^ 64 = 2 ^ (57 - 7 * i) * 128 * 2 ^ (7 * i) := by rw [hP, show 7 * (i + 1) = 7 + 7 * i by omega, Nat.pow_add, Nat.mul_assoc]
      rw [hP] at this
      have hq := Nat.lt_of_mul_lt_mul_right this
      generalize 2 ^ (57 - 7 * i) = Q at *
      rw [hQ]
      exact Nat.mul_lt_mul_of_pos_right (by omega) (Nat.pow_pos (by omega))
theorem bytesOf_bytes (s : ByteArray) : Bytes (bytesOf s) := by
  intro x hx
  simp only [bytesOf, List.mem_map] at hx
  obtain ⟨b, _, rfl⟩ := hx
  have := b.toNat_lt
  omega
theorem strOf_bytesOf (s : ByteArray) : strOfNums (bytesOf s) = s := by
  apply ByteArray.ext
  simp only [strOfNums, bytesOf, List.map_map]
  apply Array.ext'
  simp only []
  conv => rhs; rw [← List.map_id s.data.toList]
  apply List.map_congr_left
  intro b _
  simp
theorem bytesOf_strOf (l : List Int) (h : Bytes l) : bytesOf (strOfNums l) = l := by
  simp only [strOfNums, bytesOf, List.map_map]
  conv => rhs; rw [← List.map_id l]
  apply List.map_congr_left
  intro b hb
  have := h b hb
  simp; omega
theorem size_strOf (l : List Int) (h : Bytes l) : (strOfNums l).size = l.length := by
  rw [← bytesOf_length, bytesOf_strOf l h]
theorem gl_codec : Codec (fun n : Int => 0 ≤ n ∧ n < 18446744073709551616) (fun n => put n.toNat) (gl 0 0) where
  bytes := fun n _ => put_bytes _
  full := fun n r h _ => by
    have := gl_put n.toNat 0 0 r (fun h => absurd h (by omega)) (by omega) (by simp; omega)
    simp only [Int.toNat_of_nonneg h.1, Nat.mul_zero] at this
    rw [this]; simp
  sound := fun l hl h => by
    obtain ⟨m, r, hm, _, _⟩ := gl_ok l 0 0 hl h
    subst hm
    have := gl_lt m 0 0 r (by omega) h
    exact ⟨m, r, ⟨by omega, by simp at this; omega⟩, by simp⟩
  cut := fun n k h hk => by
    have := gl_cut n.toNat 0 k 0 (fun h => absurd h (by omega)) (by omega) (by simp; omega) hk
    rw [this]; simp
  short := fun l _ h => by rw [gl_short l 0 0 h]; simp
  wrong := fun l _ h h' => by
    have h3 : (gl 0 0 l).2.2 = 3 := by rcases gl_errs l 0 0 with e | e | e <;> first | exact absurd e h | exact absurd e h' | exact e
    obtain ⟨p, c, q, hp, h1, h2⟩ := gl_form3 l 0 0 h3
    refine ⟨p, c, q, hp, ?_, fun r _ => ?_, ?_⟩
    · rw [hp, h1]; simp
    · rw [hp, h1, h1]
    · rw [h2]; simp
  no8 := fun l _ => by rcases gl_errs l 0 0 with e | e | e <;> rw [e] <;> decide
/-- One byte of some. -/
theorem triv_codec {α : Type} (d : α) : Codec (fun x => x = d) (fun _ => []) (fun _ => (d, 0, 0)) where
  bytes := fun _ _ => Bytes.nil
  full := fun x r h _ => by simp [h]
  sound := fun l _ _ => ⟨d, l, rfl, rfl⟩
  cut := fun x k _ hk => by simp at hk
  short := fun l _ h => by simp at h
  wrong := fun l _ h => by simp at h
  no8 := fun l _ => by simp
/-- Read as something else. -/
theorem Codec.map {α β : Type} {V : α → Prop} {enc : α → List Int} {take : List Int → α × Int × Int} (C : Codec V enc take) (f : α → β) (V' : β → Prop) (enc' : β → List Int)
    (h1 : ∀ y, V' y → ∃ x, V x ∧ f x = y) (h2 : ∀ x, V x → V' (f x)) (h3 : ∀ x, V x → enc' (f x) = enc x) : Codec V' enc' (fun l => (f (take l).1, (take l).2)) where
  bytes := fun y h => by obtain ⟨x, hx, rfl⟩ := h1 y h; rw [h3 x hx]; exact C.bytes x hx
  full := fun y r h hr => by obtain ⟨x, hx, rfl⟩ := h1 y h; rw [h3 x hx, C.full x r hx hr]
  sound := fun l hl h => by obtain ⟨x, r, hx, hl⟩ := C.sound l hl h; exact ⟨f x, r, h2 x hx, by rw [h3 x hx]; exact hl⟩
  cut := fun y k h hk => by obtain ⟨x, hx, rfl⟩ := h1 y h; rw [h3 x hx] at hk ⊢; exact C.cut x k hx hk
  short := fun l hl h => C.short l hl h
  wrong := fun l hl h h' => C.wrong l hl h h'
  no8 := fun l hl => C.no8 l hl
theorem Codec.congr {α : Type} {V V' : α → Prop} {enc enc' : α → List Int} {take take' : List Int → α × Int × Int} (C : Codec V enc take) (h1 : ∀ y, V' y ↔ V y) (h3 : ∀ x, V x → enc' x = enc x) (h4 : ∀ l, take' l = take l) : Codec V' enc' take' := by
  have : take' = take := funext h4
  subst this
  exact C.map id V' enc' (fun y h => ⟨y, (h1 y).1 h, rfl⟩) (fun x h => (h1 x).2 h) h3
theorem put_split (n : Nat) : ∃ p c, put n = p ++ [c] ∧ p.length + 1 = (put n).length := by
  have h := put_pos n
  generalize put n = l at h
  have hne : l ≠ [] := fun e => by rw [e] at h; simp at h
  exact ⟨l.dropLast, l.getLast hne, (List.dropLast_concat_getLast hne).symm, by rw [List.length_dropLast]; omega⟩
end Go.Proofs.YtojagnoobaleaaaDoor.Ext
