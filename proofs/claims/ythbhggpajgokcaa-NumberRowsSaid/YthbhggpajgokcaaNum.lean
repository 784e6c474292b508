/- Numbers as bytes, in plain words: seven bits each, the lowest first. -/
import Derived.Test.YthbhggpajgokcaaGet
namespace Go.Proofs.Ythbhggpajgokcaa.Ext
open Go.RowKit Go.Proofs.YthbhggpajgokcaaW.PrintWords Go.Proofs.YthbhggpajgokcaaW.PrintLast

def Bytes (l : List Int) : Prop := ∀ x ∈ l, 0 ≤ x ∧ x < 256
theorem u8_bounds {a : Int} (h : (Lit.int .u8 a).wf = true) : 0 ≤ a ∧ a < 256 := by
  simp [Lit.wf, IntKind.min, IntKind.max, IntKind.bits, IntKind.signed] at h; omega
theorem u64_bounds {a : Int} (h : (Lit.int .u64 a).wf = true) : 0 ≤ a ∧ a < 18446744073709551616 := by
  simp [Lit.wf, IntKind.min, IntKind.max, IntKind.bits, IntKind.signed] at h; omega
theorem i64_bounds {a : Int} (h : (Lit.int .i64 a).wf = true) : -9223372036854775808 ≤ a ∧ a < 9223372036854775808 := by
  simp [Lit.wf, IntKind.min, IntKind.max, IntKind.bits, IntKind.signed] at h; omega
theorem bytes_wf {l : List Int} (h : ∀ x ∈ l, (Lit.int .u8 x).wf = true) : Bytes l := fun x hx => u8_bounds (h x hx)
theorem Bytes.take {l : List Int} (h : Bytes l) (n : Nat) : Bytes (l.take n) := fun x hx => h x (List.mem_of_mem_take hx)
theorem Bytes.drop {l : List Int} (h : Bytes l) (n : Nat) : Bytes (l.drop n) := fun x hx => h x (List.mem_of_mem_drop hx)
theorem Bytes.append {l m : List Int} (h : Bytes l) (k : Bytes m) : Bytes (l ++ m) := fun x hx => (List.mem_append.1 hx).elim (h x) (k x)
theorem mn_le (a b : Int) : mn a b ≤ a ∧ mn a b ≤ b ∧ (mn a b = a ∨ mn a b = b) := by unfold mn; split <;> omega
theorem w64 (n : Int) (h0 : -9223372036854775808 ≤ n) (h1 : n < 9223372036854775808) : wrap64 n = n := by unfold wrap64; omega
theorem u64w (n : Int) (h0 : 0 ≤ n) (h1 : n < 18446744073709551616) : IntKind.u64.wrap n = n := wrap_u64_in n h0 (by omega)

/-- A number's bytes. -/
def put (n : Nat) : List Int := if n < 128 then [(n : Int)] else ((n % 128 + 128 : Nat) : Int) :: put (n / 128)
theorem put_small {n : Nat} (h : n < 128) : put n = [(n : Int)] := by rw [put, if_pos h]
theorem put_great {n : Nat} (h : 128 ≤ n) : put n = ((n % 128 + 128 : Nat) : Int) :: put (n / 128) := by rw [put, if_neg (by omega)]
theorem put_bytes (n : Nat) : Bytes (put n) := by
  induction n using Nat.strongRecOn with
  | _ n ih =>
    by_cases h : n < 128
    · rw [put_small h]; intro x hx; simp at hx; omega
    · rw [put_great (by omega)]
      intro x hx
      rcases List.mem_cons.1 hx with rfl | hx
      · omega
      · exact ih (n / 128) (by omega) x hx
theorem put_pos (n : Nat) : 0 < (put n).length := by
  by_cases h : n < 128
  · rw [put_small h]; simp
  · rw [put_great (by omega)]; simp
theorem put_len (j : Nat) : ∀ n : Nat, n < 128 ^ (j + 1) → (put n).length ≤ j + 1 := by
  induction j with
  | zero => intro n h; rw [put_small (by simpa using h)]; simp
  | succ j ih =>
    intro n h
    by_cases hs : n < 128
    · rw [put_small hs]; simp
    · rw [put_great (by omega)]
      have := ih (n / 128) (by rw [Nat.div_lt_iff_lt_mul (by omega)]; rw [Nat.pow_succ] at h; exact h)
      simp; omega
theorem put_len10 (n : Nat) (h : n < 18446744073709551616) : (put n).length ≤ 10 := put_len 9 n (by have : (128 : Nat) ^ (9 + 1) = 1180591620717411303424 := by decide
                                                                                                    omega)
theorem or128 (x : Int) (h0 : 0 ≤ x) (h1 : x < 256) : bits .or .u8 x 128 = x % 128 + 128 := by
  have : ∀ n : Fin 256, bits .or .u8 (n.val : Int) 128 = (n.val : Int) % 128 + 128 := by decide +kernel
  have h := this ⟨x.toNat, by omega⟩
  simpa [Int.toNat_of_nonneg h0] using h

/-- Reading what was written, at a place. -/
theorem gl_put : ∀ (m i : Nat) (a : Int) (r : List Int), (0 < i → 0 < m) → i ≤ 9 → m * 2 ^ (7 * i) < 2 ^ 64 → gl i a (put m ++ r) = (a + m * 2 ^ (7 * i), (i : Int) + (put m).length, 0) := by
  intro m
  induction m using Nat.strongRecOn with
  | _ m ih =>
    intro i a r hm hi hb
    have h9 : i = 9 → m ≤ 1 := by
      intro h
      subst h
      have : (2 : Nat) ^ (7 * 9) = 9223372036854775808 := by decide
      have h2 : (2 : Nat) ^ 64 = 18446744073709551616 := by decide
      rw [this, h2] at hb; omega
    by_cases hs : m < 128
    · rw [put_small hs]
      simp only [List.cons_append, List.nil_append, gl]
      have hc : ¬ ((i = 9 ∧ 1 < (m : Int)) ∨ (0 < i ∧ (m : Int) = 0)) := by
        rintro (⟨h1, h2⟩ | ⟨h1, h2⟩)
        · have := h9 h1; omega
        · have := hm h1; omega
      rw [if_neg hc, if_pos (by omega)]; simp
    · have hi9 : i ≠ 9 := fun h => by have := h9 h; omega
      rw [put_great (by omega)]
      simp only [List.cons_append, gl]
      have hc : ¬ ((i = 9 ∧ 1 < ((m % 128 + 128 : Nat) : Int)) ∨ (0 < i ∧ ((m % 128 + 128 : Nat) : Int) = 0)) := by
        rintro (⟨h1, h2⟩ | ⟨h1, h2⟩) <;> omega
      rw [if_neg hc, if_neg (by omega)]
      have hp : (2 : Nat) ^ (7 * (i + 1)) = 128 * 2 ^ (7 * i) := by rw [show 7 * (i + 1) = 7 + 7 * i by omega, Nat.pow_add]
      have hle : m / 128 * 2 ^ (7 * (i + 1)) ≤ m * 2 ^ (7 * i) := by
        rw [hp, ← Nat.mul_assoc]; exact Nat.mul_le_mul_right _ (by omega)
      rw [ih (m / 128) (by omega) (i + 1) _ r (fun _ => by omega) (by omega) (by omega)]
      have hpi : (2 : Int) ^ (7 * (i + 1)) = 128 * 2 ^ (7 * i) := by exact_mod_cast hp
      rw [hpi]
      generalize (2 : Int) ^ (7 * i) = P
      simp only [Prod.mk.injEq, List.length_cons]
      refine ⟨?_, by omega, trivial⟩
      have : (m : Int) = ((m % 128 : Nat) : Int) + 128 * ((m / 128 : Nat) : Int) := by omega
      rw [show (((m % 128 + 128 : Nat) : Int) - 128) = ((m % 128 : Nat) : Int) by omega, ← Int.mul_assoc, Int.mul_comm ((m / 128 : Nat) : Int) 128, Int.add_assoc, ← Int.add_mul, ← this]
/-- What was read is what, written, stands there. -/
theorem gl_ok : ∀ (l : List Int) (i : Nat) (a : Int), Bytes l → (gl i a l).2.2 = 0 → ∃ (m : Nat) (r : List Int), l = put m ++ r ∧ (0 < i → 0 < m) ∧ gl i a l = (a + m * 2 ^ (7 * i), (i : Int) + (put m).length, 0)
  | [], i, a, _, h => by simp [gl] at h
  | c :: l, i, a, hl, h => by
    have hc := hl c (by simp)
    rw [gl] at h
    split at h
    · simp at h
    · rename_i hb
      split at h
      · rename_i hs
        refine ⟨c.toNat, l, by rw [put_small (by omega)]; simp; omega, fun hi => ?_, ?_⟩
        · have : c ≠ 0 := fun h0 => hb (.inr ⟨hi, h0⟩)
          omega
        · rw [gl, if_neg hb, if_pos hs, put_small (by omega), Int.toNat_of_nonneg hc.1]; simp
      · rename_i hs
        obtain ⟨m, r, hr, hm, hg⟩ := gl_ok l (i + 1) _ (fun x hx => hl x (by simp [hx])) h
        have hm0 := hm (by omega)
        refine ⟨(c - 128).toNat + 128 * m, r, ?_, fun _ => by omega, ?_⟩
        · rw [put_great (by omega), show ((c - 128).toNat + 128 * m) / 128 = m by omega, hr]
          simp only [List.cons_append]; congr 1; omega
        · rw [gl, if_neg hb, if_neg hs, hg, put_great (n := (c - 128).toNat + 128 * m) (by omega), show ((c - 128).toNat + 128 * m) / 128 = m by omega]
          have hpi : (2 : Int) ^ (7 * (i + 1)) = 128 * 2 ^ (7 * i) := by rw [show 7 * (i + 1) = 7 + 7 * i by omega, Int.pow_add]; rfl
          rw [hpi]
          generalize (2 : Int) ^ (7 * i) = P
          simp only [Prod.mk.injEq, List.length_cons]
          refine ⟨?_, by omega, trivial⟩
          rw [show (((c - 128).toNat + 128 * m : Nat) : Int) = (c - 128) + 128 * m by omega, Int.add_mul, ← Int.mul_assoc (m : Int), Int.mul_comm (m : Int) 128]; omega
theorem gl_short : ∀ (l : List Int) (i : Nat) (a : Int), (gl i a l).2.2 = 2 → gl i a l = (0, (i : Int) + l.length, 2)
  | [], i, a, _ => by simp [gl]
  | c :: l, i, a, h => by
    rw [gl] at h ⊢
    split at h
    · simp at h
    · rename_i hb
      rw [if_neg hb]
      split at h
      · simp at h
      · rename_i hs
        rw [if_neg hs, gl_short l (i + 1) _ h]; simp; omega
theorem gl_errs : ∀ (l : List Int) (i : Nat) (a : Int), (gl i a l).2.2 = 0 ∨ (gl i a l).2.2 = 2 ∨ (gl i a l).2.2 = 3
  | [], i, a => by simp [gl]
  | c :: l, i, a => by
    rw [gl]
    split
    · simp
    · split
      · simp
      · exact gl_errs l _ _
/-- What is refused is refused at its byte, whatever stands behind; without it, it is cut off. -/
theorem gl_form3 : ∀ (l : List Int) (i : Nat) (a : Int), (gl i a l).2.2 = 3 → ∃ (p : List Int) (c : Int) (q : List Int), l = p ++ c :: q ∧ (∀ r, gl i a (p ++ c :: r) = (0, (i : Int) + p.length, 3)) ∧ gl i a p = (0, (i : Int) + p.length, 2)
  | [], i, a, h => by simp [gl] at h
  | c :: l, i, a, h => by
    rw [gl] at h
    split at h
    · rename_i hb
      exact ⟨[], c, l, rfl, fun r => by simp only [List.nil_append, gl]; rw [if_pos hb]; simp, by simp [gl]⟩
    · rename_i hb
      split at h
      · simp at h
      · rename_i hs
        obtain ⟨p, c', q, hp, h1, h2⟩ := gl_form3 l (i + 1) _ h
        refine ⟨c :: p, c', q, by rw [hp]; rfl, fun r => ?_, ?_⟩
        · simp only [List.cons_append, gl]; rw [if_neg hb, if_neg hs, h1 r]; simp; omega
        · simp only [gl]; rw [if_neg hb, if_neg hs, h2]; simp; omega
/-- A number cut off is cut off. -/
theorem gl_cut : ∀ (m i j : Nat) (a : Int), (0 < i → 0 < m) → i ≤ 9 → m * 2 ^ (7 * i) < 2 ^ 64 → j < (put m).length → gl i a ((put m).take j) = (0, (i : Int) + j, 2) := by
  intro m
  induction m using Nat.strongRecOn with
  | _ m ih =>
    intro i j a hm hi hb hj
    cases j with
    | zero => simp [gl]
    | succ j =>
      have h9 : i = 9 → m ≤ 1 := by
        intro h
        subst h
        have : (2 : Nat) ^ (7 * 9) = 9223372036854775808 := by decide
        have h2 : (2 : Nat) ^ 64 = 18446744073709551616 := by decide
        rw [this, h2] at hb; omega
      by_cases hs : m < 128
      · rw [put_small hs] at hj; simp at hj
      · have hi9 : i ≠ 9 := fun h => by have := h9 h; omega
        rw [put_great (by omega)] at hj ⊢
        simp only [List.length_cons] at hj
        simp only [List.take_succ_cons, gl]
        have hc : ¬ ((i = 9 ∧ 1 < ((m % 128 + 128 : Nat) : Int)) ∨ (0 < i ∧ ((m % 128 + 128 : Nat) : Int) = 0)) := by
          rintro (⟨h1, h2⟩ | ⟨h1, h2⟩) <;> omega
        rw [if_neg hc, if_neg (by omega)]
        have hp : (2 : Nat) ^ (7 * (i + 1)) = 128 * 2 ^ (7 * i) := by rw [show 7 * (i + 1) = 7 + 7 * i by omega, Nat.pow_add]
        have hle : m / 128 * 2 ^ (7 * (i + 1)) ≤ m * 2 ^ (7 * i) := by
          rw [hp, ← Nat.mul_assoc]; exact Nat.mul_le_mul_right _ (by omega)
        rw [ih (m / 128) (by omega) (i + 1) j _ (fun _ => by omega) (by omega) (by omega) (by omega)]
        simp; omega
theorem get_f (l : List Int) (hl : Bytes l) (hn : l.length ≤ 140737488355328) : number_Get.f l = some (gl 0 0 l) := by
  unfold number_Get.f
  rw [if_pos]
  simp only [Bool.and_eq_true, List.all_eq_true, decide_eq_true_eq]
  exact ⟨hl, hn⟩
end Go.Proofs.Ythbhggpajgokcaa.Ext
