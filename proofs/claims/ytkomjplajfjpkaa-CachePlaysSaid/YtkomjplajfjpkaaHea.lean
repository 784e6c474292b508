/- Heaps as lists: what up and down leave. No program in sight. -/
import Derived.WalkKit
namespace Go.Proofs.Ytkomjplajfjpkaa.Hea
set_option linter.unusedVariables false
set_option linter.unusedSimpArgs false
/-- An entry: its block, its key, its time. -/
structure Ent where
  b : Nat
  k : ByteArray
  t : Int
def E0 : Ent := ⟨0, ByteArray.empty, 0⟩
def at_ (l : List Ent) (i : Nat) : Ent := l.getD i E0
def swapL (l : List Ent) (i j : Nat) : List Ent := (l.set i (at_ l j)).set j (at_ l i)
structure Ord (less : Ent → Ent → Bool) : Prop where
  asym : ∀ a b, less a b = true → less b a = false
  trans : ∀ a b c, less a b = true → less b c = true → less a c = true
  le : ∀ a b c, less b a = false → less c b = false → less c a = false
theorem at_lt {l : List Ent} {i : Nat} (h : i < l.length) : at_ l i = l[i] := by
  unfold at_; rw [List.getD_eq_getElem?_getD, List.getElem?_eq_getElem h]; rfl
theorem at_some {l : List Ent} {i : Nat} (h : i < l.length) : l[i]? = some (at_ l i) := by
  rw [at_lt h, List.getElem?_eq_getElem h]
theorem at_set (l : List Ent) (i k : Nat) (e : Ent) (h : i < l.length) : at_ (l.set i e) k = if k = i then e else at_ l k := by
  unfold at_
  rw [List.getD_eq_getElem?_getD, List.getD_eq_getElem?_getD, List.getElem?_set]
  by_cases hk : i = k
  · subst hk; rw [if_pos rfl, if_pos h, if_pos rfl]; rfl
  · rw [if_neg hk, if_neg (fun e => hk e.symm)]
theorem swap_len (l : List Ent) (i j : Nat) : (swapL l i j).length = l.length := by unfold swapL; simp
theorem at_swap (l : List Ent) (i j k : Nat) (hi : i < l.length) (hj : j < l.length) : at_ (swapL l i j) k = if k = j then at_ l i else if k = i then at_ l j else at_ l k := by
  unfold swapL
  rw [at_set _ _ _ _ (by simpa using hj), at_set _ _ _ _ hi]
theorem set_perm {l : List Ent} {i : Nat} (h : i < l.length) (e : Ent) : (at_ l i :: l.set i e).Perm (e :: l) := by
  induction l generalizing i with
  | nil => cases h
  | cons x l ih =>
    cases i with
    | zero => exact List.Perm.swap _ _ _
    | succ i =>
      have h' : i < l.length := by simpa using h
      have := ih h'
      have e1 : at_ (x :: l) (i + 1) = at_ l i := rfl
      rw [e1, List.set_cons_succ]
      exact ((List.Perm.swap _ _ _).trans (this.cons x)).trans (List.Perm.swap _ _ _)
theorem swap_perm {l : List Ent} {i j : Nat} (hi : i < l.length) (hj : j < l.length) : (swapL l i j).Perm l := by
  have h1 := set_perm hi (at_ l j)
  have h2 := set_perm (l := l.set i (at_ l j)) (i := j) (by simpa using hj) (at_ l i)
  by_cases he : i = j
  · subst he
    unfold swapL
    have e : l.set i (at_ l i) = l := by
      rw [at_lt hi]; exact List.set_getElem_self hi
    rw [e, e]
  · have e : at_ (l.set i (at_ l j)) j = at_ l j := by rw [at_set _ _ _ _ hi, if_neg (fun e => he e.symm)]
    rw [e] at h2
    have h3 := (h2.trans h1)
    exact h3.cons_inv
/-- The first n are a heap. -/
def HeapN (less : Ent → Ent → Bool) (l : List Ent) (n : Nat) : Prop := ∀ i, 0 < i → i < n → less (at_ l i) (at_ l ((i - 1) / 2)) = false
def UpInv (less : Ent → Ent → Bool) (l : List Ent) (n j : Nat) : Prop :=
  (∀ i, 0 < i → i < n → i ≠ j → less (at_ l i) (at_ l ((i - 1) / 2)) = false) ∧
  (0 < j → ∀ c, 0 < c → c < n → (c - 1) / 2 = j → less (at_ l c) (at_ l ((j - 1) / 2)) = false)
def DownInv (less : Ent → Ent → Bool) (l : List Ent) (n i : Nat) : Prop :=
  (∀ c, 0 < c → c < n → (c - 1) / 2 ≠ i → less (at_ l c) (at_ l ((c - 1) / 2)) = false) ∧
  (0 < i → ∀ c, 0 < c → c < n → (c - 1) / 2 = i → less (at_ l c) (at_ l ((i - 1) / 2)) = false)
section
variable {less : Ent → Ent → Bool} (O : Ord less) {l : List Ent} {n i j : Nat}
include O
theorem up_step (hn : n ≤ l.length) (hj : 0 < j) (hjn : j < n) (h : UpInv less l n j) (hl : less (at_ l j) (at_ l ((j - 1) / 2)) = true) : UpInv less (swapL l ((j - 1) / 2) j) n ((j - 1) / 2) := by
  obtain ⟨h1, h2⟩ := h
  have hp : (j - 1) / 2 < j := by omega
  have hs := fun k => at_swap l ((j - 1) / 2) j k (by omega) (by omega)
  generalize hP : (j - 1) / 2 = p at *
  refine ⟨fun i hi hin hip => ?_, fun hp0 c hc hcn hcp => ?_⟩
  · rw [hs, hs]
    by_cases e1 : i = j
    · subst e1
      rw [if_pos rfl, if_neg (by omega), if_pos hP]
      exact O.asym _ _ hl
    · rw [if_neg e1, if_neg hip]
      by_cases e2 : (i - 1) / 2 = p
      · rw [if_neg (by omega), if_pos e2]
        have h3 := h1 i hi hin e1
        rw [e2] at h3
        cases h4 : less (at_ l i) (at_ l j) with
        | false => rfl
        | true => rw [O.trans _ _ _ h4 hl] at h3; cases h3
      · by_cases e3 : (i - 1) / 2 = j
        · rw [if_pos e3]
          exact h2 hj i hi hin e3
        · rw [if_neg e3, if_neg e2]
          exact h1 i hi hin e1
  · rw [hs, hs]
    have h3 := h1 p hp0 (by omega) (by omega)
    rw [if_neg (show ¬ (p - 1) / 2 = j by omega), if_neg (show ¬ (p - 1) / 2 = p by omega)]
    by_cases e1 : c = j
    · rw [if_pos e1]; exact h3
    · rw [if_neg e1, if_neg (by omega)]
      have h4 := h1 c hc hcn e1
      rw [hcp] at h4
      exact O.le _ _ _ h3 h4
omit O in
theorem up_done (h : UpInv less l n j) (hl : j = 0 ∨ less (at_ l j) (at_ l ((j - 1) / 2)) = false) : HeapN less l n := by
  intro i hi hin
  by_cases e : i = j
  · subst e
    rcases hl with h0 | h0
    · omega
    · exact h0
  · exact h.1 i hi hin e
theorem down_step (hn : n ≤ l.length) (hjn : j < n) (hij : (j - 1) / 2 = i) (hj : 0 < j) (h : DownInv less l n i) (hl : less (at_ l j) (at_ l i) = true)
    (hm : ∀ c, 0 < c → c < n → (c - 1) / 2 = i → less (at_ l c) (at_ l j) = false) : DownInv less (swapL l i j) n j := by
  obtain ⟨h1, h2⟩ := h
  have hs := fun k => at_swap l i j k (by omega) (by omega)
  refine ⟨fun c hc hcn hcj => ?_, fun hj0 c hc hcn hcj => ?_⟩
  · rw [hs, hs]
    rw [if_neg hcj]
    by_cases e1 : c = j
    · subst e1
      rw [if_pos rfl, if_pos hij]
      exact O.asym _ _ hl
    · rw [if_neg e1]
      by_cases e2 : c = i
      · subst e2
        rw [if_pos rfl, if_neg (by omega)]
        exact h2 hc j hj hjn hij
      · rw [if_neg e2]
        by_cases e3 : (c - 1) / 2 = i
        · rw [if_pos e3]; exact hm c hc hcn e3
        · rw [if_neg e3]; exact h1 c hc hcn e3
  · rw [hs, hs, if_neg (show ¬ c = j by omega), if_neg (show ¬ c = i by omega), if_neg (show ¬ (j - 1) / 2 = j by omega), if_pos hij]
    have h3 := h1 c hc hcn (by omega)
    rw [hcj] at h3
    exact h3
omit O in
theorem down_done (h : DownInv less l n i) (hl : ∀ c, 0 < c → c < n → (c - 1) / 2 = i → less (at_ l c) (at_ l i) = false) : HeapN less l n := by
  intro c hc hcn
  by_cases e : (c - 1) / 2 = i
  · rw [e]; exact hl c hc hcn e
  · exact h.1 c hc hcn e
theorem heap_root (h : HeapN less l n) (hr : ∀ a, less a a = false) : ∀ i, i < n → less (at_ l i) (at_ l 0) = false := by
  intro i
  induction i using Nat.strongRecOn with
  | ind i ih =>
    intro hi
    by_cases h0 : i = 0
    · subst h0; exact hr _
    · exact O.le _ _ _ (ih ((i - 1) / 2) (by omega) (by omega)) (h i (by omega) hi)
theorem up_inv_of_heap (h : HeapN less l n) : UpInv less l n j := by
  refine ⟨fun i hi hin _ => h i hi hin, fun hj c hc hcn hcj => ?_⟩
  have h1 := h c hc hcn
  rw [hcj] at h1
  exact O.le _ _ _ (h j hj (by omega)) h1
omit O in
theorem push_inv (h : HeapN less l l.length) (e : Ent) : UpInv less (l ++ [e]) (l.length + 1) l.length := by
  have ha : ∀ i, i < l.length → at_ (l ++ [e]) i = at_ l i := by
    intro i hi
    unfold at_
    rw [List.getD_eq_getElem?_getD, List.getD_eq_getElem?_getD, List.getElem?_append_left hi]
  refine ⟨fun i hi hin hne => ?_, fun hj c hc hcn hcj => by omega⟩
  rw [ha i (by omega), ha _ (by omega)]
  exact h i hi (by omega)
theorem fix_inv (h : HeapN less l l.length) (hi : i < l.length) (e : Ent) (he : less (at_ l i) e = true) : DownInv less (l.set i e) l.length i := by
  have hs := fun k => at_set l i k e hi
  refine ⟨fun c hc hcn hci => ?_, fun h0 c hc hcn hci => ?_⟩
  · rw [hs, hs, if_neg hci]
    by_cases e1 : c = i
    · subst e1
      rw [if_pos rfl]
      exact O.le _ _ _ (h c hc hcn) (O.asym _ _ he)
    · rw [if_neg e1]; exact h c hc hcn
  · rw [hs, hs, if_neg (by omega), if_neg (by omega)]
    have h1 := h c hc hcn
    rw [hci] at h1
    exact O.le _ _ _ (h i h0 hi) h1
omit O in
theorem pop_inv (h : HeapN less l (n + 1)) (hn : n + 1 = l.length) : DownInv less (swapL l 0 n) n 0 := by
  have hs := fun k => at_swap l 0 n k (by omega) (by omega)
  refine ⟨fun c hc hcn hci => ?_, fun h0 => by omega⟩
  rw [hs, hs, if_neg (by omega), if_neg (by omega), if_neg (by omega), if_neg (by omega)]
  exact h c hc (by omega)
end
/-- What is popped, and what is left. -/
theorem pop_perm {l l' : List Ent} {n : Nat} (hn : n + 1 = l.length) (hp : l'.Perm l) (hl : at_ l' n = at_ l 0) : (l'.take n).Perm l.tail := by
  have hlen := hp.length_eq
  cases l with
  | nil => simp at hn
  | cons x tl =>
    have e0 : at_ (x :: tl) 0 = x := rfl
    rw [e0] at hl
    have h1 : l' = l'.take n ++ [x] := by
      have h2 : l'.drop n = [x] := by
        rw [List.drop_eq_getElem_cons (by omega), List.drop_eq_nil_of_le (by omega), ← at_lt (by omega), hl]
      rw [← h2, List.take_append_drop]
    have h3 : (l'.take n ++ [x]).Perm (x :: tl) := h1 ▸ hp
    exact ((List.perm_append_singleton x _).symm.trans h3).cons_inv
end Go.Proofs.Ytkomjplajfjpkaa.Hea
