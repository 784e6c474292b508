/- field.Names in plain words: each name once, in order. -/
import Derived.Test.YtbldmicpnibnpaaNam
import Derived.Test.YtbldmicpnibnpaaFie
namespace Go.Proofs.Ytbldmicpnibnpaa.Pure
open Go.RowKit Go.Proofs.Ytbldmicpnibnpaa.Xa Go.Proofs.Ytbldmicpnibnpaa.Ext Go.Proofs.YtbldmicpnibnpaaW.PrintWords Go.Proofs.YtbldmicpnibnpaaW.PrintLast
open Go.Maps Go.Sort
set_option linter.unusedVariables false
set_option linter.unusedSimpArgs false
def SK (D : DataW Unit) : Prop := ∃ es, D = .map es ∧ es.Pairwise (fun p q => p.1 ≠ q.1) ∧ ∀ p ∈ es, ∃ x, p.1 = .string x
theorem SK.put {D : DataW Unit} (h : SK D) (e : S31) (d : DataW Unit) : SK (D.put (nkey e) d) := by
  obtain ⟨es, rfl, hp, hs⟩ := h
  obtain ⟨es', he, hp'⟩ := Go.Maps.Tidy.put (D := .map es) ⟨es, rfl, hp⟩ (nkey_key e) d
  refine ⟨es', he, hp', fun p hpm => ?_⟩
  have he' : DataW.insert (nkey e, d) (es.filter fun p => !p.1.sameKey (nkey e)) = es' := by
    have : (DataW.map (DataW.insert (nkey e, d) (es.filter fun p => !p.1.sameKey (nkey e)))) = DataW.map es' := he
    injection this
  rw [← he'] at hpm
  rcases Go.ChangeMaps.mem_insert_iff.1 hpm with rfl | hm
  · exact ⟨_, rfl⟩
  · exact hs p (List.mem_filter.1 hm).1
theorem sk_fold : ∀ (l : List S31) (D : DataW Unit), SK D → SK (l.foldl (fun D e => D.put (nkey e) (.lit (.bool true))) D)
  | [], _, h => h
  | e :: l, D, h => sk_fold l _ (h.put e _)
theorem sk_nD (l : List S31) : SK (nD l) := sk_fold l _ ⟨[], rfl, List.Pairwise.nil, fun _ h => by simp at h⟩
/-- A name's bytes, in small letters. -/
def nm (e : S31) : List UInt8 := (lower e.f0).data.toList
theorem has_fold (x : List UInt8) : ∀ (l : List S31) (D : DataW Unit), IsMap D → Go.Maps.has (l.foldl (fun D e => D.put (nkey e) (.lit (.bool true))) D) (.string x) = (Go.Maps.has D (.string x) || l.any (fun e => decide (nm e = x)))
  | [], D, _ => by simp
  | e :: l, D, h => by
    rw [List.foldl_cons, has_fold x l _ (h.put _ _), List.any_cons]
    by_cases hk : nm e = x
    · subst hk
      rw [show (Lit.string (nm e)) = nkey e from rfl, Go.Maps.has_put_same h (nkey_key e), decide_eq_true rfl]
      simp
    · rw [Go.Maps.has_put_other (fun h => hk (by unfold nkey at h; injection h with h; exact h.symm)), decide_eq_false hk]
      simp
theorem sk_mem {D : DataW Unit} (h : SK D) (x : List UInt8) : x ∈ strKeys D ↔ Go.Maps.has D (.string x) = true := by
  obtain ⟨es, rfl, hp, hs⟩ := h
  rw [Go.Maps.has_eq, List.any_eq_true]
  unfold strKeys
  rw [List.mem_map]
  constructor
  · rintro ⟨p, hp, rfl⟩
    obtain ⟨y, hy⟩ := hs p hp
    refine ⟨p, hp, ?_⟩
    rw [hy]
    simp [strOf, Lit.sameKey]
  · rintro ⟨p, hp, hk⟩
    refine ⟨p, hp, ?_⟩
    rw [WideAt.sameKey_eq hk]
    rfl
theorem sk_nodup {D : DataW Unit} (h : SK D) : (strKeys D).Nodup := by
  obtain ⟨es, rfl, hp, hs⟩ := h
  unfold strKeys List.Nodup
  rw [List.pairwise_map]
  refine hp.imp_of_mem fun {a b} ha hb hne => ?_
  obtain ⟨x, hx⟩ := hs a ha
  obtain ⟨y, hy⟩ := hs b hb
  rw [hx, hy] at hne ⊢
  intro he
  exact hne (congrArg Lit.string he)
theorem nD_mem (l : List S31) (x : List UInt8) : x ∈ strKeys (nD l) ↔ ∃ e ∈ l, nm e = x := by
  rw [sk_mem (sk_nD l)]
  unfold nD
  rw [has_fold _ l _ Go.Maps.isMap_empty]
  have h0 : Go.Maps.has (.map [] : DataW Unit) (.string x) = false := rfl
  rw [h0, Bool.false_or, List.any_eq_true]
  constructor
  · rintro ⟨e, he, hk⟩
    refine ⟨e, he, ?_⟩
    exact of_decide_eq_true hk
  · rintro ⟨e, he, rfl⟩
    exact ⟨e, he, decide_eq_true rfl⟩
theorem leS_trans (a b c : List UInt8) (h1 : leS a b = true) (h2 : leS b c = true) : leS a c = true := by
  simp only [leS, decide_eq_true_eq] at *; exact List.le_trans h1 h2
theorem leS_total (a b : List UInt8) : (leS a b || leS b a) = true := by
  simp only [leS, Bool.or_eq_true, decide_eq_true_eq]; exact List.le_total a b
/-- All names' bytes, each once, in order. -/
def nms (l : List S31) : List (List UInt8) := (strKeys (nD l)).mergeSort leS
theorem nms_mem (l : List S31) (x : List UInt8) : x ∈ nms l ↔ ∃ e ∈ l, nm e = x := by
  unfold nms
  rw [(List.mergeSort_perm _ _).mem_iff, nD_mem]
theorem nms_nodup (l : List S31) : (nms l).Nodup := (List.mergeSort_perm _ _).nodup_iff.2 (sk_nodup (sk_nD l))
theorem nms_sorted (l : List S31) : (nms l).Pairwise (fun a b => leS a b = true) := List.pairwise_mergeSort leS_trans leS_total _
theorem nms_len (l : List S31) : (nms l).length ≤ l.length := by
  unfold nms
  rw [List.length_mergeSort]
  have h := nD_size l
  obtain ⟨es, he, _⟩ := sk_nD l
  rw [he] at h ⊢
  unfold strKeys
  rw [List.length_map]
  exact h
theorem nms_ext {l m : List S31} (h : ∀ x, (∃ e ∈ l, nm e = x) ↔ ∃ e ∈ m, nm e = x) : nms l = nms m := by
  refine List.Perm.eq_of_pairwise (le := fun a b => leS a b = true) (fun a b _ _ h1 h2 => ?_) (nms_sorted l) (nms_sorted m) ((List.perm_ext_iff_of_nodup (nms_nodup l) (nms_nodup m)).2 fun x => by rw [nms_mem, nms_mem]; exact h x)
  simp only [leS, decide_eq_true_eq] at h1 h2
  exact List.le_antisymm h1 h2
theorem names_eq (l : List S31) : namesF l = (nms l).map (fun x => (⟨x.toArray⟩ : ByteArray)) := rfl
theorem less_of_lt : ∀ (a b : List UInt8), a < b → Op.bytesLess a b = true
  | [], [], h => absurd h (List.not_lt_nil [])
  | _ :: _, [], h => absurd h (List.not_lt_nil _)
  | [], _ :: _, _ => rfl
  | x :: a, y :: b, h => by
    unfold Op.bytesLess
    rcases List.cons_lt_cons_iff.1 h with h' | ⟨e', h'⟩
    · simp [h']
    · subst e'
      simp [less_of_lt a b h']
theorem nms_less (l : List S31) (i j : Nat) (hij : i < j) (hj : j < (nms l).length) : Op.bytesLess ((nms l)[i]'(by omega)) ((nms l)[j]'hj) = true := by
  have h1 := List.pairwise_iff_getElem.1 (nms_sorted l) i j (by omega) hj hij
  have h2 := List.pairwise_iff_getElem.1 (nms_nodup l) i j (by omega) hj hij
  simp only [leS, decide_eq_true_eq] at h1
  refine less_of_lt _ _ ?_
  rcases List.le_iff_lt_or_eq.1 h1 with h | h
  · exact h
  · exact absurd h h2
end Go.Proofs.Ytbldmicpnibnpaa.Pure
