/- LineWays, in plain words. -/
import Derived.Test.YtjflbjlkcifpdaaDoorOverP
namespace Go.Proofs.YtjflbjlkcifpdaaDoor.Ext
open Go.RowKit Go.Proofs.YtjflbjlkcifpdaaDoor.Xa Go.Proofs.YtjflbjlkcifpdaaDoorW.PrintWords Go.Proofs.YtjflbjlkcifpdaaDoorW.PrintLast
open Go.Maps (Tidy)
set_option linter.unusedVariables false
set_option linter.unusedSimpArgs false
def tU : ByteArray := ⟨#[104, 116, 116, 112, 115, 58, 47, 47, 97, 46, 101, 120, 97, 109, 112, 108, 101, 47]⟩
def tS : ByteArray := ⟨#[97]⟩
/-- One event of each kind. -/
def kev (k L id : Int) : S31 :=
  ⟨k, L, id, if k = 3 then tG else if k = 4 ∨ k = 6 ∨ k = 9 ∨ k = 12 then tS else if k = 11 then tU else E0, if k = 3 then tU else E0, E0, E0, if k = 7 ∨ k = 10 then 200 else 0, 0, 0⟩
theorem kev_right1 : ∀ K : Fin 15, 3 ≤ K.val → rightS (kev (K.val : Int) 0 1) = true := by decide +kernel
theorem kev_right (K : Fin 15) (h : 3 ≤ K.val) (L id : Int) (hid : id ≠ 0) : rightS (kev (K.val : Int) L id) = true := by
  rw [← kev_right1 K h]
  unfold rightS rightF
  show (_ && (_ == decide (id = 0)) && _ && _) = (_ && (_ == decide ((1 : Int) = 0)) && _ && _)
  rw [decide_eq_false hid]
  rfl
/-- How many of the kinds ahead of K are taken. -/
def takes (X : LS) (id : Int) (k : Int) : Bool := (feedF X (kev k X.last id)).1 == 0
def cntF (X : LS) (id : Int) (m : Nat) : Nat := (List.range m).countP (fun j => takes X id ((j + 3 : Nat) : Int))
theorem cnt_next (X : LS) (id : Int) (m : Nat) : cntF X id (m + 1) = cntF X id m + (if takes X id ((m + 3 : Nat) : Int) = true then 1 else 0) := by
  unfold cntF
  rw [List.range_succ, List.countP_append, List.countP_cons, List.countP_nil, Nat.zero_add]
theorem cnt_le (X : LS) (id : Int) (m : Nat) : cntF X id m ≤ m := by
  unfold cntF
  have := List.countP_le_length (p := fun j => takes X id ((j + 3 : Nat) : Int)) (l := List.range m)
  simpa using this
/-- What a line is that took what it takes. -/
structure Wa (X : LS) : Prop where
  tidy : Tidy X.D
  st : ∀ id, 0 ≤ X.st id ∧ X.st id ≤ 7
theorem Wa.start : Wa L0 := ⟨tidy_L0, fun id => by rw [show L0.st id = 0 from rfl]; omega⟩
theorem way_range : ∀ K : Fin 15, 4 ≤ K.val → 0 ≤ (wayOf (K.val : Int)).2 ∧ (wayOf (K.val : Int)).2 ≤ 7 := by decide
theorem nv_range {X : LS} {e : S31} (ht : Taken X e) (ha : ¬ alone e) : 0 ≤ nv e ∧ nv e ≤ 7 := by
  unfold nv
  split
  · omega
  · rename_i h3
    have hk := rightS_kind ht.right
    have : ¬ (e.f0 = 1 ∨ e.f0 = 2) := ha
    obtain ⟨K, hK⟩ := Int.eq_ofNat_of_zero_le (show 0 ≤ e.f0 by omega)
    rw [hK]
    exact way_range ⟨K, by omega⟩ (by simp; omega)
theorem Wa.feed {X : LS} (h : Wa X) (e : S31) : Wa (feedF X e).2 := by
  by_cases h0 : (feedF X e).1 = 0
  · have ht := (feedF_ok X e).1 h0
    rw [feedF_next ht]
    refine ⟨next_tidy h.tidy, fun id => ?_⟩
    by_cases ha : alone e
    · show 0 ≤ (next X e).st id ∧ (next X e).st id ≤ 7
      rw [next_st_alone ha]; exact h.st id
    · show 0 ≤ (next X e).st id ∧ (next X e).st id ≤ 7
      by_cases hid : id = e.f2
      · subst hid; rw [next_st_same h.tidy ha]; exact nv_range ht ha
      · rw [next_st_other hid]; exact h.st id
  · rw [feedF_no X e h0]; exact h
theorem feed_has {X : LS} (h : Wa X) (id : Int) (e : S31) : (feedF X e).2.has id = (X.has id || ((feedF X e).1 == 0 && e.f0 == 3 && e.f2 == id)) := by
  by_cases h0 : (feedF X e).1 = 0
  · have ht := (feedF_ok X e).1 h0
    rw [feedF_next ht]
    show (next X e).has id = _
    simp only [beq_self_eq_true, Bool.true_and]
    by_cases ha : alone e
    · rw [next_has_alone ha]
      have : (e.f0 == 3) = false := by rw [beq_eq_false_iff_ne]; rcases ha with ha | ha <;> omega
      rw [this]; simp
    · by_cases hid : id = e.f2
      · subst hid
        rw [next_has_same h.tidy ha]
        by_cases h3 : e.f0 = 3
        · simp [h3]
        · have h4 : 4 ≤ e.f0 := by have hk := rightS_kind ht.right; have : ¬ (e.f0 = 1 ∨ e.f0 = 2) := ha; omega
          have hs := taken_st ht h4
          cases hh : X.has e.f2 with
          | true => simp
          | false => exact absurd (st_none hh) hs
      · rw [next_has_other hid]
        have : (e.f2 == id) = false := by rw [beq_eq_false_iff_ne]; exact fun h => hid h.symm
        rw [this]; simp
  · rw [feedF_no X e h0]
    have : ((feedF X e).1 == 0) = false := by rw [beq_eq_false_iff_ne]; exact h0
    rw [this]; simp
theorem begs_is (id : Int) : ∀ (l : List S31) (X : LS), Wa X → begs id (X, X.has id) l = (feeds X l, (feeds X l).has id) ∧ Wa (feeds X l)
  | [], X, h => ⟨rfl, h⟩
  | e :: l, X, h => by
    have ih := begs_is id l (feedF X e).2 (h.feed e)
    have e1 : begF id (X, X.has id) e = ((feedF X e).2, (feedF X e).2.has id) := by unfold begF; rw [feed_has h id e]
    show begs id (begF id (X, X.has id) e) l = _ ∧ _
    rw [e1]
    exact ih
theorem feed_c (X : LS) (e : S31) : (feedF X e).2.c ≤ X.c + 1 := by
  by_cases h0 : (feedF X e).1 = 0
  · rw [feedF_next ((feedF_ok X e).1 h0)]; show (next X e).c ≤ _; rw [next_c]; omega
  · rw [feedF_no X e h0]; omega
theorem feeds_c : ∀ (l : List S31) (X : LS), (feeds X l).c ≤ X.c + l.length
  | [], X => Nat.le_refl _
  | e :: l, X => by
    have h1 := feeds_c l (feedF X e).2
    have h2 := feed_c X e
    show (feeds (feedF X e).2 l).c ≤ _
    rw [List.length_cons]; omega
theorem takes_is {X : LS} {id : Int} (hid : id ≠ 0) (hc : X.c ≠ 0) (hc2 : X.c < 4096) (ho : X.op < 64) (K : Fin 15) (h : 3 ≤ K.val) : takes X id (K.val : Int) = mayF X (K.val : Int) id := by
  unfold takes
  cases hm : mayF X (K.val : Int) id with
  | true =>
    have : Taken X (kev (K.val : Int) X.last id) := ⟨kev_right K h X.last id hid, by omega, by show ¬ X.last < X.last; omega, hm, fun _ => by omega⟩
    rw [(feedF_ok X _).2 this]; rfl
  | false =>
    rw [beq_eq_false_iff_ne]
    intro h0
    have := ((feedF_ok X _).1 h0).may
    rw [show mayF X (kev (K.val : Int) X.last id).f0 (kev (K.val : Int) X.last id).f2 = mayF X (K.val : Int) id from rfl, hm] at this
    cases this
def tabW (s : Int) : Nat := [1, 4, 3, 2, 3, 4, 3, 2].getD s.toNat 0
theorem tab_ways : ∀ S : Fin 8, 1 ≤ S.val → (List.range 12).countP (fun j => if j = 0 then false else (wayOf ((j + 3 : Nat) : Int)).1.contains (S.val : Int)) = [1, 4, 3, 2, 3, 4, 3, 2].getD S.val 0 := by decide +kernel
theorem tab_0 : (List.range 12).countP (fun j => if j = 0 then true else (wayOf ((j + 3 : Nat) : Int)).1.contains 0) = 1 := by decide +kernel
theorem tab_00 : (List.range 12).countP (fun j => if j = 0 then false else (wayOf ((j + 3 : Nat) : Int)).1.contains 0) = 0 := by decide +kernel
theorem cnt_all {X : LS} {id : Int} (h : Wa X) (hid : id ≠ 0) (hc : X.c ≠ 0) (hc2 : X.c < 4096) (ho : X.op < 64) : cntF X id 12 = if X.has id = true ∧ X.st id = 0 then 0 else tabW (X.st id) := by
  have key : ∀ j, j < 12 → takes X id ((j + 3 : Nat) : Int) = if j = 0 then !X.has id else (wayOf ((j + 3 : Nat) : Int)).1.contains (X.st id) := fun j hj => by
    have t0 := takes_is hid hc hc2 ho ⟨j + 3, by omega⟩ (by simp)
    have t1 : takes X id ((j + 3 : Nat) : Int) = mayF X ((j + 3 : Nat) : Int) id := t0
    rw [t1]
    clear t0 t1
    by_cases h0 : j = 0
    · subst h0; rw [if_pos rfl]; exact may_sta hc
    · rw [if_neg h0]; exact may_res hc (by omega)
  have e1 : cntF X id 12 = (List.range 12).countP (fun j => if j = 0 then !X.has id else (wayOf ((j + 3 : Nat) : Int)).1.contains (X.st id)) := by
    unfold cntF
    exact List.countP_congr (fun j hj => by rw [key j (List.mem_range.1 hj)])
  rw [e1]
  cases hh : X.has id with
  | false =>
    rw [st_none hh, if_neg (by simp)]
    exact tab_0
  | true =>
    by_cases hs : X.st id = 0
    · rw [if_pos ⟨rfl, hs⟩, hs]; exact tab_00
    · rw [if_neg (fun hx => hs hx.2)]
      have hr := h.st id
      obtain ⟨S, hS⟩ := Int.eq_ofNat_of_zero_le hr.1
      rw [hS]
      exact tab_ways ⟨S, by omega⟩ (by simp; omega)
end Go.Proofs.YtjflbjlkcifpdaaDoor.Ext
