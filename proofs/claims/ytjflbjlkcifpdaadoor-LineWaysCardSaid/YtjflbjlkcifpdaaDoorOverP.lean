/- LineOver: by hand. Written by a program of this session (wip/tools). -/
import Derived.Test.YtjflbjlkcifpdaaDoorLineP
import Derived.Test.YtjflbjlkcifpdaaDoorLineQ
namespace Go.Proofs.YtjflbjlkcifpdaaDoor.Ext
open Go.RowKit Go.Proofs.YtjflbjlkcifpdaaDoor.Xa Go.Proofs.YtjflbjlkcifpdaaDoorW.PrintWords Go.Proofs.YtjflbjlkcifpdaaDoorW.PrintLast Go.Proofs.YtjflbjlkcifpdaaDoorW.PrintMore
open Go.Maps (Tidy)
set_option linter.unusedVariables false
set_option linter.unusedSimpArgs false
theorem way_no0 : ∀ K : Fin 15, 4 ≤ K.val → (wayOf (K.val : Int)).1.contains 0 = false := by decide
theorem way_end : ∀ K : Fin 15, 4 ≤ K.val → ((wayOf (K.val : Int)).2 = 0 ↔ K.val = 13 ∨ K.val = 14) := by decide
/-- Those begun, those over. -/
structure Ovp (X : LS) (os bs : List Int) : Prop where
  tidy : Tidy X.D
  has : ∀ id, X.has id = bs.contains id
  over : ∀ id, os.contains id = true → X.has id = true ∧ X.st id = 0
  op : X.op = (bs.length : Int) - os.length
theorem Ovp.start : Ovp L0 [] [] := ⟨tidy_L0, fun _ => rfl, fun _ h => by simp at h, rfl⟩
theorem st_none {X : LS} {id : Int} (h : X.has id = false) : X.st id = 0 := st_of _ _ _ (Go.Maps.atKey_of_not_has h _)
theorem taken_st {X : LS} {e : S31} (ht : Taken X e) (h4 : 4 ≤ e.f0) : X.st e.f2 ≠ 0 := by
  have hk := rightS_kind ht.right
  have hm := ht.may
  rw [may_res (may_c hm (by omega)) h4] at hm
  intro h0
  rw [h0] at hm
  obtain ⟨K, hK⟩ := Int.eq_ofNat_of_zero_le (show 0 ≤ e.f0 by omega)
  rw [hK, way_no0 ⟨K, by omega⟩ (by simp; omega)] at hm
  cases hm
theorem Ovp.notOver {X : LS} {os bs : List Int} {e : S31} (h : Ovp X os bs) (ht : Taken X e) (h3 : 3 ≤ e.f0) : os.contains e.f2 = false := by
  cases hc : os.contains e.f2 with
  | false => rfl
  | true =>
    obtain ⟨h1, h2⟩ := h.over _ hc
    by_cases hs : e.f0 = 3
    · have hm := ht.may
      rw [hs, may_sta (may_c hm (by omega)), h1] at hm
      cases hm
    · exact absurd h2 (taken_st ht (by omega))
theorem Ovp.newOne {X : LS} {os bs : List Int} {e : S31} (h : Ovp X os bs) (ht : Taken X e) (h3 : e.f0 = 3) : bs.contains e.f2 = false := by
  have hm := ht.may
  rw [h3, may_sta (may_c hm (by omega)), h.has] at hm
  simpa using hm
theorem Ovp.oldOne {X : LS} {os bs : List Int} {e : S31} (h : Ovp X os bs) (ht : Taken X e) (h4 : 4 ≤ e.f0) : bs.contains e.f2 = true := by
  cases hc : bs.contains e.f2 with
  | true => rfl
  | false => exact absurd (st_none (by rw [h.has]; exact hc)) (taken_st ht h4)
theorem Ovp.alone {X : LS} {os bs : List Int} {e : S31} (h : Ovp X os bs) (ha : Ext.alone e) : Ovp (next X e) os bs :=
  ⟨next_tidy h.tidy, fun id => by rw [next_has_alone ha]; exact h.has id, fun id hi => by rw [next_has_alone ha, next_st_alone ha]; exact h.over id hi, by rw [next_op_alone X ha]; exact h.op⟩
theorem next_op_start (X : LS) {e : S31} (h : e.f0 = 3) : (next X e).op = X.op + 1 := by unfold next; rw [if_pos h]
theorem next_op_rest (X : LS) {e : S31} (h : ¬ Ext.alone e) (h3 : e.f0 ≠ 3) : (next X e).op = if (wayOf e.f0).2 = 0 then X.op - 1 else X.op := by
  unfold next; rw [if_neg h3, if_neg (show ¬ (e.f0 = 1 ∨ e.f0 = 2) from h)]
theorem Ovp.begin {X : LS} {os bs : List Int} {e : S31} (h : Ovp X os bs) (ht : Taken X e) (h3 : e.f0 = 3) : Ovp (next X e) os (bs ++ [e.f2]) := by
  have ha : ¬ Ext.alone e := fun ha => by rcases ha with ha | ha <;> omega
  have hno := h.notOver ht (by omega)
  refine ⟨next_tidy h.tidy, fun id => ?_, fun id hi => ?_, by rw [next_op_start X h3, h.op, List.length_append]; simp; omega⟩
  · by_cases hid : id = e.f2
    · subst hid; rw [next_has_same h.tidy ha]; simp
    · rw [next_has_other hid, h.has]; simp [hid]
  · have hid : id ≠ e.f2 := fun hh => by rw [hh, hno] at hi; cases hi
    rw [next_has_other hid, next_st_other hid]; exact h.over id hi
theorem Ovp.on {X : LS} {os bs : List Int} {e : S31} (h : Ovp X os bs) (ht : Taken X e) (h4 : 4 ≤ e.f0) (h13 : e.f0 ≤ 12) : Ovp (next X e) os bs := by
  have ha : ¬ Ext.alone e := fun ha => by rcases ha with ha | ha <;> omega
  have hno := h.notOver ht (by omega)
  have hz : (wayOf e.f0).2 ≠ 0 := by
    obtain ⟨K, hK⟩ := Int.eq_ofNat_of_zero_le (show 0 ≤ e.f0 by omega)
    rw [hK]
    intro h0
    have := (way_end ⟨K, by omega⟩ (by simp; omega)).1 h0
    simp at this
    omega
  refine ⟨next_tidy h.tidy, fun id => ?_, fun id hi => ?_, by rw [next_op_rest X ha (by omega), if_neg hz]; exact h.op⟩
  · by_cases hid : id = e.f2
    · subst hid; rw [next_has_same h.tidy ha, h.oldOne ht h4]
    · rw [next_has_other hid, h.has]
  · have hid : id ≠ e.f2 := fun hh => by rw [hh, hno] at hi; cases hi
    rw [next_has_other hid, next_st_other hid]; exact h.over id hi
theorem nv_end {e : S31} (h : e.f0 = 13 ∨ e.f0 = 14) : nv e = 0 := by
  unfold nv
  rw [if_neg (by omega)]
  rcases h with h | h <;> rw [h] <;> decide
theorem Ovp.end_ {X : LS} {os bs : List Int} {e : S31} (h : Ovp X os bs) (ht : Taken X e) (h4 : e.f0 = 13 ∨ e.f0 = 14) : Ovp (next X e) (os ++ [e.f2]) bs := by
  have ha : ¬ Ext.alone e := fun ha => by rcases ha with ha | ha <;> omega
  have hno := h.notOver ht (by omega)
  have hz : (wayOf e.f0).2 = 0 := by rcases h4 with h | h <;> rw [h] <;> decide
  refine ⟨next_tidy h.tidy, fun id => ?_, fun id hi => ?_, by rw [next_op_rest X ha (by omega), if_pos hz, h.op, List.length_append]; simp; omega⟩
  · by_cases hid : id = e.f2
    · subst hid; rw [next_has_same h.tidy ha, h.oldOne ht (by omega)]
    · rw [next_has_other hid, h.has]
  · by_cases hid : id = e.f2
    · subst hid; rw [next_has_same h.tidy ha, next_st_same h.tidy ha, nv_end h4]; exact ⟨rfl, rfl⟩
    · rw [next_has_other hid, next_st_other hid]
      exact h.over id (by simpa [hid] using hi)
theorem end_st {X : LS} {e : S31} (h : Tidy X.D) (h4 : e.f0 = 13 ∨ e.f0 = 14) : (next X e).st e.f2 = 0 := by
  rw [next_st_same h (fun ha => by rcases ha with ha | ha <;> omega), nv_end h4]
end Go.Proofs.YtjflbjlkcifpdaaDoor.Ext
