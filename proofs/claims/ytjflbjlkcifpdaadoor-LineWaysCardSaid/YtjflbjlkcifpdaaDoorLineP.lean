/- What a line is behind an event that it took: plain facts. -/
import Derived.Test.YtjflbjlkcifpdaaDoorLineH
namespace Go.Proofs.YtjflbjlkcifpdaaDoor.Ext
open Go.RowKit Go.Proofs.YtjflbjlkcifpdaaDoor.Xa Go.Proofs.YtjflbjlkcifpdaaDoorW.PrintWords Go.Proofs.YtjflbjlkcifpdaaDoorW.PrintLast Go.Proofs.YtjflbjlkcifpdaaDoorW.PrintMore
open Go.Maps (Tidy)
set_option linter.unusedVariables false
set_option linter.unusedSimpArgs false
def kl (id : Int) : Lit := .int .u64 id
theorem kl_key (id : Int) : WideAt.IsKeyLit (kl id) := by simp [WideAt.IsKeyLit, kl]
theorem kl_ne {a b : Int} (h : a ≠ b) : kl a ≠ kl b := by simpa [kl] using h
def LS.has (X : LS) (id : Int) : Bool := Go.Maps.has X.D (kl id)
def LS.size (X : LS) : Nat := Go.Maps.size X.D
/-- The state that an event leads to. -/
def nv (e : S31) : Int := if e.f0 = 3 then 1 else (wayOf e.f0).2
/-- Is it an event of no fetch? -/
def alone (e : S31) : Prop := e.f0 = 1 ∨ e.f0 = 2
instance (e : S31) : Decidable (alone e) := inferInstanceAs (Decidable (_ ∨ _))
theorem next_D (X : LS) {e : S31} (h : ¬ alone e) : (next X e).D = X.D.put (kl e.f2) (.lit (.int .i64 (nv e))) := by
  unfold next nv
  by_cases h3 : e.f0 = 3
  · rw [if_pos h3, if_pos h3]; rfl
  · rw [if_neg h3, if_neg h3, if_neg (show ¬ (e.f0 = 1 ∨ e.f0 = 2) from h)]; rfl
theorem next_D0 (X : LS) {e : S31} (h : alone e) : (next X e).D = X.D := by
  unfold next
  have : e.f0 ≠ 3 := by rcases h with h | h <;> omega
  rw [if_neg this, if_pos (show (e.f0 = 1 ∨ e.f0 = 2) from h)]
theorem next_tidy {X : LS} {e : S31} (h : Tidy X.D) : Tidy (next X e).D := by
  by_cases ha : alone e
  · rw [next_D0 X ha]; exact h
  · rw [next_D X ha]; exact h.put (kl_key _) _
theorem tidy_L0 : Tidy L0.D := Go.Maps.tidy_empty
theorem st_of (X : LS) (id v : Int) (h : X.D.atKey (kl id) (.lit (.int .i64 0)) = .lit (.int .i64 v)) : X.st id = v := by
  unfold LS.st
  rw [show (Lit.int IntKind.u64 id) = kl id from rfl, h]
theorem next_st_same {X : LS} {e : S31} (h : Tidy X.D) (ha : ¬ alone e) : (next X e).st e.f2 = nv e :=
  st_of _ _ _ (by rw [next_D X ha, Go.Maps.atKey_put_same h.isMap (kl_key _)])
theorem next_st_other {X : LS} {e : S31} {id : Int} (hi : id ≠ e.f2) : (next X e).st id = X.st id := by
  by_cases ha : alone e
  · unfold LS.st; rw [next_D0 X ha]
  · unfold LS.st; rw [next_D X ha, show (Lit.int IntKind.u64 id) = kl id from rfl, Go.Maps.atKey_put_other (kl_ne hi)]
theorem next_st_alone {X : LS} {e : S31} {id : Int} (ha : alone e) : (next X e).st id = X.st id := by
  unfold LS.st; rw [next_D0 X ha]
theorem next_has_same {X : LS} {e : S31} (h : Tidy X.D) (ha : ¬ alone e) : (next X e).has e.f2 = true := by
  unfold LS.has; rw [next_D X ha]; exact Go.Maps.has_put_same h.isMap (kl_key _) _
theorem next_has_other {X : LS} {e : S31} {id : Int} (hi : id ≠ e.f2) : (next X e).has id = X.has id := by
  unfold LS.has
  by_cases ha : alone e
  · rw [next_D0 X ha]
  · rw [next_D X ha]; exact Go.Maps.has_put_other (kl_ne hi) _
theorem next_has_alone {X : LS} {e : S31} {id : Int} (ha : alone e) : (next X e).has id = X.has id := by
  unfold LS.has; rw [next_D0 X ha]
theorem next_size {X : LS} {e : S31} (h : Tidy X.D) (ha : ¬ alone e) : (next X e).size = if X.has e.f2 then X.size else X.size + 1 := by
  unfold LS.size LS.has; rw [next_D X ha]; exact Go.Maps.size_put h _
theorem next_size_alone {X : LS} {e : S31} (ha : alone e) : (next X e).size = X.size := by
  unfold LS.size; rw [next_D0 X ha]
theorem has_size {X : LS} {id : Int} (h : X.has id = true) (ht : Tidy X.D) : X.size ≠ 0 := by
  obtain ⟨es, hD, _⟩ := ht
  unfold LS.has at h
  unfold LS.size
  rw [hD] at h ⊢
  rw [Go.Maps.has_eq] at h
  rw [Go.Maps.size_eq]
  intro h0
  rw [List.length_eq_zero_iff.1 h0] at h
  simp at h
/-- What may be, kind by kind. -/
theorem may_page {X : LS} {id : Int} : mayF X 1 id = decide (X.c = 0) := by unfold mayF; rw [if_pos (.inl rfl)]; simp
theorem may_c {X : LS} {k id : Int} (h : mayF X k id = true) (hk : k ≠ 1) : X.c ≠ 0 := by
  intro h0
  unfold mayF at h
  rw [if_pos (.inr h0), decide_eq_false (fun hh => hk hh.1)] at h
  cases h
theorem may_pol {X : LS} {id : Int} (hc : X.c ≠ 0) : mayF X 2 id = decide (X.size = 0) := by unfold mayF; rw [if_neg (by omega), if_pos rfl]; rfl
theorem may_sta {X : LS} {id : Int} (hc : X.c ≠ 0) : mayF X 3 id = !X.has id := by unfold mayF; rw [if_neg (by omega), if_neg (by decide), if_pos rfl]; rfl
theorem may_res {X : LS} {k id : Int} (hc : X.c ≠ 0) (hk : 4 ≤ k) : mayF X k id = (wayOf k).1.contains (X.st id) := by
  unfold mayF; rw [if_neg (by omega), if_neg (by omega), if_neg (by omega)]
end Go.Proofs.YtjflbjlkcifpdaaDoor.Ext
