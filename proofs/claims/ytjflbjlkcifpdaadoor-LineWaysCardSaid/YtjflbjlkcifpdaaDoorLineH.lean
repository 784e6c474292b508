/- Two lines, and what an answer says: by hand. Written by wip/tools/lineh.py. -/
import Derived.Test.YtjflbjlkcifpdaaDoorLineG
namespace Go.Proofs.YtjflbjlkcifpdaaDoor.Ext
open Go.RowKit Go.Proofs.YtjflbjlkcifpdaaDoor.Xa Go.Proofs.YtjflbjlkcifpdaaDoorW.PrintWords Go.Proofs.YtjflbjlkcifpdaaDoorW.PrintLast Go.Proofs.YtjflbjlkcifpdaaDoorW.PrintMore
open Go.Maps (Keyed)
set_option linter.unusedVariables false
set_option linter.unusedSimpArgs false
/-- Two lines that the call has made. -/
structure W2 (w W : World) (g gm h hm : Nat) (X Y : LS) : Prop where
  a : Wl w W g gm X
  b : Wl w W h hm Y
  d1 : h ≠ g
  d2 : h ≠ gm
  d3 : hm ≠ g
  d4 : hm ≠ gm
section
variable {w W W1 : World} {g gm h hm : Nat} {X Y X1 Y1 : LS}
theorem W2.start (H : Wl w W g gm X) (hl : Ln W1 h hm Y) (h1 : W.heap.size ≤ h) (h2 : W.heap.size ≤ hm) (hb : Below W.heap.size W W1) : W2 w W1 g gm h hm X Y := by
  have := H.ln.lt
  have := H.ln.ltm
  have := H.bel.size
  exact ⟨H.below hb, ⟨below_then H.bel H.bel.size hb, hl, by omega, by omega⟩, by omega, by omega, by omega, by omega⟩
theorem W2.below (H : W2 w W g gm h hm X Y) (hb : Below W.heap.size W W1) : W2 w W1 g gm h hm X Y := ⟨H.a.below hb, H.b.below hb, H.d1, H.d2, H.d3, H.d4⟩
theorem W2.drewN (H : W2 w W g gm h hm X Y) (n : Nat) : W2 w (W.drewN n) g gm h hm X Y := H.below (pw_below_drewN (Below.refl _ _) n)
theorem W2.feedA (H : W2 w W g gm h hm X Y) (hl : Ln W1 g gm X1) (hv : Mv W W1 g gm) : W2 w W1 g gm h hm X1 Y :=
  have H1 := H.a.feed hl hv
  ⟨H1, ⟨H1.bel, H.b.ln.step (hv.block h H.b.ln.lt H.d1 H.d2) (hv.block hm H.b.ln.ltm H.d3 H.d4), H.b.lo, H.b.lom⟩, H.d1, H.d2, H.d3, H.d4⟩
theorem W2.feedB (H : W2 w W g gm h hm X Y) (hl : Ln W1 h hm Y1) (hv : Mv W W1 h hm) : W2 w W1 g gm h hm X Y1 :=
  have H1 := H.b.feed hl hv
  ⟨⟨H1.bel, H.a.ln.step (hv.block g H.a.ln.lt (Ne.symm H.d1) (Ne.symm H.d3)) (hv.block gm H.a.ln.ltm (Ne.symm H.d2) (Ne.symm H.d4)), H.a.lo, H.a.lom⟩, H1, H.d1, H.d2, H.d3, H.d4⟩
end
/-- What is not taken changes nothing. -/
theorem feedF_no (X : LS) (e : S31) (h : (feedF X e).1 ≠ 0) : (feedF X e).2 = X := by
  unfold feedF at h ⊢
  split
  · rfl
  split
  · rfl
  split
  · rfl
  split
  · rfl
  split
  · split
    · rfl
    · simp_all
  split
  · simp_all
  · simp_all
theorem feedF_code (X : LS) (e : S31) : (feedF X e).1 = 0 ∨ (feedF X e).1 = 1 ∨ (feedF X e).1 = 5 ∨ (feedF X e).1 = 6 := by
  unfold feedF
  split
  · simp
  split
  · simp
  split
  · simp
  split
  · simp
  split
  · split <;> simp
  split <;> simp
/-- What is taken. -/
structure Taken (X : LS) (e : S31) : Prop where
  right : rightS e = true
  room : X.c ≠ 4096
  time : ¬ e.f1 < X.last
  may : mayF X e.f0 e.f2 = true
  few : e.f0 = 3 → X.op ≠ 64
def next (X : LS) (e : S31) : LS :=
  if e.f0 = 3 then ⟨X.c + 1, e.f1, X.op + 1, X.D.put (.int .u64 e.f2) (.lit (.int .i64 1))⟩
  else if e.f0 = 1 ∨ e.f0 = 2 then ⟨X.c + 1, e.f1, X.op, X.D⟩
  else ⟨X.c + 1, e.f1, if (wayOf e.f0).2 = 0 then X.op - 1 else X.op, X.D.put (.int .u64 e.f2) (.lit (.int .i64 (wayOf e.f0).2))⟩
theorem feedF_ok (X : LS) (e : S31) : (feedF X e).1 = 0 ↔ Taken X e := by
  constructor
  · intro h
    unfold feedF at h
    split at h
    · simp at h
    split at h
    · simp at h
    split at h
    · simp at h
    split at h
    · simp at h
    rename_i a b c d
    refine ⟨by simpa using a, b, c, by simpa using d, fun h3 => ?_⟩
    rw [if_pos h3] at h
    intro h4
    rw [if_pos h4] at h
    simp at h
  · intro h
    unfold feedF
    rw [if_neg (by rw [h.right]; decide), if_neg h.room, if_neg h.time, if_neg (by rw [h.may]; decide)]
    by_cases h3 : e.f0 = 3
    · rw [if_pos h3, if_neg (h.few h3)]
    · rw [if_neg h3]; split <;> rfl
theorem feedF_next {X : LS} {e : S31} (h : Taken X e) : feedF X e = (0, next X e) := by
  unfold feedF next
  rw [if_neg (by rw [h.right]; decide), if_neg h.room, if_neg h.time, if_neg (by rw [h.may]; decide)]
  by_cases h3 : e.f0 = 3
  · rw [if_pos h3, if_pos h3, if_neg (h.few h3)]
  · rw [if_neg h3, if_neg h3]; split <;> rfl
theorem next_c (X : LS) (e : S31) : (next X e).c = X.c + 1 := by unfold next; split; rfl; split <;> rfl
theorem next_last (X : LS) (e : S31) : (next X e).last = e.f1 := by unfold next; split; rfl; split <;> rfl
/-- The last one's time is one. -/
def okT (X : LS) : Prop := 0 ≤ X.last ∧ X.last < 18446744073709551616
theorem u64_wf {n : Int} : (Lit.int .u64 n).wf = true ↔ 0 ≤ n ∧ n < 18446744073709551616 := by
  have h1 : IntKind.u64.min = 0 := by decide
  have h2 : IntKind.u64.max = 18446744073709551615 := by decide
  show (decide (IntKind.u64.min ≤ n) && decide (n ≤ IntKind.u64.max)) = true ↔ _
  rw [h1, h2, Bool.and_eq_true, decide_eq_true_eq, decide_eq_true_eq]
  omega
theorem okT_feed {X : LS} {e : S31} (h : okT X) (he : (Lit.int .u64 e.f1).wf = true) : okT (feedF X e).2 := by
  by_cases h0 : (feedF X e).1 = 0
  · rw [feedF_next ((feedF_ok X e).1 h0)]
    show 0 ≤ (next X e).last ∧ (next X e).last < _
    rw [next_last]
    exact u64_wf.1 he
  · rw [feedF_no X e h0]; exact h
theorem late_no {X : LS} {e : S31} (h : e.f1 < X.last) : (feedF X e).2 = X ∧ ((feedF X e).1 = 1 ∨ (feedF X e).1 = 5 ∨ (feedF X e).1 = 6) := by
  have h0 : (feedF X e).1 ≠ 0 := fun h0 => ((feedF_ok X e).1 h0).time h
  refine ⟨feedF_no X e h0, ?_⟩
  rcases feedF_code X e with h | h | h | h
  · exact absurd h h0
  all_goals simp [h]
end Go.Proofs.YtjflbjlkcifpdaaDoor.Ext
