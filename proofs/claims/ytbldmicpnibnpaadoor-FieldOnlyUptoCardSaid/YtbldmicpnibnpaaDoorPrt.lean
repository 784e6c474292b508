/- token.quoted, token.Parts: how many parts there are. By hand. -/
import Derived.Test.YtbldmicpnibnpaaDoorLib
import Derived.Handy
import Derived.Test.YtbldmicpnibnpaaDoorWWords
import Derived.Test.YtbldmicpnibnpaaDoorWLast
import Derived.Test.YtbldmicpnibnpaaDoorWMore
namespace Go.Proofs.YtbldmicpnibnpaaDoor.Ext
open Go.RowKit Go.Proofs.YtbldmicpnibnpaaDoorW.PrintWords Go.Proofs.YtbldmicpnibnpaaDoorW.PrintLast Go.Proofs.YtbldmicpnibnpaaDoorW.PrintMore
set_option linter.unusedVariables false
set_option linter.unusedSimpArgs false
def by8 (s : ByteArray) (i : Nat) : Int := ((s.data.toList.getD i 0).toNat : Int)
theorem idx9 (s : ByteArray) {i : Nat} (h : i < s.size) (W : World) : (Instr.index 9 (.string s) (.int .i64 (i : Int))).run Tryd.prog W = .ok (.int .u8 (by8 s i)) W := by
  have h' : i < s.data.size := h
  have e : by8 s i = ((s[i]'h).toNat : Int) := by
    unfold by8
    rw [List.getD_eq_getElem?_getD, Array.getElem?_toList, Array.getElem?_eq_getElem h']
    rfl
  rw [e]
  have h2 : (i : Int) < (s.size : Int) := by omega
  simp [go_sem, h, h2]
/-- Where a quoted text ends. -/
def qnF (t : ByteArray) : Nat → Nat → Nat
  | 0, _ => t.size
  | d + 1, j => if j < t.size then (if by8 t j = 92 then qnF t d (j + 2) else if by8 t j = 34 then j + 1 else qnF t d (j + 1)) else t.size
def qn (t : ByteArray) : Nat := qnF t t.size 1
theorem qnF_le (t : ByteArray) : ∀ d j, qnF t d j ≤ t.size
  | 0, _ => Nat.le_refl _
  | d + 1, j => by
    unfold qnF
    have := qnF_le t d (j + 2)
    have := qnF_le t d (j + 1)
    repeat' split
    all_goals omega
theorem qnF_pos (t : ByteArray) (h : 0 < t.size) : ∀ d j, 0 < qnF t d j
  | 0, _ => h
  | d + 1, j => by
    unfold qnF
    have := qnF_pos t h d (j + 2)
    have := qnF_pos t h d (j + 1)
    repeat' split
    all_goals omega
set_option maxHeartbeats 2000000 in
theorem quoted_calls (t : ByteArray) (w : World) (hs : t.size ≤ 8000000) : Calls Tryd.prog 16 #[.string t] w fun e w' => e = .returned (.int .i64 (qn t : Int)) ∧ w' = w := by
  go_enter Tryd.func16, Tryd.ntmps16
  go_wp2_with (fail)
  go_loopg [3] t.size (fun d v3 wr => ∃ j : Nat, v3 = .int .i64 (j : Int) ∧ t.size ≤ d + j ∧ j ≤ t.size + 1 ∧ Aside0 (qnF t d j = qn t) ∧ wr = w)
  case atStart => exact ⟨1, rfl, by omega, by omega, ⟨rfl⟩, rfl⟩
  case round =>
    obtain ⟨j, rfl, hd, hj, HQ, rfl⟩ := hrel
    by_cases hlt : j < t.size
    · obtain ⟨d, rfl⟩ : ∃ d, gk = d + 1 := ⟨gk - 1, by omega⟩
      have hQ := HQ.out
      rw [qnF, if_pos hlt] at hQ
      have hix := idx9 t hlt
      have i0 : (j : Int) < (t.size : Int) := by omega
      by_cases h1 : by8 t j = 92
      · rw [if_pos h1] at hQ
        have HQ2 := Aside0.mk hQ
        clear hQ HQ
        rw [h1] at hix
        go_wp2_with (fail)
        go_roundg d
        case measure => omega
        case rel => exact ⟨j + 2, by simp; omega, by omega, by omega, HQ2, rfl⟩
      · rw [if_neg h1] at hQ
        by_cases h2 : by8 t j = 34
        · rw [if_pos h2] at hQ
          have HQ2 := Aside0.mk hQ
          clear hQ HQ
          rw [h2] at hix
          go_wp2_with (fail)
          go_ret
          exact ⟨by rw [← HQ2.out]; simp, rfl⟩
        · rw [if_neg h2] at hQ
          have HQ2 := Aside0.mk hQ
          clear hQ HQ
          generalize by8 t j = b at *
          have h1' : (b == 92) = false := by rw [beq_eq_false_iff_ne]; exact h1
          have h2' : (b == 34) = false := by rw [beq_eq_false_iff_ne]; exact h2
          go_wp2_with (fail)
          go_roundg d
          case measure => omega
          case rel => exact ⟨j + 1, by simp, by omega, by omega, HQ2, rfl⟩
    · have i0 : ¬ (j : Int) < (t.size : Int) := by omega
      have HQ2 : Aside0 (qn t = t.size) := ⟨by
        rw [← HQ.out]
        cases gk with
        | zero => rfl
        | succ d => rw [qnF, if_neg hlt]⟩
      clear HQ
      go_wp2_with (fail)
      go_ret
      exact ⟨by rw [HQ2.out]; rfl, rfl⟩
end Go.Proofs.YtbldmicpnibnpaaDoor.Ext
