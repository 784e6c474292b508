/- token.Parts: how many parts there are. By hand. -/
import Derived.Test.YtbldmicpnibnpaaDoorPrt
namespace Go.Proofs.YtbldmicpnibnpaaDoor.Ext
open Go.RowKit Go.Proofs.YtbldmicpnibnpaaDoorW.PrintWords Go.Proofs.YtbldmicpnibnpaaDoorW.PrintLast Go.Proofs.YtbldmicpnibnpaaDoorW.PrintMore
set_option linter.unusedVariables false
set_option linter.unusedSimpArgs false
def cnF (s : ByteArray) : Nat → Nat → Nat
  | 0, _ => 0
  | d + 1, i => if i < s.size then (if by8 s i = 34 then cnF s d (i + qn (s.extract i s.size)) else if by8 s i = 44 then cnF s d (i + 1) + 1 else cnF s d (i + 1)) else 0
/-- How many parts a value has. -/
def pn (s : ByteArray) : Nat := cnF s s.size 0 + 1
theorem own_form {w : World} {base e size n : Nat} {v : Value} {xs : List Value} (h : w.ownsRow base e size v n xs) : ∃ A cap, v = .slice A n cap := by
  rcases h.2 with ⟨hv, hn⟩ | ⟨g, cap, cur, hv, _⟩
  · exact ⟨none, 0, by rw [hv, hn]⟩
  · exact ⟨_, cap, hv⟩
theorem inf9 : (Tryd.prog.info? 9).map (fun i => (i.zero, i.size, i.bytes)) = some (some (.string ⟨#[]⟩), 1, 16) := by kernel_rfl
structure PrI (w wr : World) (v : Value) (n : Nat) : Prop where
  row : ∃ xs, wr.ownsRow w.heap.size 9 1 v n xs
  bel : Below w.heap.size w wr
theorem PrI.below {w wr w1 : World} {v : Value} {n : Nat} (h : PrI w wr v n) (hb : Below wr.heap.size wr w1) : PrI w w1 v n := by
  obtain ⟨⟨xs, hr⟩, hbel⟩ := h
  exact ⟨⟨xs, own_move hr (fun k hk => by
    obtain ⟨cells, h1⟩ := own_typed hr k hk
    exact hb.block k (blk_lt h1))⟩, below_then hbel hbel.size hb⟩
theorem ext_size (s : ByteArray) (a b : Nat) (h : b ≤ s.size) : (s.extract a b).size = b - a := by
  rw [ByteArray.size_extract]; omega
set_option maxRecDepth 100000 in
set_option maxHeartbeats 4000000 in
theorem parts_calls (s : ByteArray) (w : World) (hs : s.size ≤ 8000000) : Calls Tryd.prog 10 #[.string s] w fun e w' => ∃ A c, e = .returned (.slice A (pn s) c) ∧ Below w.heap.size w w' := by
  have HI : Aside0 (PrI w w (.slice none 0 0) 0) := ⟨⟨⟨[], rfl, .inl ⟨rfl, rfl⟩⟩, Below.refl _ _⟩⟩
  go_enter Tryd.func10, Tryd.ntmps10
  go_wp2_with (fail)
  go_loopg [3, 4, 5] s.size (fun d v3 v4 v5 wr => ∃ (i p n : Nat) (A : Option Addr) (c : Nat), v3 = .slice A n c ∧ v4 = .int .i64 (p : Int) ∧ v5 = .int .i64 (i : Int) ∧ s.size ≤ d + i ∧ p ≤ i ∧ i ≤ s.size ∧ n ≤ i ∧ Aside0 (PrI w wr (.slice A n c) n ∧ n + cnF s d i = cnF s s.size 0))
  case atStart => exact ⟨0, 0, 0, none, 0, rfl, rfl, rfl, by omega, Nat.le_refl _, by omega, by omega, ⟨HI.out, by omega⟩⟩
  case round =>
    obtain ⟨i, p, n, A, c, rfl, rfl, rfl, hd, hp, hi, hn, HX⟩ := hrel
    by_cases hlt : i < s.size
    · obtain ⟨d, rfl⟩ : ∃ d, gk = d + 1 := ⟨gk - 1, by omega⟩
      have hQ := HX.out.2
      rw [cnF, if_pos hlt] at hQ
      have hix := idx9 s hlt
      have i0 : (i : Int) < (s.size : Int) := by omega
      have HR := Aside0.mk HX.out.1
      have hpi : (p : Int) ≤ (i : Int) := by omega
      have hi0 : (i : Int) ≤ (s.size : Int) := by omega
      by_cases h1 : by8 s i = 34
      · rw [if_pos h1] at hQ
        rw [h1] at hix
        have hes := ext_size s i s.size (Nat.le_refl _)
        obtain ⟨q, hq⟩ : ∃ q, qn (s.extract i s.size) = q := ⟨_, rfl⟩
        have hq0 : 0 < q := by rw [← hq]; exact qnF_pos _ (by omega) _ _
        have hq1 : q ≤ s.size - i := by rw [← hq, ← hes]; exact qnF_le _ _ _
        have HC := Aside0.mk (quoted_calls (s.extract i s.size) wr (by omega))
        rw [hq] at hQ HC
        have HQ2 := Aside0.mk hQ
        clear hQ HX hq hes
        go_wp2_with (first
          | (go_at_call 16; refine HC.out.mono ?_; rintro e w1 ⟨rfl, rfl⟩))
        go_roundg d
        case measure => omega
        case rel => exact ⟨i + q, p, n, A, c, rfl, rfl, by simp, by omega, by omega, by omega, by omega, ⟨HR.out, HQ2.out⟩⟩
      · rw [if_neg h1] at hQ
        by_cases h2 : by8 s i = 44
        · rw [if_pos h2] at hQ
          rw [h2] at hix
          have hes := ext_size s p i (by omega)
          have HT := Aside0.mk (Tryd.strings_Trim_set2 (s.extract p i) wr (by omega))
          have HQ2 := Aside0.mk hQ
          clear hQ HX hes
          go_wp2_with (first
            | (go_at_call 17; refine HT.out.mono ?_; rintro e w1 ⟨rfl, hb1⟩; have HR1 := Aside0.mk (HR.out.below hb1); clear hb1; generalize (⟨(Lib.trimS (s.extract p i).data.toList [9, 32]).toArray⟩ : ByteArray) = x)
            | ((with_reducible refine gate_builtin (b := .append) (xs := #[.tmp 25, .tmp 31]) rfl ?_); at_builtin; obtain ⟨ys, hys⟩ := HR1.out.row; go_loud (refine print_append_cells (w0 := w) w.heap.size rfl (.tmp 25) (.tmp 31) 30 9 (.string ⟨#[]⟩) 1 16 rfl Tryd.underlying30 inf9 rfl (by decide) (by decide) (.slice A n c) n ys [.string x] rfl rfl rfl (fun u hu => by rw [List.mem_singleton.1 hu]; rfl) hys HR1.out.bel HR1.out.bel.size (by omega) ?_); intro v1 w2 ho hb hg hat; obtain ⟨A1, cap1, rfl⟩ := own_form ho; have HR2 : Aside0 (PrI w w2 (.slice A1 (n + 1) cap1) (n + 1)) := ⟨⟨⟨_, ho⟩, hb⟩⟩; clear ho hb hg hat hys))
          go_roundg d
          case measure => omega
          case rel => exact ⟨i + 1, i + 1, n + 1, A1, cap1, rfl, by simp, by simp, by omega, by omega, by omega, by omega, ⟨HR2.out, by have := HQ2.out; omega⟩⟩
        · rw [if_neg h2] at hQ
          have HQ2 := Aside0.mk hQ
          clear hQ HX
          generalize by8 s i = b at *
          have h1' : (b == 34) = false := by rw [beq_eq_false_iff_ne]; exact h1
          have h2' : (b == 44) = false := by rw [beq_eq_false_iff_ne]; exact h2
          go_wp2_with (fail)
          go_roundg d
          case measure => omega
          case rel => exact ⟨i + 1, p, n, A, c, rfl, rfl, by simp, by omega, by omega, by omega, by omega, ⟨HR.out, HQ2.out⟩⟩
    · have i0 : ¬ (i : Int) < (s.size : Int) := by omega
      have HP : Aside0 (n + 1 = pn s) := ⟨by
        have h := HX.out.2
        have : cnF s gk i = 0 := by
          cases gk with
          | zero => rfl
          | succ d => rw [cnF, if_neg hlt]
        unfold pn
        omega⟩
      have HR := Aside0.mk HX.out.1
      have hpi : (p : Int) ≤ (s.size : Int) := by omega
      have hes := ext_size s p s.size (Nat.le_refl _)
      have HT := Aside0.mk (Tryd.strings_Trim_set2 (s.extract p s.size) wr (by omega))
      clear HX hes
      go_wp2_with (first
        | (go_at_call 17; refine HT.out.mono ?_; rintro e w1 ⟨rfl, hb1⟩; have HR1 := Aside0.mk (HR.out.below hb1); clear hb1; generalize (⟨(Lib.trimS (s.extract p s.size).data.toList [9, 32]).toArray⟩ : ByteArray) = x)
        | ((with_reducible refine gate_builtin (b := .append) (xs := #[.tmp 36, .tmp 41]) rfl ?_); at_builtin; obtain ⟨ys, hys⟩ := HR1.out.row; go_loud (refine print_append_cells (w0 := w) w.heap.size rfl (.tmp 36) (.tmp 41) 30 9 (.string ⟨#[]⟩) 1 16 rfl Tryd.underlying30 inf9 rfl (by decide) (by decide) (.slice A n c) n ys [.string x] rfl rfl rfl (fun u hu => by rw [List.mem_singleton.1 hu]; rfl) hys HR1.out.bel HR1.out.bel.size (by omega) ?_); intro v1 w2 ho hb hg hat; obtain ⟨A1, cap1, rfl⟩ := own_form ho; have HR2 : Aside0 (PrI w w2 (.slice A1 (n + 1) cap1) (n + 1)) := ⟨⟨⟨_, ho⟩, hb⟩⟩; clear ho hb hg hat hys))
      go_ret
      exact ⟨A1, cap1, by rw [← HP.out]; rfl, HR2.out.bel⟩
end Go.Proofs.YtbldmicpnibnpaaDoor.Ext
