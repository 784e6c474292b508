/- field.Number: by hand. -/
import Derived.Test.YtbldmicpnibnpaaDoorLow
namespace Go.Proofs.YtbldmicpnibnpaaDoor.Ext
open Go.RowKit Go.Proofs.YtbldmicpnibnpaaDoorW.PrintWords Go.Proofs.YtbldmicpnibnpaaDoorW.PrintLast Go.Proofs.YtbldmicpnibnpaaDoorW.PrintMore
set_option linter.unusedVariables false
set_option linter.unusedSimpArgs false
/-- Digits, behind a number. -/
def digs : List UInt8 → Int → Option Int
  | [], n => some n
  | c :: r, n => if c.toNat < 48 ∨ 57 < c.toNat then none else digs r (10 * n + ((c.toNat : Int) - 48))
def numF (s : ByteArray) (most : Int) : Int × Bool :=
  if s.size = 0 ∨ 9 < s.size then (0, false) else match digs s.data.toList 0 with
    | none => (0, false)
    | some n => (mn n most, true)
theorem min2_mn (k k' : IntKind) (x y : Int) : Builtin.min2 (.int k x) (.int k' y) = pure (.int k (mn x y)) := by rw [min2_int]; rfl
attribute [local go_sem] min2_mn max_two min_two
theorem drop_byte (s : ByteArray) (I : Nat) (h : I < s.size) : s.data.toList.drop I = s.data.toList.getD I 0 :: s.data.toList.drop (I + 1) := by
  have h1 : I < s.data.toList.length := by rw [Array.length_toList]; exact h
  rw [List.drop_eq_getElem_cons h1]
  congr 1
  rw [List.getD_eq_getElem?_getD, List.getElem?_eq_getElem h1]; rfl
theorem pow_next (N : Int) (I : Nat) (d : Int) (h : N < 10 ^ I) (hd : d ≤ 9) : 10 * N + d < 10 ^ (I + 1) := by
  rw [Int.pow_succ]; omega
theorem pow_le9 (I : Nat) (h : I ≤ 9) : (10 : Int) ^ I ≤ 1000000000 := by
  have : I = 0 ∨ I = 1 ∨ I = 2 ∨ I = 3 ∨ I = 4 ∨ I = 5 ∨ I = 6 ∨ I = 7 ∨ I = 8 ∨ I = 9 := by omega
  rcases this with rfl | rfl | rfl | rfl | rfl | rfl | rfl | rfl | rfl | rfl <;> decide
set_option maxHeartbeats 2000000 in
theorem number_calls (s : ByteArray) (most : Int) (w : World) : Calls Tryd.prog 11 #[.string s, .int .i64 most] w fun e w' => e = .returned (.tuple #[.int .i64 (numF s most).1, .bool (numF s most).2]) ∧ Below w.heap.size w w' := by
  have kb := print_bytes (P := Tryd.prog) 9 42 5 Tryd.underlying9 Tryd.underlying42 Tryd.underlying5 s w
  have H0 := low_start w s
  have hb := bytes_below (Below.refl w.heap.size w) (Nat.le_refl _) 5 s
  obtain ⟨W1, hW1⟩ : ∃ W, Lib.bytesWorld w 5 s = W := ⟨_, rfl⟩
  obtain ⟨g, hg⟩ : ∃ g, w.heap.size = g := ⟨_, rfl⟩
  obtain ⟨cp, hcp⟩ : ∃ g, grownCap w s.size 0 5 = g := ⟨_, rfl⟩
  rw [hW1] at H0 kb hb
  rw [hcp] at kb
  have HB := Aside0.mk hb
  rw [hg] at H0 kb
  have HL := Aside0.mk H0
  have HG := Aside0.mk hg
  clear H0 hb hW1 hcp hg
  obtain ⟨n, hn⟩ : ∃ n : Int, (s.size : Int) = n := ⟨_, rfl⟩
  have HN := Aside0.mk hn
  have hn0 : 0 ≤ n := by omega
  by_cases h0 : s.size = 0
  · have hs : s = ⟨#[]⟩ := by
      apply ByteArray.ext
      exact Array.eq_empty_of_size_eq_zero h0
    have hr : numF s most = (0, false) := by unfold numF; rw [if_pos (.inl h0)]
    rw [hr]
    subst hs
    go_enter Tryd.func11, Tryd.ntmps11
    go_wp2
    go_ret2
    exact ⟨rfl, Below.refl _ _⟩
  have htl : ¬ s.toList = [] := by
    rw [ByteArray.toList_eq]
    intro h
    apply h0
    show s.data.size = 0
    rw [← Array.length_toList, h]; rfl
  have hte : s.toList.isEmpty = false := by
    cases hh : s.toList with
    | nil => exact absurd hh htl
    | cons a l => rfl
  by_cases h9 : 9 < n
  · have hr : numF s most = (0, false) := by unfold numF; rw [if_pos (.inr (by omega))]
    rw [hr]

    go_enter Tryd.func11, Tryd.ntmps11
    go_wp2
    all_goals
      go_ret2
      exact ⟨rfl, Below.refl _ _⟩
  have hr : numF s most = (match digs s.data.toList 0 with | none => (0, false) | some n => (mn n most, true)) := by unfold numF; rw [if_neg (by omega)]
  have HR := Aside0.mk hr
  obtain ⟨R, hR⟩ : ∃ R, numF s most = R := ⟨_, rfl⟩
  rw [hR] at HR ⊢
  clear hr hR
  go_enter Tryd.func11, Tryd.ntmps11
  go_wp2_with (fail)
  go_loopg [6, 19] n.toNat (fun m v6 v19 W => ∃ N I : Int, v6 = .int .i64 N ∧ v19 = .int .i64 I ∧ 0 ≤ I ∧ I + m = n ∧ 0 ≤ N ∧ N ≤ 1000000000 ∧ W = W1 ∧ Aside0 (N < 10 ^ I.toNat ∧ digs (s.data.toList.drop I.toNat) N = digs s.data.toList 0))
  case atStart => exact ⟨0, 0, rfl, rfl, Int.le_refl _, by omega, by omega, by omega, rfl, ⟨by decide, rfl⟩⟩
  case round =>
    obtain ⟨N, I, rfl, rfl, hI0, hIm, hN0, hN1, rfl, HX⟩ := hrel
    by_cases hi : I < n
    · have hin : I.toNat < s.size := by have := HN.out; omega
      obtain ⟨c, hc⟩ : ∃ c, s.data.toList.getD I.toNat 0 = c := ⟨_, rfl⟩
      have k0 : wr.cell? ⟨g, I.toNat, none⟩ = some (.int .u8 (c.toNat : Int)) := by rw [HL.out.cell I.toNat hin, if_neg (by omega), hc]
      have HD : Aside0 (digs (s.data.toList.drop I.toNat) N = if c.toNat < 48 ∨ 57 < c.toNat then none else digs (s.data.toList.drop (I + 1).toNat) (10 * N + ((c.toNat : Int) - 48))) := ⟨by
        rw [drop_byte s I.toNat hin, hc, digs, show (I + 1).toNat = I.toNat + 1 by omega]⟩
      have hcl := c.toNat_lt
      clear hin hc
      obtain ⟨b, hb⟩ : ∃ b : Int, (c.toNat : Int) = b := ⟨_, rfl⟩
      have HBB := Aside0.mk hb
      have hb0 : 0 ≤ b := by omega
      have hb1 : b ≤ 255 := by omega
      rw [hb] at k0 HD
      clear hb hcl
      by_cases hlo : b < 48
      · have hRR : R = (0, false) := by
          have h1 := HR.out
          rw [← HX.out.2, HD.out, if_pos (by have := HBB.out; omega)] at h1
          exact h1
        subst hRR
        go_wp2
        go_ret2
        exact ⟨rfl, HB.out⟩
      by_cases hhi : 57 < b
      · have hRR : R = (0, false) := by
          have h1 := HR.out
          rw [← HX.out.2, HD.out, if_pos (by have := HBB.out; omega)] at h1
          exact h1
        subst hRR
        go_wp2
        all_goals
          go_ret2
          exact ⟨rfl, HB.out⟩
      have hpw : Aside0 (10 * N + (b - 48) < 10 ^ (I + 1).toNat) := ⟨by rw [show (I + 1).toNat = I.toNat + 1 by omega]; exact pow_next N _ _ HX.out.1 (by omega)⟩
      have hple : 10 * N + (b - 48) ≤ 1000000000 := by
        have h1 := pow_le9 (I + 1).toNat (by omega)
        have h2 := hpw.out
        omega
      have HNX : Aside0 (digs (s.data.toList.drop (I + 1).toNat) (10 * N + (b - 48)) = digs s.data.toList 0) := ⟨by
        rw [← HX.out.2, HD.out, if_neg (by have := HBB.out; omega)]⟩
      have hb48 : 48 ≤ b := by omega
      have hb57 : b ≤ 57 := by omega
      go_wp2
      go_roundg (gk - 1)
      case measure => omega
      case rel => exact ⟨10 * N + (b - 48), I + 1, by go_num, by go_num, by omega, by omega, by omega, hple, rfl, ⟨hpw.out, HNX.out⟩⟩
    · have hRR : R = (mn N most, true) := by
        have h1 := HR.out
        rw [← HX.out.2, List.drop_eq_nil_of_le (by have := HN.out; have : s.data.toList.length = s.size := Array.length_toList; omega)] at h1
        exact h1
      subst hRR
      go_wp2
      go_ret2
      exact ⟨rfl, HB.out⟩
end Go.Proofs.YtbldmicpnibnpaaDoor.Ext
