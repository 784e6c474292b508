/- The reference's roots are the table's: plain law. -/
import Derived.Test.YtanafhccflmdkaaDoorXax10
import Derived.Test.YtanafhccflmdkaaDoorRefR0
import Derived.Test.YtanafhccflmdkaaDoorRefR1
import Derived.Test.YtanafhccflmdkaaDoorRefR2
import Derived.Test.YtanafhccflmdkaaDoorRefR3
import Derived.Test.YtanafhccflmdkaaDoorShaP
namespace Go.Proofs.YtanafhccflmdkaaDoor.Ref
open Go.RowKit Go.Proofs.YtanafhccflmdkaaDoorW.PrintWords Go.Proofs.YtanafhccflmdkaaDoorW.PrintLast Go.Proofs.YtanafhccflmdkaaDoorW.PrintMore
open Go.Proofs.YtanafhccflmdkaaDoor.Xa
open Go.Proofs.YtanafhccflmdkaaDoor.Ext (roots d0)
set_option linter.unusedVariables false
set_option linter.unusedSimpArgs false
theorem w64r (x : Int) (h0 : -9223372036854775808 ≤ x) (h1 : x < 9223372036854775808) : wrap64 x = x := by unfold wrap64; omega
theorem leO_trans {α : Type} {f : Nat → Option α} (h : ∀ k, LeO (f k) (f (k + 1))) {k k' : Nat} (hk : k ≤ k') {r : α} (hr : f k = some r) : f k' = some r := by
  induction hk with
  | refl => exact hr
  | step _ ih => exact h _ r ih
def fits (n : Int) (p : Int) : Bool := Int.tmod n p != 0
theorem inner (out : List Int) (hpos : ∀ p ∈ out, p ≠ 0) (hl : out.length ≤ 100) (n x0 : Int) (k : Nat) :
    ∀ m (i : Nat) (b : Bool), i + m = out.length → transeptref03_Primes.l1 (k + 1 + m) x0 out n b (i : Int) = transeptref03_Primes.l0 k x0 (if b && (out.drop i).all (fits n) then out ++ [n] else out) (IntKind.u64.wrap (n + 1))
  | 0, i, b, h => by
    show transeptref03_Primes.l1 (k + 1) _ _ _ _ _ = _
    rw [transeptref03_Primes.l1, if_neg (by omega), List.drop_eq_nil_of_le (by omega)]
    cases b
    · rfl
    · rw [if_pos rfl, if_pos (by omega)]; rfl
  | m + 1, i, b, h => by
    show transeptref03_Primes.l1 (k + 1 + m + 1) _ _ _ _ _ = _
    have hi : i < out.length := by omega
    have e8 : wrap64 ((i : Int) + 1) = ((i + 1 : Nat) : Int) := by rw [w64r _ (by omega) (by omega)]; rfl
    have hrd : rd out (i : Int) = out[i] := by unfold rd; rw [Int.toNat_natCast, List.getD_eq_getElem?_getD, List.getElem?_eq_getElem hi, Option.getD_some]
    rw [transeptref03_Primes.l1, if_pos (by omega), List.drop_eq_getElem_cons hi, List.all_cons, e8, hrd]
    cases b
    · rw [if_neg (by decide), inner out hpos hl n x0 k m (i + 1) false (by omega)]
      rfl
    · rw [if_pos rfl, if_pos (by omega), if_neg (hpos _ (List.getElem_mem hi)), inner out hpos hl n x0 k m (i + 1) _ (by omega)]
      rfl
def g : Nat → List Int → Int → List Int
  | 0, out, _ => out
  | m + 1, out, n => if out.length < 64 then g m (if out.all (fits n) then out ++ [n] else out) (n + 1) else out
theorem outer : ∀ (m : Nat) (out : List Int) (n : Int), (∀ p ∈ out, p ≠ 0) → out.length ≤ 64 → 0 < n → n + m < 1000000 → (g m out n).length = 64 → transeptref03_Primes.l0 (1 + 70 * m) 64 out n = some (g m out n)
  | 0, out, n, hp, hl, hn, hm, hg => by
    have hg : out.length = 64 := hg
    show transeptref03_Primes.l0 (0 + 1) _ _ _ = _
    rw [transeptref03_Primes.l0, if_neg (by omega)]; rfl
  | m + 1, out, n, hp, hl, hn, hm, hg => by
    by_cases h : out.length < 64
    · have eg : g (m + 1) out n = g m (if out.all (fits n) then out ++ [n] else out) (n + 1) := by show (if _ then _ else _) = _; rw [if_pos h]
      rw [eg] at hg ⊢
      obtain ⟨k, hk⟩ : ∃ k, 1 + 70 * (m + 1) = (k + 1 + out.length) + 1 ∧ 1 + 70 * m ≤ k := ⟨70 * m + 69 - out.length, by omega, by omega⟩
      rw [hk.1, transeptref03_Primes.l0, if_pos (by omega)]
      have hi := inner out hp (by omega) n 64 k out.length 0 true (by omega)
      have e0 : ((0 : Nat) : Int) = 0 := rfl
      rw [e0] at hi
      rw [hi, List.drop_zero, Bool.true_and, IntKind.wrap_u64, show (n + 1) % 18446744073709551616 = n + 1 by omega]
      refine leO_trans (f := fun k => transeptref03_Primes.l0 k 64 _ (n + 1)) (fun k => (transeptref03_Primes.mono_l k).1 _ _ _) hk.2 (outer m _ (n + 1) ?_ ?_ (by omega) (by omega) hg)
      · split
        · intro p hpp
          rcases List.mem_append.1 hpp with h | h
          · exact hp p h
          · rw [List.mem_singleton.1 h]; omega
        · exact hp
      · split
        · rw [List.length_append]; show out.length + 1 ≤ 64; omega
        · exact hl
    · have eg : g (m + 1) out n = out := by show (if _ then _ else _) = _; rw [if_neg h]
      rw [eg]
      rw [show 1 + 70 * (m + 1) = (70 * (m + 1)) + 1 by omega, transeptref03_Primes.l0, if_neg (by omega)]
def primes : List Int := [2, 3, 5, 7, 11, 13, 17, 19, 23, 29, 31, 37, 41, 43, 47, 53, 59, 61, 67, 71, 73, 79, 83, 89, 97, 101, 103, 107, 109, 113, 127, 131, 137, 139, 149, 151, 157, 163, 167, 173, 179, 181, 191, 193, 197, 199, 211, 223, 227, 229, 233, 239, 241, 251, 257, 263, 269, 271, 277, 281, 283, 293, 307, 311]
theorem g_primes : g 320 [] 2 = primes := by decide +kernel
theorem primes_f : transeptref03_Primes.f (1 + 70 * 320) 64 = some primes := by
  have h := outer 320 [] 2 (fun p hp => by simp at hp) (by decide) (by decide) (by decide) (by rw [g_primes]; rfl)
  rw [g_primes] at h
  exact h
set_option maxRecDepth 100000 in
theorem roots8 : transeptref03_Roots.f 500 8 false = some d0.ns := by decide +kernel
theorem rootsB : ∀ i : Nat, i < 64 → transeptref03_root.f 300 (rd primes (i : Int)) true = some (rd roots (i : Int))
  | 0, _ => rt_0
  | 1, _ => rt_1
  | 2, _ => rt_2
  | 3, _ => rt_3
  | 4, _ => rt_4
  | 5, _ => rt_5
  | 6, _ => rt_6
  | 7, _ => rt_7
  | 8, _ => rt_8
  | 9, _ => rt_9
  | 10, _ => rt_10
  | 11, _ => rt_11
  | 12, _ => rt_12
  | 13, _ => rt_13
  | 14, _ => rt_14
  | 15, _ => rt_15
  | 16, _ => rt_16
  | 17, _ => rt_17
  | 18, _ => rt_18
  | 19, _ => rt_19
  | 20, _ => rt_20
  | 21, _ => rt_21
  | 22, _ => rt_22
  | 23, _ => rt_23
  | 24, _ => rt_24
  | 25, _ => rt_25
  | 26, _ => rt_26
  | 27, _ => rt_27
  | 28, _ => rt_28
  | 29, _ => rt_29
  | 30, _ => rt_30
  | 31, _ => rt_31
  | 32, _ => rt_32
  | 33, _ => rt_33
  | 34, _ => rt_34
  | 35, _ => rt_35
  | 36, _ => rt_36
  | 37, _ => rt_37
  | 38, _ => rt_38
  | 39, _ => rt_39
  | 40, _ => rt_40
  | 41, _ => rt_41
  | 42, _ => rt_42
  | 43, _ => rt_43
  | 44, _ => rt_44
  | 45, _ => rt_45
  | 46, _ => rt_46
  | 47, _ => rt_47
  | 48, _ => rt_48
  | 49, _ => rt_49
  | 50, _ => rt_50
  | 51, _ => rt_51
  | 52, _ => rt_52
  | 53, _ => rt_53
  | 54, _ => rt_54
  | 55, _ => rt_55
  | 56, _ => rt_56
  | 57, _ => rt_57
  | 58, _ => rt_58
  | 59, _ => rt_59
  | 60, _ => rt_60
  | 61, _ => rt_61
  | 62, _ => rt_62
  | 63, _ => rt_63
  | n + 64, h => absurd h (by omega)
theorem roots_run : ∀ (m i : Nat), i + m = 64 → transeptref03_Roots.l0 (300 + 1 + m) 64 true primes (roots.take i) (i : Int) = some roots
  | 0, i, h => by
    obtain rfl : i = 64 := by omega
    show transeptref03_Roots.l0 (300 + 1) _ _ _ _ _ = _
    rw [transeptref03_Roots.l0, if_neg (by decide)]; rfl
  | m + 1, i, h => by
    show transeptref03_Roots.l0 (300 + 1 + m + 1) _ _ _ _ _ = _
    have e8 : wrap64 ((i : Int) + 1) = ((i + 1 : Nat) : Int) := by rw [w64r _ (by omega) (by omega)]; rfl
    have hpl : primes.length = 64 := rfl
    have hrl : roots.length = 64 := rfl
    have hr := leO_trans (f := fun k => transeptref03_root.f k (rd primes (i : Int)) true) (fun k => transeptref03_root.mono _ _ k) (show 300 ≤ 300 + 1 + m by omega) (rootsB i (by omega))
    have hr : transeptref03_root.f (300 + 1 + m) (rd primes (i : Int)) true = some (rd roots (i : Int)) := hr
    rw [transeptref03_Roots.l0, if_pos (by omega), if_pos (by omega), hpl, if_pos (by omega), hr, e8]
    show (if (roots.take i).length < 35184372088832 then _ else none) = _
    rw [if_pos (by rw [List.length_take]; omega)]
    have ht : roots.take i ++ [rd roots (i : Int)] = roots.take (i + 1) := by
      rw [List.take_succ_eq_append_getElem (by omega)]
      congr 2
      unfold rd
      rw [Int.toNat_natCast, List.getD_eq_getElem?_getD, List.getElem?_eq_getElem (by omega), Option.getD_some]
    rw [ht]
    exact roots_run m (i + 1) (by omega)
theorem roots64 (k : Nat) (hk : 23000 ≤ k) : transeptref03_Roots.f k 64 true = some roots := by
  refine leO_trans (f := fun k => transeptref03_Roots.f k 64 true) (fun k => transeptref03_Roots.mono _ _ k) hk ?_
  unfold transeptref03_Roots.f
  have hp := leO_trans (f := fun k => transeptref03_Primes.f k 64) (fun k => transeptref03_Primes.mono _ k) (show 1 + 70 * 320 ≤ 23000 by decide) primes_f
  have hp : transeptref03_Primes.f 23000 64 = some primes := hp
  rw [hp, Option.bind_some]
  have h0 : ∀ k, transeptref03_Roots.l0 k 64 true primes (roots.take 0) ((0 : Nat) : Int) = transeptref03_Roots.l0 k 64 true primes [] 0 := fun k => rfl
  have hl := roots_run 64 0 rfl
  rw [h0] at hl
  exact leO_trans (f := fun k => transeptref03_Roots.l0 k 64 true primes [] 0) (fun k => (transeptref03_Roots.mono_l k) _ _ _ _ _) (show 300 + 1 + 64 ≤ 23000 by omega) hl
theorem roots8k (k : Nat) (hk : 500 ≤ k) : transeptref03_Roots.f k 8 false = some d0.ns :=
  leO_trans (f := fun k => transeptref03_Roots.f k 8 false) (fun k => transeptref03_Roots.mono _ _ k) hk roots8
end Go.Proofs.YtanafhccflmdkaaDoor.Ref
