/- Sets have the bytes that the document says, and texts are encoded and decoded so. No condition. -/
import Derived.Test.YtpofepfkalighaaXax11
import Derived.Test.YtpofepfkalighaaPctQ
namespace Go.Proofs.Ytpofepfkalighaa.Pure
open Go.RowKit Go.Proofs.Ytpofepfkalighaa.Xa Go.Proofs.Ytpofepfkalighaa.Ext Go.Proofs.YtpofepfkalighaaW.PrintWords Go.Proofs.YtpofepfkalighaaW.PrintLast
theorem in_ref_all : ∀ (k : Fin 5) (j : Fin 256), transeptref06_In.f 16 ((k.val : Int) + 1) ((UInt8.ofNat j.val).toNat : Int) = some (inSet ((k.val : Int) + 1) ((UInt8.ofNat j.val).toNat : Int)) := by decide +kernel
theorem in_ref (n : Int) (c : UInt8) (k : Nat) (hk : 16 ≤ k) : transeptref06_In.f k n c.toNat = some (inSet n c.toNat) := by
  by_cases hn : n < 1 ∨ 5 < n
  · obtain ⟨k, rfl⟩ : ∃ j, k = j + 1 := ⟨k - 1, by omega⟩
    rw [inSet_out n _ hn]
    unfold transeptref06_In.f
    by_cases h1 : n < 1
    · rw [if_pos h1]; simp [transeptref06_In.j0]
    · rw [if_neg h1, decide_eq_true (by omega : n > 5)]; simp [transeptref06_In.j0]
  · refine at_rounds (g := fun k => transeptref06_In.f k n c.toNat) (fun k => transeptref06_In.mono n c.toNat k) hk ?_
    exact sets_cases (p := fun n => ∀ c : UInt8, transeptref06_In.f 16 n c.toNat = some (inSet n c.toNat)) (fun k => bytes_all (fun j => in_ref_all k j)) n (by omega) (by omega) c
theorem digit_ref_all : ∀ j : Fin 256, transeptref06_Digit.f 4 ((UInt8.ofNat j.val).toNat : Int) = some (val ((UInt8.ofNat j.val).toNat : Int)) := by decide +kernel
theorem digit_ref (c : UInt8) (k : Nat) (hk : 4 ≤ k) : transeptref06_Digit.f k c.toNat = some (val c.toNat) :=
  at_rounds (g := fun k => transeptref06_Digit.f k c.toNat) (fun k => transeptref06_Digit.mono c.toNat k) hk
    (bytes_all (p := fun c => transeptref06_Digit.f 4 (c.toNat : Int) = some (val c.toNat)) digit_ref_all c)
/-- A list of bytes, as numbers. -/
def N (l : List UInt8) : List Int := l.map fun c => (c.toNat : Int)
theorem str_N (l : List UInt8) : strOfNums (N l) = S l := by
  have h : ((fun n : Int => UInt8.ofNat n.toNat) ∘ fun c : UInt8 => (c.toNat : Int)) = id := by funext c; simp
  apply ByteArray.ext
  apply Array.ext'
  simp [strOfNums, N, S, h]
theorem N_len (l : List UInt8) : (N l).length = l.length := by simp [N]
theorem N_app (l m : List UInt8) : N (l ++ m) = N l ++ N m := by simp [N]
theorem hex_byte (a : Int) (h0 : 0 ≤ a) (h1 : a < 16) : (((hex a).toNat.toUInt8).toNat : Int) = hex a := by
  have h : ∀ k : Fin 16, (((hex (k.val : Int)).toNat.toUInt8).toNat : Int) = hex (k.val : Int) := by decide +kernel
  have := h ⟨a.toNat, by omega⟩
  simp only at this
  rwa [Int.toNat_of_nonneg h0] at this
theorem refdigit (a : Int) (h0 : 0 ≤ a) (h1 : a < 16) : transeptref06_digit.f a = some (hex a) := by
  unfold transeptref06_digit.f hex
  by_cases h : a < 10
  · rw [if_pos h, if_pos h, show (48 + a) % 256 = 48 + a by omega]
  · rw [if_neg h, if_neg h, show (((65 + a) % 256) - 10) % 256 = 55 + a by omega]
theorem enc_ref_l0 (n : Int) (l : List UInt8) (hl : l.length ≤ 1000) : ∀ (d k i : Nat) (acc : List UInt8), i + d = l.length → d + 20 ≤ k → acc.length ≤ 3 * i →
    transeptref06_Encode.l0 k n (S l) (N acc) i = some (S (acc ++ encL n (l.drop i)))
  | 0, k, i, acc, hi, hk, ha => by
    obtain ⟨k, rfl⟩ : ∃ j, k = j + 1 := ⟨k - 1, by omega⟩
    simp only [transeptref06_Encode.l0, S_size]
    rw [if_neg (by omega), str_N, List.drop_eq_nil_of_le (by omega)]; simp [encL]
  | d + 1, k, i, acc, hi, hk, ha => by
    obtain ⟨k, rfl⟩ : ∃ j, k = j + 1 := ⟨k - 1, by omega⟩
    have hx := (l[i]'(by omega)).toNat_lt
    simp only [transeptref06_Encode.l0, S_size]
    rw [if_pos (by omega), if_pos (by omega), bt_S l i (by omega), in_ref n _ k (by omega), w64 _ (by omega) (by omega)]
    simp only [Option.bind_some]
    rw [List.drop_eq_getElem_cons (by omega : i < l.length), encL_cons]
    cases hc : inSet n (l[i]'(by omega)).toNat with
    | true =>
      simp only [if_true]
      rw [Int.tdiv_eq_ediv_of_nonneg (by omega), Int.tmod_eq_emod_of_nonneg (by omega), show (((l[i]'(by omega)).toNat : Int) / 16) % 256 = ((l[i]'(by omega)).toNat : Int) / 16 by omega,
        refdigit _ (by omega) (by omega), refdigit _ (by omega) (by omega)]
      simp only [Option.bind_some]
      rw [if_pos (by rw [N_len]; simp only [List.length_cons, List.length_nil]; omega), enc1_true n _ hc]
      have e : N acc ++ [37, hex (((l[i]'(by omega)).toNat : Int) / 16), hex (((l[i]'(by omega)).toNat : Int) % 16)] = N (acc ++ [37, (hex (((l[i]'(by omega)).toNat : Int) / 16)).toNat.toUInt8, (hex (((l[i]'(by omega)).toNat : Int) % 16)).toNat.toUInt8]) := by
        rw [N_app]
        simp only [N, List.map_cons, List.map_nil]
        rw [hex_byte _ (by omega) (by omega), hex_byte _ (by omega) (by omega)]
        rfl
      rw [e]
      have := enc_ref_l0 n l hl d k (i + 1) (acc ++ [37, (hex (((l[i]'(by omega)).toNat : Int) / 16)).toNat.toUInt8, (hex (((l[i]'(by omega)).toNat : Int) % 16)).toNat.toUInt8]) (by omega) (by omega) (by simp; omega)
      rw [List.append_assoc] at this
      exact this
    | false =>
      simp only [Bool.false_eq_true, if_false]
      rw [if_pos (by rw [N_len]; omega), enc1_false n _ hc]
      have e : N acc ++ [((l[i]'(by omega)).toNat : Int)] = N (acc ++ [l[i]'(by omega)]) := by rw [N_app]; rfl
      rw [e]
      have := enc_ref_l0 n l hl d k (i + 1) (acc ++ [l[i]'(by omega)]) (by omega) (by omega) (by simp; omega)
      rw [List.append_assoc] at this
      exact this
theorem enc_ref (n : Int) (l : List UInt8) (hl : l.length ≤ 1000) (k : Nat) (hk : 1100 ≤ k) : transeptref06_Encode.f k n (S l) = some (S (encL n l)) := by
  have := enc_ref_l0 n l hl l.length k 0 [] (by omega) (by omega) (by simp)
  exact this
theorem val_lt (c : UInt8) : val (c.toNat : Int) < 16 := val_small _ (by omega) (by have := c.toNat_lt; omega)
theorem dec_ref_l0 (l : List UInt8) (hl : l.length ≤ 1000) : ∀ (d k i : Nat) (acc : List UInt8), l.length ≤ i + d → i ≤ l.length → 2 * d + 10 ≤ k → acc.length ≤ i →
    transeptref06_Decode.l0 k (S l) (N acc) i = some (S (acc ++ decL (l.drop i)))
  | 0, k, i, acc, hi, hi2, hk, ha => by
    obtain ⟨k, rfl⟩ : ∃ j, k = j + 1 := ⟨k - 1, by omega⟩
    simp only [transeptref06_Decode.l0, S_size]
    rw [if_neg (by omega), str_N, List.drop_eq_nil_of_le (by omega)]; simp [decL]
  | d + 1, k, i, acc, hi, hi2, hk, ha => by
    obtain ⟨k, rfl⟩ : ∃ j, k = j + 1 + 1 := ⟨k - 2, by omega⟩
    by_cases hlt : i < l.length
    case neg =>
      simp only [transeptref06_Decode.l0, S_size]
      rw [if_neg (by omega), str_N, List.drop_eq_nil_of_le (by omega)]; simp [decL]
    have hplain : (∀ a b q, l.drop (i + 1) = a :: b :: q → ¬(l[i] = 37 ∧ 0 ≤ val a.toNat ∧ 0 ≤ val b.toNat)) → transeptref06_Decode.j1 (k + 1) (S l) (N acc) i false = some (S (acc ++ decL (l.drop i))) := by
      intro h
      simp only [transeptref06_Decode.j1, S_size, Bool.false_eq_true, if_false]
      rw [if_pos (by omega), if_pos (by omega), if_pos (by rw [N_len]; omega), bt_S l i hlt, w64 _ (by omega) (by omega)]
      have e : N acc ++ [(l[i].toNat : Int)] = N (acc ++ [l[i]]) := by rw [N_app]; rfl
      rw [e]
      have := dec_ref_l0 l hl d k (i + 1) (acc ++ [l[i]]) (by omega) (by omega) (by omega) (by simp; omega)
      rw [List.drop_eq_getElem_cons hlt, decL_cons _ _ h]
      rw [List.append_assoc] at this
      exact this
    rw [show k + 1 + 1 = (k + 1) + 1 from rfl]
    rw [transeptref06_Decode.l0]
    simp only [S_size]
    rw [if_pos (by omega), if_pos (by omega), bt_S l i hlt, w64 ((l.length : Int) - i) (by omega) (by omega), w64 ((i : Int) + 1) (by omega) (by omega), w64 ((i : Int) + 2) (by omega) (by omega)]
    by_cases hc : l[i] = 37
    · rw [if_pos (by rw [hc]; rfl)]
      by_cases h2 : i + 2 < l.length
      · rw [if_pos (by omega), if_pos (by omega), if_pos (by omega)]
        rw [show ((i : Int) + 1) = ((i + 1 : Nat) : Int) by omega, show ((i : Int) + 2) = ((i + 2 : Nat) : Int) by omega]
        rw [bt_S l (i + 1) (by omega), bt_S l (i + 2) h2, digit_ref _ (k + 1) (by omega), digit_ref _ (k + 1) (by omega)]
        simp only [Option.bind_some]
        have hd1 := List.drop_eq_getElem_cons (by omega : i + 1 < l.length)
        have hd2 := List.drop_eq_getElem_cons h2
        by_cases p0 : 0 ≤ val (l[i + 1].toNat : Int)
        · rw [if_pos (by omega), if_pos (by omega), if_pos (by omega)]
          by_cases q0 : 0 ≤ val (l[i + 2].toNat : Int)
          · have b1 := val_lt l[i + 1]
            have b2 := val_lt l[i + 2]
            rw [decide_eq_true (by omega : val (l[i + 2].toNat : Int) ≥ 0)]
            simp only [transeptref06_Decode.j1, S_size, if_true]
            rw [w64 ((i : Int) + 1) (by omega) (by omega), w64 ((i : Int) + 2) (by omega) (by omega), if_pos (by omega), if_pos (by omega)]
            rw [show ((i : Int) + 1) = ((i + 1 : Nat) : Int) by omega, show ((i : Int) + 2) = ((i + 2 : Nat) : Int) by omega]
            rw [bt_S l (i + 1) (by omega), bt_S l (i + 2) h2, digit_ref _ k (by omega), digit_ref _ k (by omega)]
            simp only [Option.bind_some]
            rw [if_pos (by omega), if_pos (by omega), if_pos (by rw [N_len]; omega)]
            rw [w64 (val (l[i + 1].toNat : Int) * 16) (by omega) (by omega), w64 _ (by omega) (by omega), w64 (((i + 2 : Nat) : Int) + 1) (by omega) (by omega),
              show (val (l[i + 1].toNat : Int) * 16 + val (l[i + 2].toNat : Int)) % 256 = val (l[i + 1].toNat : Int) * 16 + val (l[i + 2].toNat : Int) by omega]
            have e : N acc ++ [val (l[i + 1].toNat : Int) * 16 + val (l[i + 2].toNat : Int)] = N (acc ++ [(val (l[i + 1].toNat : Int) * 16 + val (l[i + 2].toNat : Int)).toNat.toUInt8]) := by
              rw [N_app]
              simp only [N, List.map_cons, List.map_nil]
              generalize hz : val (l[i + 1].toNat : Int) * 16 + val (l[i + 2].toNat : Int) = z at *
              show _ = _ ++ [((UInt8.ofNat z.toNat).toNat : Int)]
              rw [UInt8.toNat_ofNat', show ((z.toNat % 2 ^ 8 : Nat) : Int) = z by omega]
            rw [e, show (((i + 2 : Nat) : Int) + 1) = ((i + 3 : Nat) : Int) by omega]
            have := dec_ref_l0 l hl d k (i + 3) (acc ++ [(val (l[i + 1].toNat : Int) * 16 + val (l[i + 2].toNat : Int)).toNat.toUInt8]) (by omega) (by omega) (by omega) (by simp; omega)
            rw [List.drop_eq_getElem_cons hlt, hd1, hd2, decL, if_pos ⟨hc, p0, q0⟩]
            rw [List.append_assoc] at this
            exact this
          · rw [decide_eq_false (by omega : ¬ val (l[i + 2].toNat : Int) ≥ 0)]
            refine hplain fun a b q hq hh => ?_
            rw [hd1, hd2] at hq
            obtain ⟨e1, hq⟩ := List.cons.inj hq
            obtain ⟨e2, _⟩ := List.cons.inj hq
            rw [← e2] at hh
            exact q0 hh.2.2
        · rw [if_neg (by omega)]
          refine hplain fun a b q hq hh => ?_
          rw [hd1] at hq
          obtain ⟨e1, _⟩ := List.cons.inj hq
          rw [← e1] at hh
          exact p0 hh.2.1
      · rw [if_neg (by omega)]
        refine hplain fun a b q hq _ => ?_
        have := congrArg List.length hq
        rw [List.length_drop] at this
        simp only [List.length_cons] at this
        omega
    · rw [if_neg (fun h => hc (UInt8.toNat_inj.1 (by have : (37 : UInt8).toNat = 37 := rfl; omega)))]
      exact hplain fun a b q _ hh => hc hh.1
theorem dec_ref (l : List UInt8) (hl : l.length ≤ 1000) (k : Nat) (hk : 2100 ≤ k) : transeptref06_Decode.f k (S l) = some (S (decL l)) := by
  have := dec_ref_l0 l hl l.length k 0 [] (by omega) (by omega) (by omega) (by simp)
  exact this
theorem tells_l1 (set : Int) (l : List UInt8) (hl : l.length ≤ 1000) (n : Nat) (hn : n < 7) (R : Option Bool) :
    ∀ (d k j : Nat), j + d = 256 → 3000 ≤ k → transeptlaw06_PercentTells.l0 k set (S l) true ((n + 1 : Nat) : Int) = R → transeptlaw06_PercentTells.l1 (k + d + 1) set (S l) true n j = R
  | 0, k, j, hj, hk, hR => by
    simp only [transeptlaw06_PercentTells.l1]
    rw [if_neg (by omega), enc_f _ l (by omega)]
    rw [enc_ref _ l hl _ (by omega), w64 _ (by omega) (by omega)]
    simp only [Option.bind_some, if_true]
    rw [show ((n + 1 : Nat) : Int) = (n : Int) + 1 by omega] at hR
    exact hR
  | d + 1, k, j, hj, hk, hR => by
    have e : ((j : Int) % 256) = ((UInt8.ofNat j).toNat : Int) := by rw [UInt8.toNat_ofNat']; omega
    rw [show k + (d + 1) + 1 = (k + d + 1) + 1 by omega]
    simp only [transeptlaw06_PercentTells.l1]
    rw [if_pos (by omega), e, in_ref _ _ _ (by omega)]
    unfold percent_In.f
    simp only [Option.bind_some, bne_self_eq_false, Bool.false_eq_true, if_false]
    rw [w64 _ (by omega) (by omega)]
    have h := tells_l1 set l hl n hn R d k (j + 1) (by omega) hk hR
    rw [show ((j + 1 : Nat) : Int) = (j : Int) + 1 by omega] at h
    exact h
theorem tells_l0 (set : Int) (l : List UInt8) (hl : l.length ≤ 1000) (C B : Nat) (hC : C = 3001) (hB : B = 256) (d : Nat) : ∀ (K n : Nat), n + d = 7 → d * (B + 2) + C ≤ K → transeptlaw06_PercentTells.l0 K set (S l) true n = some true := by
  induction d with
  | zero =>
    intro K n hn hK
    obtain ⟨A, rfl⟩ : ∃ A, K = A + 1 := ⟨K - 1, by omega⟩
    have hA : 3000 ≤ A := by omega
    clear hK
    rw [transeptlaw06_PercentTells.l0]
    rw [if_neg (by omega)]
    simp only [if_true]
    rw [enc_f _ l (by omega), enc_ref _ l hl _ (by omega), dec_f l (by omega), dec_ref l hl _ (by omega)]
    simp
  | succ d ih =>
    intro K n hn hK
    have hK2 : d * (B + 2) + (B + 2) + C ≤ K := by rw [Nat.succ_mul] at hK; exact hK
    obtain ⟨A, rfl⟩ : ∃ A, K = A + B + 1 + 1 := ⟨K - B - 2, by omega⟩
    have h1 := ih A (n + 1) (by omega) (by omega)
    have h := tells_l1 set l hl n (by omega) (some true) B A 0 (by omega) (by omega) h1
    rw [show ((0 : Nat) : Int) = 0 from rfl] at h
    rw [transeptlaw06_PercentTells.l0]
    rw [if_pos (by omega)]
    exact h
theorem PercentTells : transeptlaw06_PercentTells.Pure := by
  intro a0 s _ _
  suffices h : ∀ K : Nat, K = 4807 → transeptlaw06_PercentTells.f K a0 s = some true from ⟨_, h _ rfl⟩
  intro K hK
  unfold transeptlaw06_PercentTells.f
  rw [shown_f]
  obtain ⟨k1, k2, k3⟩ := mn_le (s.size : Int) 1000
  have hk : 0 ≤ mn (s.size : Int) 1000 := by omega
  generalize mn (s.size : Int) 1000 = n at *
  simp only [Option.bind_some]
  rw [if_pos hk, if_pos k1]
  rw [← S_data s, S_extract, List.drop_zero]
  have hlen : (s.data.toList.take n.toNat).length ≤ 1000 := by rw [List.length_take]; omega
  generalize s.data.toList.take n.toNat = l at *
  have h := tells_l0 a0 l hlen 3001 256 rfl rfl 7 K 0 (by omega) (by omega)
  rw [show ((0 : Nat) : Int) = 0 from rfl] at h
  exact h
end Go.Proofs.Ytpofepfkalighaa.Pure
