/- A log has at most so many bytes. No condition. -/
import Derived.Laws.BitsLemmas
import Derived.Test.YtojagnoobaleaaaDoorFrN
import Derived.Test.YtojagnoobaleaaaDoorXpN
namespace Go.Proofs.YtojagnoobaleaaaDoor.Pure
open Go.RowKit Go.Proofs.YtojagnoobaleaaaDoor.Xp Go.Proofs.YtojagnoobaleaaaDoor.Ext Go.Proofs.YtojagnoobaleaaaDoorW.PrintWords Go.Proofs.YtojagnoobaleaaaDoorW.PrintLast Go.Proofs.YtojagnoobaleaaaDoorW.PrintMore
theorem and_le (a : Int) (m : Nat) (hm : (BitVec.ofInt IntKind.i64.bits m).toNat = m) (hb : m < 9223372036854775808) : ∃ x : Nat, x ≤ m ∧ Go.bits .and .i64 a m = (x : Int) := by
  simp only [bits]
  have h : ((BitVec.ofInt IntKind.i64.bits a &&& BitVec.ofInt IntKind.i64.bits m).toNat) ≤ m := by
    rw [BitVec.toNat_and]
    exact Nat.le_trans Nat.and_le_right (by omega)
  generalize (BitVec.ofInt IntKind.i64.bits a &&& BitVec.ofInt IntKind.i64.bits m).toNat = n at *
  refine ⟨n, h, ?_⟩
  rw [IntKind.wrap_i64]; omega
theorem long_facts (Z b : List Int) (hZ : bodyV Z) (hZl : Z.length = 20000) (hb : bodyV b) (n : Nat) (hbl : b.length = n) (h1 : 8198 ≤ n) (h2 : n ≤ 8205) : ∃ X Y, X = List.replicate 52 Z ∧ Y = logE (X ++ [b]) ∧ Y = logE X ++ frE b ∧ (logE X).length = 1040368 ∧ (frE b).length = n + 6 ∧ Bytes Y ∧ Y.length = 1040374 + n ∧
    frame_Join.f X = some (logE X, 0) ∧ (n ≤ 8202 → frame_Join.f (X ++ [b]) = some (Y, 0) ∧ frame_Split.f Y = some (X ++ [b], (Y.length : Int), 0)) ∧ (8202 < n → frame_Join.f (X ++ [b]) = some ([], 5) ∧ frame_Split.f Y = some (X, 1048576, 5)) ∧
    ∀ q : Nat, q < 4 → frame_Split.f (Y.set q ((rd Y (q : Int) + 1) % 256)) = some ([], (q : Int), 3) := by
  have hXV := rep_V Z hZ 52
  have hl := log_rep Z hZl
  have hXl : (List.replicate 52 Z).length = 52 := List.length_replicate ..
  have hlj := long_join Z b hZ hZl hb
  have hls := long_split Z b hZ hZl hb
  obtain ⟨X, hX⟩ : ∃ X, X = List.replicate 52 Z := ⟨_, rfl⟩
  rw [← hX] at hXV hl hXl hlj hls
  have hf := frE_len b
  rw [plen2 b (by omega) (by omega), hbl] at hf
  have hV : ∀ z ∈ X ++ [b], bodyV z := fun z hz => (List.mem_append.1 hz).elim (hXV z) (fun h => by rw [List.mem_singleton.1 h]; exact hb)
  have hYl : (logE (X ++ [b])).length = 1040374 + n := by rw [logE_snoc, List.length_append, hl, hf]; omega
  have hYB := logE_bytes hV
  have hsn : (X ++ [b]).length = 53 := by rw [List.length_append, hXl, List.length_singleton]
  refine ⟨X, _, hX, rfl, logE_snoc X b, hl, by omega, hYB, hYl, ?_, fun h => ⟨?_, ?_⟩, fun h => ⟨?_, ?_⟩, fun q hq => ?_⟩
  · rw [join_f (fun z hz => (hXV z hz).2) (by omega), join_ok hXV (by omega) (by omega)]
  · rw [join_f (fun z hz => (hV z hz).2) (by omega), join_ok hV (by omega) (by omega)]
  · rw [split_f hYB (by omega), split_small (by omega), log_full hV (by omega)]
  · rw [join_f (fun z hz => (hV z hz).2) (by omega), hlj (by omega)]
  · rw [split_f hYB (by omega), hls (by omega)]
  · have hr : rd (logE (X ++ [b])) (q : Int) = magic.getD q 0 := by
      unfold rd logE
      rw [Int.toNat_natCast, List.getD_eq_getElem?_getD, List.getD_eq_getElem?_getD, List.getElem?_append_left (by show q < 4; exact hq)]
    have hx : (rd (logE (X ++ [b])) (q : Int) + 1) % 256 ≠ magic.getD q 0 ∧ 0 ≤ (rd (logE (X ++ [b])) (q : Int) + 1) % 256 ∧ (rd (logE (X ++ [b])) (q : Int) + 1) % 256 < 256 := by
      rw [hr]
      have : q = 0 ∨ q = 1 ∨ q = 2 ∨ q = 3 := by omega
      rcases this with rfl | rfl | rfl | rfl <;> decide
    rw [split_f (fun z hz => (List.mem_or_eq_of_mem_set hz).elim (hYB z) (fun h => by rw [h]; exact hx.2)) (by rw [List.length_set]; omega), wrong_split _ q hq _ hx.1]
theorem long_end (a0 a1 : Int) (Z : List Int) (hZ : bodyV Z) (hZl : Z.length = 20000) (k : Nat) (hk : 90000 ≤ k) : transeptlaw04_FrameLong.l0 (k + 2) a0 a1 true (List.replicate 52 Z) Z 52 = some true := by
  obtain ⟨x, hx7, hx⟩ := and_le a0 7 (by decide) (by decide)
  obtain ⟨q, hq3, hq⟩ := and_le a1 3 (by decide) (by decide)
  obtain ⟨n, hn⟩ : ∃ n, n = 8198 + x := ⟨_, rfl⟩
  obtain ⟨b, hB⟩ : ∃ b, b = List.replicate n (0 : Int) := ⟨_, rfl⟩
  have hbl : b.length = n := by rw [hB, List.length_replicate]
  have hbV : bodyV b := ⟨by omega, by rw [hB]; exact zeros_bytes n⟩
  obtain ⟨X, Y, hX, hY, hYe, hXl, hfl, hYB, hYl, hJ, hS0, hS5, hW⟩ := long_facts Z b hZ hZl hbV n hbl (by omega) (by omega)
  have hXn : X.length = 52 := by rw [hX, List.length_replicate]
  have hF := ref_frame b hbV.2 (by omega) (k + 1) (by omega)
  have hfb : Bytes (frE b) := one_codec.bytes b hbV
  have hw := Aside0.mk (show wrap64 ((8202 - 4) + (x : Int)) = (n : Int) by rw [w64 _ (by omega) (by omega)]; omega)
  have hw2 := Aside0.mk (show wrap64 ((1048576 - 8202) + (n : Int)) = ((1040374 + n : Nat) : Int) by rw [w64 _ (by omega) (by omega)]; omega)
  have hWq := hW q (by omega)
  have hn1 : 8198 ≤ n ∧ n ≤ 8205 := by omega
  have e : Aside0 (logE X ++ bytesOf (strOfNums (frE b)) = Y) := .mk (by rw [bytesOf_strOf _ hfb, ← hYe])
  rw [show ((7 : Nat) : Int) = 7 from rfl] at hx
  rw [show ((3 : Nat) : Int) = 3 from rfl] at hq
  rw [← hX]
  replace hx := Aside0.mk hx
  replace hq := Aside0.mk hq
  replace hB := Aside0.mk hB
  replace hS0 := Aside0.mk hS0
  replace hS5 := Aside0.mk hS5
  replace hWq := Aside0.mk hWq
  replace hJ := Aside0.mk hJ
  replace hF := Aside0.mk hF
  clear hY hYe hW hn hX hYB hfb hZ hbV
  rw [transeptlaw04_FrameLong.l0, if_neg (by decide), hx.out, hw.out, Int.toNat_natCast, ← hB.out]
  rw [bind_s, if_pos (by rw [List.length_nil]; omega), bind_s, List.nil_append, if_pos (show (0 : Int) ≤ (n : Int) by omega), if_pos (by omega), bind_s, if_pos (by rw [List.length_singleton]; omega)]
  have hfin : ∀ (e1 : Int) (M : List (List Int)) (at_ e2 : Int), (if (n : Int) ≤ 8202 then (e2 = 0 ∧ at_ = (Y.length : Int) ∧ (M.length : Int) = 53) else (e1 = 5 ∧ e2 = 5 ∧ at_ = 1048576 ∧ (M.length : Int) = 52)) → transeptlaw04_FrameLong.j1 (k + 1) (n : Int) a1 true 8202 e1 Y M at_ e2 false = some true := by
    intro e1 M at_ e2 h
    rw [transeptlaw04_FrameLong.j1, if_neg Bool.false_ne_true, hq.out]
    by_cases h8 : (n : Int) ≤ 8202
    · rw [if_pos h8] at h
      obtain ⟨g1, g2, g3⟩ := h
      rw [if_pos h8, if_pos g1, if_pos g2, if_pos g3, if_pos (by omega), if_pos (by omega), Int.toNat_natCast, hWq.out, bind_s, if_pos rfl, if_pos rfl]; rfl
    · rw [if_neg h8] at h
      obtain ⟨g1, g2, g3, g4⟩ := h
      rw [if_neg h8, if_pos g1, if_pos g2, if_pos g3, if_pos g4, if_pos (by omega), if_pos (by omega), Int.toNat_natCast, hWq.out, bind_s, if_pos rfl, if_pos rfl]; rfl
  have hlen : ((Y.length : Int) != ((1040374 + n : Nat) : Int)) = false := by rw [bne_eq_false_iff_eq, hYl]
  by_cases h8 : n ≤ 8202
  · obtain ⟨g1, g2⟩ := hS0.out h8
    have d : decide ((n : Int) ≤ 8202) = true := by rw [decide_eq_true_iff]; omega
    rw [g1, bind_s, hJ.out, bind_s, if_pos rfl, bind_s, if_pos (by rw [List.length_nil, hXl]; omega), bind_s, List.nil_append, hF.out, bind_s, if_pos (by rw [strOf_size, hXl, hfl]; omega), bind_s, e.out, g2, bind_s, d]
    rw [if_neg (show ¬ (((0 : Int) == 0) != true) = true by decide), hw2.out, hlen]
    exact hfin _ _ _ _ (by rw [if_pos (by omega)]; exact ⟨rfl, rfl, by rw [List.length_append, hXn, List.length_singleton]; rfl⟩)
  · obtain ⟨g1, g2⟩ := hS5.out (by omega)
    have d : decide ((n : Int) ≤ 8202) = false := by rw [decide_eq_false_iff_not]; omega
    rw [g1, bind_s, hJ.out, bind_s, if_pos rfl, bind_s, if_pos (by rw [List.length_nil, hXl]; omega), bind_s, List.nil_append, hF.out, bind_s, if_pos (by rw [strOf_size, hXl, hfl]; omega), bind_s, e.out, g2, bind_s, d]
    rw [if_neg (show ¬ (((5 : Int) == 0) != false) = true by decide), hw2.out, hlen]
    exact hfin _ _ _ _ (by rw [if_neg (by omega)]; exact ⟨rfl, rfl, rfl, by rw [hXn]; rfl⟩)
theorem long_l0 (a0 a1 : Int) (Z : List Int) (hZ : bodyV Z) (hZl : Z.length = 20000) : ∀ (d i : Nat), i + d = 52 → transeptlaw04_FrameLong.l0 (90000 + d + 2) a0 a1 true (List.replicate i Z) Z i = some true
  | 0, i, hi => by
    obtain rfl : i = 52 := by omega
    exact long_end a0 a1 Z hZ hZl 90000 (Nat.le_refl _)
  | d + 1, i, hi => by
    rw [show 90000 + (d + 1) + 2 = (90000 + d + 2) + 1 by omega, transeptlaw04_FrameLong.l0, if_pos (by omega), bind_s, if_pos (by rw [List.length_replicate, List.length_singleton]; omega), ← List.replicate_succ', w64 _ (by omega) (by omega), show ((i : Int) + 1) = ((i + 1 : Nat) : Int) by omega]
    exact long_l0 a0 a1 Z hZ hZl d (i + 1) (by omega)
theorem FrameLong : transeptlaw04_FrameLong.Pure := by
  intro a0 a1 _ _
  refine ⟨90000 + 52 + 2, ?_⟩
  unfold transeptlaw04_FrameLong.f transeptlaw04_shown.f
  rw [bind_s, if_pos (by decide)]
  exact long_l0 a0 a1 _ ⟨by rw [List.length_replicate]; exact Nat.le_refl _, zeros_bytes _⟩ (List.length_replicate ..) 52 0 (by decide)
end Go.Proofs.YtojagnoobaleaaaDoor.Pure
