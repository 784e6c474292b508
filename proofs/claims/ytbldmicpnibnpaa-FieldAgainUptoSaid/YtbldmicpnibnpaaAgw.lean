/- FieldAgain's walk: by hand. -/
import Derived.Test.YtbldmicpnibnpaaXax0
import Derived.Test.YtbldmicpnibnpaaXax4
import Derived.Test.YtbldmicpnibnpaaXax6
import Derived.Test.YtbldmicpnibnpaaXax7
import Derived.Test.YtbldmicpnibnpaaXax12
import Derived.Test.YtbldmicpnibnpaaXax15
import Derived.Test.YtbldmicpnibnpaaXax16
import Derived.Test.YtbldmicpnibnpaaXax17
import Derived.Test.YtbldmicpnibnpaaNam
import Derived.Deep.RegionHeld3
import Derived.Handy
namespace Go.Proofs.Ytbldmicpnibnpaa.Xa
open Go.RowKit Go.Proofs.Ytbldmicpnibnpaa.Ext Go.Proofs.YtbldmicpnibnpaaW.PrintWords Go.Proofs.YtbldmicpnibnpaaW.PrintLast Go.Proofs.YtbldmicpnibnpaaW.PrintMore
set_option linter.unusedVariables false
set_option linter.unusedSimpArgs false
/-- What FieldAgain asks, and is answered. -/
structure Again (k : Nat) (l l' c : List S31) (name a : ByteArray) (one : Bool) (ns : List ByteArray) (c47 : List S47) : Prop where
  p1 : transeptlaw10_shown.f k = some true
  p2 : transeptlaw10_few.f l = some l'
  p3 : field_Combined.f k l' = some c
  p4 : field_Get.f k l' name = some (a, one)
  p5 : field_Get.f k c name = some (a, one)
  p6 : field_Only.f k c name = some (a, one)
  p7 : ∀ i : Int, 0 ≤ i → i < c.length → token_Lower.f (rd_T31 c i).f0 = some (rd_T31 c i).f0
  p8 : ∀ i : Int, 0 < i → i < c.length → (Op.bytesLess ((rd_T31 c (i - 1)).f0.toList) ((rd_T31 c i).f0.toList)) = true
  p9 : field_Combined.f k c = some c
  p10 : transeptlaw10_of.f k c = some c47
  p11 : transeptlaw10_same.f k c c47 = some true
  p12 : field_Names.f c = some ns
  p13 : field_Names.f l' = some ns
  p14 : transeptref09_Same.f k ns ns = some true
  p15 : c.length ≤ 1000000
def again_T10 : Bool × List (List Nat × List Nat) := (true, [([], []), ([], []), ([0, 1], [0, 1]), ([2], [2]), ([3], [3]), ([], []), ([], []), ([5, 6], [5, 6]), ([7], [7]), ([8], [8]), ([9], [9]), ([4, 10], [4, 10]), ([11, 10], [11]), ([12], [12]), ([13, 12], [12, 13]), ([14, 12, 12], [12, 14]), ([15], [15]), ([15], [15]), ([17, 15], [15, 17]), ([16, 18, 15], [15, 16, 18]), ([19, 15], [15, 19]), ([20, 15], [15, 20]), ([15], [15]), ([15], [15]), ([22, 23, 15], [15, 22, 23]), ([24, 15], [15, 24]), ([25, 15], [15, 25]), ([21, 26, 15], [15, 21, 26]), ([15, 27, 12], [12, 15, 27]), ([12, 28], [12, 28])])
def again_B10 : List Nat := [0, 0, 3, 7, 15, 0, 0, 96, 224, 480, 992, 2047, 4095, 8191, 16383, 32767, 65535, 65535, 196607, 524287, 1048575, 2097151, 65535, 65535, 12648447, 29425663, 62980095, 134217727, 268435455, 536870911]
theorem again_tab10 : rtab .any (opsOf Try.f4 10) = again_T10 := by kernel_rfl
theorem again_bits10 : waitsOk again_T10.2 again_B10 = true := by kernel_rfl
set_option maxHeartbeats 4000000 in
set_option maxRecDepth 100000 in
theorem again_calls (A0 : Option Addr) (c0 k : Nat) (l l' c : List S31) (name a : ByteArray) (one : Bool) (ns : List ByteArray) (c47 : List S47) (w : World) (hr0 : Kd.C k31 w A0 l.length l) (hc0 : l.length ≤ c0) (h : Again k l l' c name a one ns c47) :
    Calls Try.prog 4 #[.slice A0 l.length c0, .string name] w fun e w' => e = .returned (.bool true) ∧ Below w.heap.size w w' := by
  have P := Aside0.mk h
  have HR := Aside0.mk hr0
  have HC := Aside0.mk hc0
  clear h hr0 hc0
  obtain ⟨n, hnl⟩ : ∃ n : Int, (c.length : Int) = n := ⟨_, rfl⟩
  have hn0 : 0 ≤ n := by omega
  have hn1 : n ≤ 1000000 := by have := P.out.p15; omega
  have HN := Aside0.mk hnl
  obtain ⟨m1, hm1⟩ : ∃ m : Int, (l'.length : Int) = m := ⟨_, rfl⟩
  go_enter Try.func4, Try.ntmps4
  go_wp2_with (fail)
  refine (transeptlaw10_shown.calls k true _ P.out.p1).mono ?_
  rintro e w1 ⟨rfl, b1⟩
  go_wp2_with (fail)
  refine (transeptlaw10_few.calls A0 c0 l l' _ (Kd.C_below HR.out b1) HC.out P.out.p2).mono ?_
  rintro e w2 ⟨v2, rfl, r2, b2⟩
  obtain ⟨A2, c2, e2⟩ := Kd.R_slice r2
  subst e2
  have R2 := Aside0.mk r2
  clear r2
  go_wp2_with (fail)
  refine (field_Combined.calls k A2 c2 l' c _ (Kd.R_reads' R2.out).2.2 (Kd.R_reads' R2.out).2.1 P.out.p3).mono ?_
  rintro e w3 ⟨v3, rfl, r3, b3⟩
  obtain ⟨A3, c3, e3⟩ := Kd.R_slice r3
  subst e3
  have B3 := Aside0.mk (below_then (below_then b1 b1.size b2) (below_then b1 b1.size b2).size b3)
  have C2 := Aside0.mk (Kd.C_below (Kd.R_reads' R2.out).2.2 b3)
  have C3 := Aside0.mk (Kd.R_reads' r3).2.2
  have L2 := Aside0.mk (Kd.R_reads' R2.out).2.1
  have L3 := Aside0.mk (Kd.R_reads' r3).2.1
  clear R2 r3 b1 b2 b3
  go_wp2_with (fail)
  refine (field_Get.calls k A2 c2 l' name a one _ C2.out L2.out P.out.p4).mono ?_
  rintro e w4 ⟨rfl, b4⟩
  go_wp2_with (fail)
  refine (field_Get.calls k A3 c3 c name a one _ (Kd.C_below C3.out b4) L3.out P.out.p5).mono ?_
  rintro e w5 ⟨rfl, b5⟩
  go_wp2_with (fail)
  refine (field_Only.calls k A3 c3 c name a one _ (Kd.C_below (Kd.C_below C3.out b4) b5) L3.out P.out.p6).mono ?_
  rintro e w6 ⟨rfl, b6⟩
  have b36 := below_then (below_then b4 b4.size b5) (below_then b4 b4.size b5).size b6
  have B6 := Aside0.mk (below_then B3.out B3.out.size b36)
  have D2 := Aside0.mk (Kd.C_below C2.out b36)
  have D3 := Aside0.mk (Kd.C_below C3.out b36)
  clear b4 b5 b6 b36 B3 C2 C3
  go_wp2_with (fail)
  go_loopg [13] n.toNat (fun m v13 W => ∃ I : Int, v13 = .int .i64 I ∧ 0 ≤ I ∧ I + m = n ∧ Aside0 (Below w6.heap.size w6 W))
  case atStart => exact ⟨0, rfl, Int.le_refl _, by omega, ⟨Below.refl _ _⟩⟩
  case round =>
    obtain ⟨I, rfl, hI0, hIm, HX⟩ := hrel
    by_cases hi : I < n
    · obtain ⟨ad, hA, f0, f1⟩ := at_T31 (Kd.C_below D3.out HX.out) I hI0 (by have := HN.out; omega)
      subst hA
      obtain ⟨N1, hN1⟩ : ∃ F, (rd_T31 c I).f0 = F := ⟨_, rfl⟩
      rw [hN1] at f0
      have hlo := P.out.p7 I hI0 (by have := HN.out; omega)
      rw [hN1] at hlo
      have HCL : Aside0 (∀ V, Below wr.heap.size wr V → Calls Try.prog 14 #[.string N1] V fun e w' => e = .returned (.string N1) ∧ Below wr.heap.size wr w') := ⟨fun V hV => (token_Lower.calls N1 N1 V hlo).mono (by rintro e w' ⟨rfl, h⟩; exact ⟨rfl, below_then hV hV.size h⟩)⟩
      have hce : ∀ V, Below wr.heap.size wr V → V.cell? (ad.add (I.toNat * 2)) = some (.string N1) := fun V hV => pw_cell_below hV f0
      by_cases h0 : I = 0
      · have hl1 : decide ((0 : Int) < I) = false := decide_eq_false (by omega)
        have hl2 : ¬ ((0 : Int) < I) := by omega
        have hl3 : ¬ (I > (0 : Int)) := by omega
        have hne : (N1.toList != N1.toList) = false := by simp
        clear f1 hlo hN1 h0
        go_wp2_with (fail)
        have hbd : Below wr.heap.size wr wr.drew := below_drew (Below.refl _ _)
        refine start_ (n := 30) (S := fun w' => w'.cell? (ad.add (I.toNat * 2)) = some (.string N1)) (ds := []) #[false, false, false, false, false, false, false, false, false, false, false, false, false, false, false, false, false, false, false, false, false, false, false, false, false, false, false, false, false, false] (by kernel_rfl) rfl rfl (hce _ hbd) (fun hHeld => ?_); refine with_tabW again_tab10 again_bits10 (fun HT_ HW_ => ?_)
        generalize wr.drew = w28 at hbd hHeld ⊢
        refine pure_ (i := 0) (N := some 43) (v := ?_) (a' := ?_) #[true, false, false, false, false, false, false, false, false, false, false, false, false, false, false, false, false, false, false, false, false, false, false, false, false, false, false, false, false, false] rfl rfl (any_of HT_.out (by kernel_rfl)) (fun _ _ _ h => h) (Or.inl ⟨by rfl, ?_⟩) ?_ ?_
        rotate_left
        · intro w'
          go_simp
          with_reducible rfl
        rotate_left
        · simp only [Act.put, List.setIfInBounds_toArray, List.set_cons_zero, List.set_cons_succ, i64_w, i32_w]
          rfl
        refine pure_ (i := 1) (N := some 44) (v := ?_) (a' := ?_) #[true, true, false, false, false, false, false, false, false, false, false, false, false, false, false, false, false, false, false, false, false, false, false, false, false, false, false, false, false, false] rfl rfl (any_of HT_.out (by kernel_rfl)) (fun _ _ _ h => h) (Or.inl ⟨by rfl, ?_⟩) ?_ ?_
        rotate_left
        · intro w'
          go_simp
          with_reducible rfl
        rotate_left
        · simp only [Act.put, List.setIfInBounds_toArray, List.set_cons_zero, List.set_cons_succ, i64_w, i32_w]
          rfl
        refine pure_ (i := 2) (N := some 45) (v := ?_) (a' := ?_) #[true, true, true, false, false, false, false, false, false, false, false, false, false, false, false, false, false, false, false, false, false, false, false, false, false, false, false, false, false, false] rfl rfl (any_of HT_.out (by kernel_rfl)) (fun _ _ _ h => h) (Or.inl ⟨by rfl, ?_⟩) ?_ ?_
        rotate_left
        · intro w'
          go_simp
          with_reducible rfl
        rotate_left
        · simp only [Act.put, List.setIfInBounds_toArray, List.set_cons_zero, List.set_cons_succ, i64_w, i32_w]
          rfl
        refine pure_ (i := 3) (N := some 46) (v := ?_) (a' := ?_) #[true, true, true, true, false, false, false, false, false, false, false, false, false, false, false, false, false, false, false, false, false, false, false, false, false, false, false, false, false, false] rfl rfl (any_of HT_.out (by kernel_rfl)) (fun _ _ _ h => h) (Or.inl ⟨by rfl, ?_⟩) ?_ ?_
        rotate_left
        · intro w'
          go_simp
          with_reducible rfl
        rotate_left
        · simp only [Act.put, List.setIfInBounds_toArray, List.set_cons_zero, List.set_cons_succ, i64_w, i32_w]
          rfl
        refine pure_ (i := 5) (N := some 48) (v := ?_) (a' := ?_) #[true, true, true, true, false, true, false, false, false, false, false, false, false, false, false, false, false, false, false, false, false, false, false, false, false, false, false, false, false, false] rfl rfl (any_of HT_.out (by kernel_rfl)) (fun _ _ _ h => h) (Or.inl ⟨by rfl, ?_⟩) ?_ ?_
        rotate_left
        · intro w'
          go_simp
          with_reducible rfl
        rotate_left
        · simp only [Act.put, List.setIfInBounds_toArray, List.set_cons_zero, List.set_cons_succ, i64_w, i32_w]
          rfl
        refine pure_ (i := 6) (N := some 49) (v := ?_) (a' := ?_) #[true, true, true, true, false, true, true, false, false, false, false, false, false, false, false, false, false, false, false, false, false, false, false, false, false, false, false, false, false, false] rfl rfl (any_of HT_.out (by kernel_rfl)) (fun _ _ _ h => h) (Or.inl ⟨by rfl, ?_⟩) ?_ ?_
        rotate_left
        · intro w'
          go_simp
          with_reducible rfl
        rotate_left
        · simp only [Act.put, List.setIfInBounds_toArray, List.set_cons_zero, List.set_cons_succ, i64_w, i32_w]
          rfl
        refine pure_ (i := 7) (N := some 50) (v := ?_) (a' := ?_) #[true, true, true, true, false, true, true, true, false, false, false, false, false, false, false, false, false, false, false, false, false, false, false, false, false, false, false, false, false, false] rfl rfl (any_of HT_.out (by kernel_rfl)) (fun _ _ _ h => h) (Or.inl ⟨by rfl, ?_⟩) ?_ ?_
        rotate_left
        · intro w'
          go_simp
          with_reducible rfl
        rotate_left
        · simp only [Act.put, List.setIfInBounds_toArray, List.set_cons_zero, List.set_cons_succ, i64_w, i32_w]
          rfl
        refine pure_ (i := 8) (N := some 51) (v := ?_) (a' := ?_) #[true, true, true, true, false, true, true, true, true, false, false, false, false, false, false, false, false, false, false, false, false, false, false, false, false, false, false, false, false, false] rfl rfl (any_of HT_.out (by kernel_rfl)) (fun _ _ _ h => h) (Or.inl ⟨by rfl, ?_⟩) ?_ ?_
        rotate_left
        · intro w'
          go_simp
          with_reducible rfl
        rotate_left
        · simp only [Act.put, List.setIfInBounds_toArray, List.set_cons_zero, List.set_cons_succ, i64_w, i32_w]
          rfl
        refine take_ (i := 4) (N := some 47) (v := ?_) (a' := ?_) #[true, true, true, true, true, true, true, true, true, false, false, false, false, false, false, false, false, false, false, false, false, false, false, false, false, false, false, false, false, false] rfl rfl (take_ofW HT_.out HW_.out (by kernel_rfl)) (fun _ _ _ h => h) (Or.inl ⟨by rfl, ?_⟩) hHeld ?_ ?_
        rotate_left
        · intro w' s0
          replace s0 : w'.cell? (ad.add (I.toNat * 2)) = some (.string N1) := s0
          go_simp
          with_reducible rfl
        rotate_left
        · simp only [Act.put, List.setIfInBounds_toArray, List.set_cons_zero, List.set_cons_succ, i64_w, i32_w]
          rfl
        refine take_ (i := 9) (N := some 52) (v := ?_) (a' := ?_) #[true, true, true, true, true, true, true, true, true, true, false, false, false, false, false, false, false, false, false, false, false, false, false, false, false, false, false, false, false, false] rfl rfl (take_ofW HT_.out HW_.out (by kernel_rfl)) (fun _ _ _ h => h) (Or.inl ⟨by rfl, ?_⟩) hHeld ?_ ?_
        rotate_left
        · intro w' s0
          replace s0 : w'.cell? (ad.add (I.toNat * 2)) = some (.string N1) := s0
          go_simp
          with_reducible rfl
        rotate_left
        · simp only [Act.put, List.setIfInBounds_toArray, List.set_cons_zero, List.set_cons_succ, i64_w, i32_w]
          rfl
        refine one_ (i := 10) (N := some 53) #[true, true, true, true, true, true, true, true, true, true, true, false, false, false, false, false, false, false, false, false, false, false, false, false, false, false, false, false, false, false] rfl rfl (one_of HT_.out (by kernel_rfl)) (by decide) (fun K hK => ?_)
        refine goes_ Try.func14 (by kernel_rfl) rfl #[.string N1] (by rfl) rfl rfl (by (try simp only [List.map_toArray, List.map_cons, List.map_nil]); first | done | rfl | (simp only [List.length_drop, List.length_take]; rfl)) ?_
        with_reducible refine (HCL.out _ hbd).mono ?_
        rintro e w29 ⟨rfl, hb⟩
        refine ⟨_, rfl, ?_⟩
        refine hK.out _ _ (hce _ hb) (fun hHeld => ?_)
        clear hK K
        refine norm_ (a' := ?_) ?_ ?_
        rotate_left
        · show Act.put _ (some 53) _ = _
          simp only [Act.put, List.setIfInBounds_toArray, List.set_cons_zero, List.set_cons_succ, i64_w, i32_w]
          rfl
        refine pure_ (i := 11) (N := some 54) (v := ?_) (a' := ?_) #[true, true, true, true, true, true, true, true, true, true, true, true, false, false, false, false, false, false, false, false, false, false, false, false, false, false, false, false, false, false] rfl rfl (any_of HT_.out (by kernel_rfl)) (fun _ _ _ h => h) (Or.inl ⟨by rfl, ?_⟩) ?_ ?_
        rotate_left
        · intro w'
          go_simp
          with_reducible rfl
        rotate_left
        · simp only [Act.put, List.setIfInBounds_toArray, List.set_cons_zero, List.set_cons_succ, i64_w, i32_w]
          rfl
        refine pure_ (i := 12) (N := some 55) (v := ?_) (a' := ?_) #[true, true, true, true, true, true, true, true, true, true, true, true, true, false, false, false, false, false, false, false, false, false, false, false, false, false, false, false, false, false] rfl rfl (any_of HT_.out (by kernel_rfl)) (fun _ _ _ h => h) (Or.inl ⟨by rfl, ?_⟩) ?_ ?_
        rotate_left
        · intro w'
          go_simp
          with_reducible rfl
        rotate_left
        · simp only [Act.put, List.setIfInBounds_toArray, List.set_cons_zero, List.set_cons_succ, i64_w, i32_w]
          rfl
        refine pure_ (i := 13) (N := some 56) (v := ?_) (a' := ?_) #[true, true, true, true, true, true, true, true, true, true, true, true, true, true, false, false, false, false, false, false, false, false, false, false, false, false, false, false, false, false] rfl rfl (any_of HT_.out (by kernel_rfl)) (fun _ _ _ h => h) (Or.inl ⟨by rfl, ?_⟩) ?_ ?_
        rotate_left
        · intro w'
          go_simp
          with_reducible rfl
        rotate_left
        · simp only [Act.put, List.setIfInBounds_toArray, List.set_cons_zero, List.set_cons_succ, i64_w, i32_w]
          rfl
        refine pure_ (i := 14) (N := some 57) (v := ?_) (a' := ?_) #[true, true, true, true, true, true, true, true, true, true, true, true, true, true, true, false, false, false, false, false, false, false, false, false, false, false, false, false, false, false] rfl rfl (any_of HT_.out (by kernel_rfl)) (fun _ _ _ h => h) (Or.inl ⟨by rfl, ?_⟩) ?_ ?_
        rotate_left
        · intro w'
          go_simp
          with_reducible rfl
        rotate_left
        · simp only [Act.put, List.setIfInBounds_toArray, List.set_cons_zero, List.set_cons_succ, i64_w, i32_w]
          rfl
        refine pure_ (i := 15) (N := some 58) (v := ?_) (a' := ?_) #[true, true, true, true, true, true, true, true, true, true, true, true, true, true, true, true, false, false, false, false, false, false, false, false, false, false, false, false, false, false] rfl rfl (any_of HT_.out (by kernel_rfl)) (fun _ _ _ h => h) (Or.inl ⟨by rfl, ?_⟩) ?_ ?_
        rotate_left
        · intro w'
          go_simp
          with_reducible rfl
        rotate_left
        · simp only [Act.put, List.setIfInBounds_toArray, List.set_cons_zero, List.set_cons_succ, i64_w, i32_w]
          rfl
        refine pure_ (i := 16) (N := some 59) (v := undef) (a' := ?_) #[true, true, true, true, true, true, true, true, true, true, true, true, true, true, true, true, true, false, false, false, false, false, false, false, false, false, false, false, false, false] rfl rfl (any_of HT_.out (by kernel_rfl)) (fun _ _ _ h => h) (Or.inr ⟨by rfl, rfl⟩) ?_ ?_
        rotate_left
        · simp only [Act.put, List.setIfInBounds_toArray, List.set_cons_zero, List.set_cons_succ, i64_w, i32_w]
          rfl
        refine pure_ (i := 17) (N := some 60) (v := undef) (a' := ?_) #[true, true, true, true, true, true, true, true, true, true, true, true, true, true, true, true, true, true, false, false, false, false, false, false, false, false, false, false, false, false] rfl rfl (any_of HT_.out (by kernel_rfl)) (fun _ _ _ h => h) (Or.inr ⟨by rfl, rfl⟩) ?_ ?_
        rotate_left
        · simp only [Act.put, List.setIfInBounds_toArray, List.set_cons_zero, List.set_cons_succ, i64_w, i32_w]
          rfl
        refine pure_ (i := 18) (N := some 61) (v := undef) (a' := ?_) #[true, true, true, true, true, true, true, true, true, true, true, true, true, true, true, true, true, true, true, false, false, false, false, false, false, false, false, false, false, false] rfl rfl (any_of HT_.out (by kernel_rfl)) (fun _ _ _ h => h) (Or.inr ⟨by rfl, rfl⟩) ?_ ?_
        rotate_left
        · simp only [Act.put, List.setIfInBounds_toArray, List.set_cons_zero, List.set_cons_succ, i64_w, i32_w]
          rfl
        refine pure_ (i := 19) (N := some 62) (v := undef) (a' := ?_) #[true, true, true, true, true, true, true, true, true, true, true, true, true, true, true, true, true, true, true, true, false, false, false, false, false, false, false, false, false, false] rfl rfl (any_of HT_.out (by kernel_rfl)) (fun _ _ _ h => h) (Or.inr ⟨by rfl, rfl⟩) ?_ ?_
        rotate_left
        · simp only [Act.put, List.setIfInBounds_toArray, List.set_cons_zero, List.set_cons_succ, i64_w, i32_w]
          rfl
        refine pure_ (i := 20) (N := some 63) (v := undef) (a' := ?_) #[true, true, true, true, true, true, true, true, true, true, true, true, true, true, true, true, true, true, true, true, true, false, false, false, false, false, false, false, false, false] rfl rfl (any_of HT_.out (by kernel_rfl)) (fun _ _ _ h => h) (Or.inr ⟨by rfl, rfl⟩) ?_ ?_
        rotate_left
        · simp only [Act.put, List.setIfInBounds_toArray, List.set_cons_zero, List.set_cons_succ, i64_w, i32_w]
          rfl
        refine pure_ (i := 21) (N := some 64) (v := undef) (a' := ?_) #[true, true, true, true, true, true, true, true, true, true, true, true, true, true, true, true, true, true, true, true, true, true, false, false, false, false, false, false, false, false] rfl rfl (any_of HT_.out (by kernel_rfl)) (fun _ _ _ h => h) (Or.inr ⟨by rfl, rfl⟩) ?_ ?_
        rotate_left
        · simp only [Act.put, List.setIfInBounds_toArray, List.set_cons_zero, List.set_cons_succ, i64_w, i32_w]
          rfl
        refine pure_ (i := 22) (N := some 65) (v := undef) (a' := ?_) #[true, true, true, true, true, true, true, true, true, true, true, true, true, true, true, true, true, true, true, true, true, true, true, false, false, false, false, false, false, false] rfl rfl (any_of HT_.out (by kernel_rfl)) (fun _ _ _ h => h) (Or.inr ⟨by rfl, rfl⟩) ?_ ?_
        rotate_left
        · simp only [Act.put, List.setIfInBounds_toArray, List.set_cons_zero, List.set_cons_succ, i64_w, i32_w]
          rfl
        refine pure_ (i := 23) (N := some 66) (v := undef) (a' := ?_) #[true, true, true, true, true, true, true, true, true, true, true, true, true, true, true, true, true, true, true, true, true, true, true, true, false, false, false, false, false, false] rfl rfl (any_of HT_.out (by kernel_rfl)) (fun _ _ _ h => h) (Or.inr ⟨by rfl, rfl⟩) ?_ ?_
        rotate_left
        · simp only [Act.put, List.setIfInBounds_toArray, List.set_cons_zero, List.set_cons_succ, i64_w, i32_w]
          rfl
        refine pure_ (i := 24) (N := some 67) (v := undef) (a' := ?_) #[true, true, true, true, true, true, true, true, true, true, true, true, true, true, true, true, true, true, true, true, true, true, true, true, true, false, false, false, false, false] rfl rfl (any_of HT_.out (by kernel_rfl)) (fun _ _ _ h => h) (Or.inr ⟨by rfl, rfl⟩) ?_ ?_
        rotate_left
        · simp only [Act.put, List.setIfInBounds_toArray, List.set_cons_zero, List.set_cons_succ, i64_w, i32_w]
          rfl
        refine pure_ (i := 25) (N := some 68) (v := undef) (a' := ?_) #[true, true, true, true, true, true, true, true, true, true, true, true, true, true, true, true, true, true, true, true, true, true, true, true, true, true, false, false, false, false] rfl rfl (any_of HT_.out (by kernel_rfl)) (fun _ _ _ h => h) (Or.inr ⟨by rfl, rfl⟩) ?_ ?_
        rotate_left
        · simp only [Act.put, List.setIfInBounds_toArray, List.set_cons_zero, List.set_cons_succ, i64_w, i32_w]
          rfl
        refine pure_ (i := 26) (N := some 69) (v := undef) (a' := ?_) #[true, true, true, true, true, true, true, true, true, true, true, true, true, true, true, true, true, true, true, true, true, true, true, true, true, true, true, false, false, false] rfl rfl (any_of HT_.out (by kernel_rfl)) (fun _ _ _ h => h) (Or.inr ⟨by rfl, rfl⟩) ?_ ?_
        rotate_left
        · simp only [Act.put, List.setIfInBounds_toArray, List.set_cons_zero, List.set_cons_succ, i64_w, i32_w]
          rfl
        refine pure_ (i := 27) (N := some 70) (v := undef) (a' := ?_) #[true, true, true, true, true, true, true, true, true, true, true, true, true, true, true, true, true, true, true, true, true, true, true, true, true, true, true, true, false, false] rfl rfl (any_of HT_.out (by kernel_rfl)) (fun _ _ _ h => h) (Or.inr ⟨by rfl, rfl⟩) ?_ ?_
        rotate_left
        · simp only [Act.put, List.setIfInBounds_toArray, List.set_cons_zero, List.set_cons_succ, i64_w, i32_w]
          rfl
        refine pure_ (i := 28) (N := some 71) (v := ?_) (a' := ?_) #[true, true, true, true, true, true, true, true, true, true, true, true, true, true, true, true, true, true, true, true, true, true, true, true, true, true, true, true, true, false] rfl rfl (any_of HT_.out (by kernel_rfl)) (fun _ _ _ h => h) (Or.inl ⟨by rfl, ?_⟩) ?_ ?_
        rotate_left
        · intro w'
          go_simp
          with_reducible rfl
        rotate_left
        · simp only [Act.put, List.setIfInBounds_toArray, List.set_cons_zero, List.set_cons_succ, i64_w, i32_w]
          rfl
        refine pure_ (i := 29) (N := some 72) (v := ?_) (a' := ?_) #[true, true, true, true, true, true, true, true, true, true, true, true, true, true, true, true, true, true, true, true, true, true, true, true, true, true, true, true, true, true] rfl rfl (any_of HT_.out (by kernel_rfl)) (fun _ _ _ h => h) (Or.inl ⟨by rfl, ?_⟩) ?_ ?_
        rotate_left
        · intro w'
          go_simp
          with_reducible rfl
        rotate_left
        · simp only [Act.put, List.setIfInBounds_toArray, List.set_cons_zero, List.set_cons_succ, i64_w, i32_w]
          rfl
        refine done_ (done_of HT_.out (by kernel_rfl)) ?_
        go_wp2
        go_roundg (gk - 1)
        case measure => omega
        case rel => exact ⟨I + 1, by go_num, by omega, by omega, ⟨below_then HX.out HX.out.size hb⟩⟩
      · obtain ⟨ad', hA', g0, g1⟩ := at_T31 (Kd.C_below D3.out HX.out) (I - 1) (by omega) (by have := HN.out; omega)
        obtain rfl : ad = ad' := by injection hA'
        obtain ⟨N0, hN0⟩ : ∃ F, (rd_T31 c (I - 1)).f0 = F := ⟨_, rfl⟩
        have hwp : IntKind.i64.wrap (I - 1) = I - 1 := by rw [i64_w]; unfold wrap64; omega
        have hge : ∀ V, (Sem.run Try.prog (binOp BinOp.geq 9 (Value.string N0) (Value.string N1)) V) = .ok (.bool false) V := fun V => by
          have hlt := P.out.p8 I (by omega) (by have := HN.out; omega)
          rw [hN0, hN1] at hlt
          simp [binOp, Op.stringOp, hlt]
        have hl1 : decide ((0 : Int) < I) = true := decide_eq_true (by omega)
        have hne : (N1.toList != N1.toList) = false := by simp
        rw [hN0] at g0
        have hlt := P.out.p8 I (by omega) (by have := HN.out; omega)
        rw [hN0, hN1] at hlt
        have hcp : ∀ V, Below wr.heap.size wr V → V.cell? (ad.add ((I - 1).toNat * 2)) = some (.string N0) := fun V hV => pw_cell_below hV g0
        have hI1 : 0 < I := by omega
        obtain ⟨J, hJ⟩ : ∃ J, I - 1 = J := ⟨_, rfl⟩
        rw [hJ] at hcp hwp
        rw [← hJ] at hwp
        have hwj : IntKind.i64.wrap (I - 1) = J := hwp.trans hJ
        have hJ0 : 0 ≤ J := by omega
        have hJ1 : J < n := by omega
        clear f1 g1 hlo hN1 hN0 hA' hwp hJ g0
        go_wp2_with (fail)
        go_region_held3 (fun V => Below wr.heap.size wr V) (first | assumption | exact pw_below_drewN (Below.refl _ _) 1 | exact Below.refl _ _) (first
          | (go_at_call 14; refine (HCL.out _ (by assumption)).mono ?_; rintro e w' ⟨rfl, hb⟩))
        all_goals
          go_wp2
          go_roundg (gk - 1)
          case measure => omega
          case rel => exact ⟨I + 1, by go_num, by omega, by omega, ⟨below_then HX.out HX.out.size (by assumption)⟩⟩
    · have B7 := Aside0.mk (below_then B6.out B6.out.size HX.out)
      have E2 := Aside0.mk (Kd.C_below D2.out HX.out)
      have E3 := Aside0.mk (Kd.C_below D3.out HX.out)
      clear HX
      go_wp2_with (fail)
      refine (field_Combined.calls k A3 c3 c c _ E3.out L3.out P.out.p9).mono ?_
      rintro e w7 ⟨v7, rfl, r7, b7⟩
      obtain ⟨A7, c7, e7⟩ := Kd.R_slice r7
      subst e7
      have R7 := Aside0.mk r7
      have F2 := Aside0.mk (Kd.C_below E2.out b7)
      have F3 := Aside0.mk (Kd.C_below E3.out b7)
      have B8 := Aside0.mk (below_then B7.out B7.out.size b7)
      clear r7 b7 E2 E3 B7
      go_wp2_with (fail)
      refine (transeptlaw10_of.calls k A3 c3 c c47 _ F3.out L3.out P.out.p10).mono ?_
      rintro e w8 ⟨v8, rfl, r8, b8⟩
      obtain ⟨A8, c8, e8⟩ := Kd.R_slice r8
      subst e8
      have R8 := Aside0.mk r8
      have G2 := Aside0.mk (Kd.C_below F2.out b8)
      have G3 := Aside0.mk (Kd.C_below F3.out b8)
      have G7 := Aside0.mk (Kd.C_below (Kd.R_reads' R7.out).2.2 b8)
      have B9 := Aside0.mk (below_then B8.out B8.out.size b8)
      clear r8 b8 F2 F3 B8
      go_wp2_with (fail)
      refine (transeptlaw10_same.calls k A7 c7 c A8 c8 c47 true _ G7.out (Kd.R_reads' R7.out).2.1 (Kd.R_reads' R8.out).2.2 (Kd.R_reads' R8.out).2.1 P.out.p11).mono ?_
      rintro e w9 ⟨rfl, d9⟩
      have H2 := Aside0.mk (Kd.C_below G2.out d9.below)
      have H3 := Aside0.mk (Kd.C_below G3.out d9.below)
      have B10 := Aside0.mk (below_then B9.out B9.out.size d9.below)
      clear d9 R7 R8 G2 G3 G7 B9
      go_wp2_with (fail)
      refine (field_Names.calls A3 c3 c ns _ H3.out L3.out P.out.p12).mono ?_
      rintro e w10 ⟨v10, rfl, r10, b10⟩
      obtain ⟨A10, c10, e10⟩ := Kd.R_slice r10
      subst e10
      have R10 := Aside0.mk r10
      have I2 := Aside0.mk (Kd.C_below H2.out b10)
      have B11 := Aside0.mk (below_then B10.out B10.out.size b10)
      clear r10 b10 H2 H3 B10
      go_wp2_with (fail)
      refine (field_Names.calls A2 c2 l' ns _ I2.out L2.out P.out.p13).mono ?_
      rintro e w11 ⟨v11, rfl, r11, b11⟩
      obtain ⟨A11, c11, e11⟩ := Kd.R_slice r11
      subst e11
      have R11 := Aside0.mk r11
      have J10 := Aside0.mk (Kd.C_below (Kd.R_reads' R10.out).2.2 b11)
      have B12 := Aside0.mk (below_then B11.out B11.out.size b11)
      clear r11 b11 I2 B11
      go_wp2_with (fail)
      refine (transeptref09_Same.calls k A10 c10 ns A11 c11 ns true _ J10.out (Kd.R_reads' R10.out).2.1 (Kd.R_reads' R11.out).2.2 (Kd.R_reads' R11.out).2.1 P.out.p14).mono ?_
      rintro e w12 ⟨rfl, d12⟩
      have B13 := Aside0.mk (below_then B12.out B12.out.size d12.below)
      clear d12 R10 R11 J10 B12
      go_wp2
      go_ret
      exact ⟨rfl, B13.out⟩
end Go.Proofs.Ytbldmicpnibnpaa.Xa
