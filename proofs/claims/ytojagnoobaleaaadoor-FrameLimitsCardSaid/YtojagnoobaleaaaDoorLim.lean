/- FrameLimits by hand. -/
import Derived.Test.YtojagnoobaleaaaDoorFrY
import Derived.Test.YtojagnoobaleaaaDoorFrL
import Derived.Lib.ConvBytes
import Derived.Deep.RegionHeld3
namespace Go.Proofs.YtojagnoobaleaaaDoor.Ext
open Go.RowKit Go.Shelf Go.Proofs.YtojagnoobaleaaaDoor.Xp Go.Proofs.YtojagnoobaleaaaDoorW.PrintWords Go.Proofs.YtojagnoobaleaaaDoorW.PrintLast Go.Proofs.YtojagnoobaleaaaDoorW.PrintMore
set_option linter.unusedVariables false
set_option linter.unusedSimpArgs false
attribute [local go_sem] max2_int min2_int max_two min_two
theorem and7 (a : Int) : ∃ x : Nat, x ≤ 7 ∧ Go.bits .and .i64 a 7 = (x : Int) := by
  simp only [bits]
  have h : ((BitVec.ofInt IntKind.i64.bits a &&& BitVec.ofInt IntKind.i64.bits 7).toNat) ≤ 7 := by
    rw [BitVec.toNat_and]
    exact Nat.le_trans Nat.and_le_right (by decide +kernel)
  generalize (BitVec.ofInt IntKind.i64.bits a &&& BitVec.ofInt IntKind.i64.bits 7).toNat = n at *
  refine ⟨n, h, ?_⟩
  rw [IntKind.wrap_i64]; omega
theorem nils_snoc (k : Nat) : List.replicate k ([] : List Int) ++ [[]] = List.replicate (k + 1) [] := (List.replicate_succ' ..).symm
theorem bytes_C (W : World) (l : List Int) (hl : Bytes l) (hn : l.length ≤ 9223372036854775807) : Kd.C (Kd.int .u8) (Lib.bytesWorld W 5 (strOfNums l)) (some ⟨W.heap.size, 0, none⟩) l.length l := by
  refine Kd.C_of_reads (d := (0 : Int)) (h1 := fun _ => rfl) ⟨rfl, by omega, fun _ => ⟨_, rfl, fun j hj => ?_⟩⟩
  rw [add_plain, Lib.bytesWorld_cell W 5 (strOfNums l) j (by rw [strOf_size]; exact hj)]
  have hx := hl l[j] (List.getElem_mem hj)
  simp [strOfNums, List.getD_eq_getElem?_getD, List.getElem?_eq_getElem hj]
  omega
theorem one_row {W : World} {A : Option Addr} {c s : Nat} {b : List Int} (hC : Kd.C (Kd.int .u8) W A b.length b) (hc : b.length ≤ c) (hs : b.length = s) : Kd.C KdB (W.alloc (.cells #[.slice A s c] 22)) (some ⟨W.heap.size, 0, none⟩) [b].length [b] := by
  subst hs
  refine rows_at (blk_new _ _) (by simp) (fun j l hj => ?_)
  cases j with
  | zero =>
    simp at hj; subst hj
    exact ⟨A, c, rfl, hc, Kd.C_alloc hC _⟩
  | succ j => simp at hj
theorem one_str (W : World) (s : ByteArray) : Kd.C Kd.string (W.alloc (.cells #[.string s] 9)) (some ⟨W.heap.size, 0, none⟩) [s].length [s] := by
  refine Kd.C_of_reads (d := ByteArray.empty) (h1 := fun _ => rfl) ⟨rfl, by simp, fun hn => ⟨_, rfl, fun j hj => ?_⟩⟩
  rw [add_plain, cell_of_row _ _ _ _ _ _ (blk_new _ _)]
  have : j = 0 := by simp at hj; exact hj
  subst this; rfl
theorem join_w {A : Option Addr} {c n : Nat} (l : List (List Int)) (r1 : List Int) (r2 : Int) {w : World} (hn : l.length = n) (hG : Glob w) (hC : Kd.C KdB w A l.length l) (hc : n ≤ c) (h : frame_Join.f l = some (r1, r2)) :
    Calls Tryd.prog 18 #[.slice A n c] w fun e w' => ∃ v0_, e = .returned (.tuple #[v0_, .int .i64 r2]) ∧ JV w' w.heap.size (fun _ => True) v0_ r1 ∧ Below w.heap.size w w' := by
  subst hn
  exact frame_Join.calls A c l r1 r2 w hG hC hc h
set_option maxHeartbeats 4000000 in
set_option maxRecDepth 100000 in
theorem limits_calls (a0 a1 : Int) (w : World) (hG : Glob w) : Calls Tryd.prog 8 #[.int .i64 a0, .int .i64 a1] w fun e w' => e = .returned (.bool true) ∧ Below w.heap.size w w' := by
  obtain ⟨x, hx7, hx⟩ := and7 a0
  obtain ⟨y, hy7, hy⟩ := and7 a1
  obtain ⟨n, hn⟩ : ∃ n, n = 4093 + x := ⟨_, rfl⟩
  obtain ⟨s, hs⟩ : ∃ s, s = 19997 + y := ⟨_, rfl⟩
  have hwn : wrap64 (4093 + (x : Int)) = (n : Int) := by rw [w64 _ (by omega) (by omega)]; omega
  have hws : wrap64 (19997 + (y : Int)) = (s : Int) := by rw [w64 _ (by omega) (by omega)]; omega
  have HNB := Aside0.mk (show 4093 ≤ n ∧ n ≤ 4100 by clear hwn hws; omega)
  have HSB := Aside0.mk (show 19997 ≤ s ∧ s ≤ 20004 by clear hwn hws; omega)
  have HG := Aside0.mk hG
  clear hn hs hx7 hy7 hG
  go_enter Tryd.func8, Tryd.ntmps8
  go_wp2_with (fail)
  refine (shown_calls _ HG.out).mono ?_
  rintro e w1 ⟨rfl, hb1⟩
  have HB1 := Aside0.mk hb1
  clear hb1
  go_wp2
  simp only [hwn, hws]
  clear hwn hws hx hy
  go_loopg [6, 8] n (fun gm v6 v8 w' => ∃ k : Nat, v8 = .int .i64 k ∧ k + gm = n ∧ Aside0 (Kd.R KdB 22 w' w.heap.size (fun _ => True) v6 (List.replicate k [])) ∧ Aside0 (Below w.heap.size w w'))
  case atStart => exact ⟨0, rfl, by omega, ⟨Kd.R_nil _ _ _ _ _⟩, HB1⟩
  case round =>
    obtain ⟨k, rfl, hk, HX, HB⟩ := hrel
    have hn2 := HNB.out.2
    by_cases hlt : k < n
    · have d1 : decide ((k : Int) < (n : Int)) = true := by simp only [decide_eq_true_eq]; omega
      obtain ⟨A6, c6, e6⟩ := Kd.R_slice HX.out
      rw [List.length_replicate] at e6
      subst e6
      go_wp2_with (first | ((with_reducible refine gate_builtin (b := .append) (xs := #[.tmp 32, .tmp 33]) rfl ?_); at_builtin; refine Kd.R_append KdB (w0 := w) w.heap.size rfl (.tmp 32) (.tmp 33) 24 22 (.slice none 0 0) 24 rfl Tryd.underlying24 info22 rfl (by decide) (by decide) (.slice A6 k c6) (List.replicate k []) [] [.slice none 0 0] (fun _ => True) (fun _ => False) rfl rfl ⟨_, rfl, Kd.R_nil _ _ _ _ _⟩ (fun _ h => h.elim) (fun _ _ => trivial) HX.out HB.out HB.out.size (by rw [List.length_replicate]; omega) ?_; intro v1 w2 hv1 hb2 _ _; rw [nils_snoc] at hv1; have HV1 := Aside0.mk hv1; have HB2 := Aside0.mk hb2; clear hv1 hb2))
      go_roundg (gk - 1)
      case measure => omega
      case rel => exact ⟨k + 1, by go_num, by omega, HV1, HB2⟩
    · obtain rfl : k = n := by omega
      have d1 : decide ((k : Int) < (k : Int)) = false := by simp
      clear d1
      obtain ⟨A6, c6, e6⟩ := Kd.R_slice HX.out
      rw [List.length_replicate] at e6
      subst e6
      obtain ⟨Z, hZ⟩ : ∃ Z, Z = List.replicate (5 * k) (0 : Int) := ⟨_, rfl⟩
      have HZZ := Aside0.mk hZ
      have hcat : ¬ (9223372036854775807 < 4 + (strOfNums Z).size) := by rw [strOf_size, hZ, List.length_replicate]; omega
      have HT := Aside0.mk (show (5 * (k : Int)).toNat = 5 * k by omega)
      clear hZ
      go_wp2_with (first | ((with_reducible refine gate_dst (N := 38) rfl ?_); refine Kd.R_make (Kd.int .u8) (w0 := w) w.heap.size 5 rfl (N := 38) rfl 22 (.tmp 37) (.tmp 37) rfl (5 * (k : Int)) rfl rfl Tryd.underlying22 (.int .u8 0) 1 info5 rfl (by decide) (by decide) 0 (ok := fun _ => True) (okp := fun _ => False) rfl (fun _ _ => trivial) trivial (by omega) (by omega) HB.out HB.out.size ?_; intro v1 w2 hv1 hb2 hg2 _; rw [HT.out, ← HZZ.out] at hv1; have hcv := own_string (P := Tryd.prog) Tryd.underlying22 Tryd.underlying5 Tryd.underlying9 (Kd.own_of_R hv1); have HX2 := Aside0.mk (Kd.R_grown HX.out hg2 (fun _ _ => by simp)); have HB2 := Aside0.mk hb2; clear hv1 hb2 hg2))
      obtain ⟨⟨J, e1, hJ, hJ0, hJ5⟩, M, at_, e2, hS, hS0, hS5⟩ := nils_facts k hn2
      obtain ⟨LZ, hLZ⟩ : ∃ LZ, LZ = magic ++ Z := ⟨_, rfl⟩
      obtain ⟨TS, hTS⟩ : ∃ TS, TS = strOfNums LZ := ⟨_, rfl⟩
      have hcatE : (⟨#[84, 82, 78, 49]⟩ : ByteArray) ++ strOfNums Z = TS := by rw [hTS, hLZ, magic_S, strOf_append]
      have hLn : LZ.length = 4 + 5 * k := by rw [hLZ, HZZ.out, List.length_append, List.length_replicate]; rfl
      have hTn : TS.size = LZ.length := by rw [hTS, strOf_size]
      have hLB : Bytes LZ := by rw [hLZ, HZZ.out]; exact magic_bytes.append (zeros_bytes _)
      have FJ := Aside0.mk (show frame_Join.f (List.replicate k []) = some (J, e1) by rw [join_f (fun b hb => (nils_V k b hb).2) (by rw [List.length_replicate]; omega), hJ])
      have FS := Aside0.mk (show splitF LZ = (M, at_, e2) by rw [hLZ, HZZ.out, hS])
      have LB := Aside0.mk hLB
      have LN := Aside0.mk hLn
      have TN := Aside0.mk hTn
      have TE := Aside0.mk hTS
      have P0 := Aside0.mk (And.intro hJ0 hS0)
      have P5 := Aside0.mk (And.intro hJ5 hS5)
      have kb := fun (W : World) => Lib.run_convert_string_bytes (P := Tryd.prog) W 9 22 5 TS Tryd.underlying9 Tryd.underlying22 Tryd.underlying5
      simp only [hcatE]
      clear hJ hJ0 hJ5 hS hS0 hS5 hLZ hTS hLn hTn hLB hcatE hcat hcv
      refine (join_w (List.replicate k []) J e1 (List.length_replicate ..) (HG.out.below HB2.out) (Kd.R_reads' HX2.out).2.2 (by rw [← List.length_replicate (n := k) (a := ([] : List Int))] at *; exact (Kd.R_reads' HX2.out).2.1) FJ.out).mono ?_
      rintro e w3 ⟨v4, rfl, hv4, hb3⟩
      have HB3 := Aside0.mk (HB2.out.trans (hb3.mono HB2.out.size))
      clear hv4 hb3 HX2
      go_wp2_with (fail)
      -- SPLIT
      refine (split_w LZ M at_ e2 TN.out.symm (HG.out.below (bytes_below HB3.out HB3.out.size 5 TS)) (by rw [TN.out, TE.out]; exact bytes_C w3 LZ LB.out (by rw [LN.out]; omega)) (grownCap_ge _ _ _ _) LB.out (by rw [TN.out, LN.out]; omega) FS.out).mono ?_
      rintro e w4 ⟨A11, c11, rfl, hc11, hC11, hb4⟩
      have HB4 := Aside0.mk ((bytes_below HB3.out HB3.out.size 5 TS).trans (hb4.mono (bytes_below HB3.out HB3.out.size 5 TS).size))
      clear hb4 hC11 hc11 kb HB3
      by_cases hN : k ≤ 4096
      · obtain ⟨hM, rfl, rfl⟩ := P0.out.2 hN
        obtain rfl := P0.out.1 hN
        have d2 : decide ((4096 : Int) < (k : Int)) = false := by simp only [decide_eq_false_iff_not]; omega
        have hne : ((4 + 5 * (k : Int)) != (TS.size : Int)) = false := by rw [TN.out, LN.out, bne_eq_false_iff_eq]; omega
        rw [hM]
        clear hM
        obtain ⟨⟨J2, e3, hJ2, hJ20, hJ25⟩, L2, M2, pl, e4, hR2, hL2B, hL2n, hS2, hS20, hS25⟩ := one_facts s HSB.out.2
        obtain ⟨BB, hBB⟩ : ∃ BB, BB = List.replicate s (0 : Int) := ⟨_, rfl⟩
        obtain ⟨T2, hT2⟩ : ∃ T2, T2 = strOfNums L2 := ⟨_, rfl⟩
        rw [← hBB] at hJ2 hR2 hS20
        have hBl : BB.length = s := by rw [hBB, List.length_replicate]
        have hBy : Bytes BB := by rw [hBB]; exact zeros_bytes s
        have GJ := Aside0.mk (show frame_Join.f [BB] = some (J2, e3) by rw [join_f (fun b hb => by rw [List.mem_singleton.1 hb]; exact hBy) (by rw [List.length_singleton]; decide), hJ2])
        have GR := Aside0.mk (show transeptref04_Join.f 210000 [strOfNums BB] = some T2 by rw [hR2, hT2])
        have GS := Aside0.mk hS2
        have Q0 := Aside0.mk (And.intro hJ20 hS20)
        have Q5 := Aside0.mk (And.intro hJ25 hS25)
        have L2B := Aside0.mk hL2B
        have L2N := Aside0.mk hL2n
        have T2E := Aside0.mk hT2
        have T2N := Aside0.mk (show T2.size = L2.length by rw [hT2, strOf_size])
        have BL := Aside0.mk hBl
        have BE := Aside0.mk hBB
        have HSN := Aside0.mk (show ((s : Nat) : Int).toNat = s by omega)
        have hs2 := HSB.out.2
        clear hJ2 hJ20 hJ25 hR2 hL2B hL2n hS2 hS20 hS25 hBB hT2 hBl hBy
        go_wp2_with (first | ((with_reducible refine gate_dst (N := 89) rfl ?_); refine Kd.R_make (Kd.int .u8) (w0 := w) w.heap.size 5 rfl (N := 89) rfl 22 (.tmp 88) (.tmp 88) rfl (s : Int) rfl rfl Tryd.underlying22 (.int .u8 0) 1 info5 rfl (by decide) (by decide) 0 (ok := fun _ => True) (okp := fun _ => False) rfl (fun _ _ => trivial) trivial (by omega) (by omega) HB4.out HB4.out.size ?_; intro v1 w5 hv1 hb5 hg5 _; rw [HSN.out, ← BE.out] at hv1; obtain ⟨A14, c14, e14⟩ := Kd.R_slice hv1; rw [BL.out] at e14; subst e14; have HV14 := Aside0.mk hv1; have HB5 := Aside0.mk hb5; clear hv1 hb5 hg5))
        refine (join_w [BB] J2 e3 rfl (HG.out.below (below_alloc HB5.out _)) (one_row (Kd.R_reads' HV14.out).2.2 (by have h_ := (Kd.R_reads' HV14.out); rw [BL.out]; exact h_.2.1) BL.out) (Nat.le_refl _) GJ.out).mono ?_
        rintro e w6 ⟨v15, rfl, hv15, hb6⟩
        have HV6 := Aside0.mk (Kd.R_below (Kd.R_alloc HV14.out _) hb6)
        have HB6 := Aside0.mk ((below_alloc HB5.out _).trans (hb6.mono (below_alloc HB5.out _).size))
        have hcv2 := own_string (P := Tryd.prog) Tryd.underlying22 Tryd.underlying5 Tryd.underlying9 (Kd.own_of_R HV6.out)
        have kb2 := fun (W : World) => Lib.run_convert_string_bytes (P := Tryd.prog) W 9 22 5 T2 Tryd.underlying9 Tryd.underlying22 Tryd.underlying5
        clear hv15 hb6 HV14 HB5 HB4
        go_wp2_with (fail)
        refine (transeptref04_Join.calls 210000 _ _ [strOfNums BB] T2 _ (one_str _ _) (Nat.le_refl _) GR.out).mono ?_
        rintro e w7 ⟨rfl, hb7⟩
        have HB7 := Aside0.mk ((below_alloc HB6.out _).trans (hb7.mono (below_alloc HB6.out _).size))
        clear hb7 hcv2 HB6 HV6
        go_wp2_with (fail)
        refine (split_w L2 M2 pl e4 T2N.out.symm (HG.out.below (bytes_below HB7.out HB7.out.size 5 T2)) (by rw [T2N.out, T2E.out]; exact bytes_C w7 L2 L2B.out (by have := L2N.out; omega)) (grownCap_ge _ _ _ _) L2B.out (by rw [T2N.out]; have := L2N.out; omega) GS.out).mono ?_
        rintro e w8 ⟨A17, c17, rfl, hc17, hC17, hb8⟩
        have HB8 := Aside0.mk ((bytes_below HB7.out HB7.out.size 5 T2).trans (hb8.mono (bytes_below HB7.out HB7.out.size 5 T2).size))
        have HC17 := Aside0.mk hC17
        clear hb8 hC17 kb2 HB7
        by_cases hS : s ≤ 20000
        · obtain ⟨rfl, rfl⟩ := Q0.out.2 hS
          obtain rfl := Q0.out.1 hS
          have d3 : decide ((20000 : Int) < (s : Int)) = false := by simp only [decide_eq_false_iff_not]; omega
          obtain ⟨ad, A1, c1, q1, hx1, hc1, hC1⟩ := at_L2 HC17.out (0 : Int) (by decide) (by rw [List.length_singleton]; decide)
          cases q1
          simp only [Int.toNat_zero, add_zero_] at hx1
          rw [show (rd_L2 [BB] 0).length = s from BL.out] at hx1
          go_wp2
          go_ret
          exact ⟨rfl, HB8.out⟩
        · obtain ⟨rfl, rfl, rfl⟩ := Q5.out.2 (by omega)
          obtain rfl := Q5.out.1 (by omega)
          have d3 : decide ((20000 : Int) < (s : Int)) = true := by simp only [decide_eq_true_eq]; omega
          go_wp2
          go_ret
          exact ⟨rfl, HB8.out⟩
      · obtain ⟨hM, rfl, rfl⟩ := P5.out.2 (by omega)
        obtain rfl := P5.out.1 (by omega)
        have d2 : decide ((4096 : Int) < (k : Int)) = true := by simp only [decide_eq_true_eq]; omega
        rw [hM]
        clear hM
        obtain ⟨⟨J2, e3, hJ2, hJ20, hJ25⟩, L2, M2, pl, e4, hR2, hL2B, hL2n, hS2, hS20, hS25⟩ := one_facts s HSB.out.2
        obtain ⟨BB, hBB⟩ : ∃ BB, BB = List.replicate s (0 : Int) := ⟨_, rfl⟩
        obtain ⟨T2, hT2⟩ : ∃ T2, T2 = strOfNums L2 := ⟨_, rfl⟩
        rw [← hBB] at hJ2 hR2 hS20
        have hBl : BB.length = s := by rw [hBB, List.length_replicate]
        have hBy : Bytes BB := by rw [hBB]; exact zeros_bytes s
        have GJ := Aside0.mk (show frame_Join.f [BB] = some (J2, e3) by rw [join_f (fun b hb => by rw [List.mem_singleton.1 hb]; exact hBy) (by rw [List.length_singleton]; decide), hJ2])
        have GR := Aside0.mk (show transeptref04_Join.f 210000 [strOfNums BB] = some T2 by rw [hR2, hT2])
        have GS := Aside0.mk hS2
        have Q0 := Aside0.mk (And.intro hJ20 hS20)
        have Q5 := Aside0.mk (And.intro hJ25 hS25)
        have L2B := Aside0.mk hL2B
        have L2N := Aside0.mk hL2n
        have T2E := Aside0.mk hT2
        have T2N := Aside0.mk (show T2.size = L2.length by rw [hT2, strOf_size])
        have BL := Aside0.mk hBl
        have BE := Aside0.mk hBB
        have HSN := Aside0.mk (show ((s : Nat) : Int).toNat = s by omega)
        have hs2 := HSB.out.2
        clear hJ2 hJ20 hJ25 hR2 hL2B hL2n hS2 hS20 hS25 hBB hT2 hBl hBy
        go_wp2_with (first | ((with_reducible refine gate_dst (N := 89) rfl ?_); refine Kd.R_make (Kd.int .u8) (w0 := w) w.heap.size 5 rfl (N := 89) rfl 22 (.tmp 88) (.tmp 88) rfl (s : Int) rfl rfl Tryd.underlying22 (.int .u8 0) 1 info5 rfl (by decide) (by decide) 0 (ok := fun _ => True) (okp := fun _ => False) rfl (fun _ _ => trivial) trivial (by omega) (by omega) HB4.out HB4.out.size ?_; intro v1 w5 hv1 hb5 hg5 _; rw [HSN.out, ← BE.out] at hv1; obtain ⟨A14, c14, e14⟩ := Kd.R_slice hv1; rw [BL.out] at e14; subst e14; have HV14 := Aside0.mk hv1; have HB5 := Aside0.mk hb5; clear hv1 hb5 hg5))
        refine (join_w [BB] J2 e3 rfl (HG.out.below (below_alloc HB5.out _)) (one_row (Kd.R_reads' HV14.out).2.2 (by have h_ := (Kd.R_reads' HV14.out); rw [BL.out]; exact h_.2.1) BL.out) (Nat.le_refl _) GJ.out).mono ?_
        rintro e w6 ⟨v15, rfl, hv15, hb6⟩
        have HV6 := Aside0.mk (Kd.R_below (Kd.R_alloc HV14.out _) hb6)
        have HB6 := Aside0.mk ((below_alloc HB5.out _).trans (hb6.mono (below_alloc HB5.out _).size))
        have hcv2 := own_string (P := Tryd.prog) Tryd.underlying22 Tryd.underlying5 Tryd.underlying9 (Kd.own_of_R HV6.out)
        have kb2 := fun (W : World) => Lib.run_convert_string_bytes (P := Tryd.prog) W 9 22 5 T2 Tryd.underlying9 Tryd.underlying22 Tryd.underlying5
        clear hv15 hb6 HV14 HB5 HB4
        go_wp2_with (fail)
        refine (transeptref04_Join.calls 210000 _ _ [strOfNums BB] T2 _ (one_str _ _) (Nat.le_refl _) GR.out).mono ?_
        rintro e w7 ⟨rfl, hb7⟩
        have HB7 := Aside0.mk ((below_alloc HB6.out _).trans (hb7.mono (below_alloc HB6.out _).size))
        clear hb7 hcv2 HB6 HV6
        go_wp2_with (fail)
        refine (split_w L2 M2 pl e4 T2N.out.symm (HG.out.below (bytes_below HB7.out HB7.out.size 5 T2)) (by rw [T2N.out, T2E.out]; exact bytes_C w7 L2 L2B.out (by have := L2N.out; omega)) (grownCap_ge _ _ _ _) L2B.out (by rw [T2N.out]; have := L2N.out; omega) GS.out).mono ?_
        rintro e w8 ⟨A17, c17, rfl, hc17, hC17, hb8⟩
        have HB8 := Aside0.mk ((bytes_below HB7.out HB7.out.size 5 T2).trans (hb8.mono (bytes_below HB7.out HB7.out.size 5 T2).size))
        have HC17 := Aside0.mk hC17
        clear hb8 hC17 kb2 HB7
        by_cases hS : s ≤ 20000
        · obtain ⟨rfl, rfl⟩ := Q0.out.2 hS
          obtain rfl := Q0.out.1 hS
          have d3 : decide ((20000 : Int) < (s : Int)) = false := by simp only [decide_eq_false_iff_not]; omega
          obtain ⟨ad, A1, c1, q1, hx1, hc1, hC1⟩ := at_L2 HC17.out (0 : Int) (by decide) (by rw [List.length_singleton]; decide)
          cases q1
          simp only [Int.toNat_zero, add_zero_] at hx1
          rw [show (rd_L2 [BB] 0).length = s from BL.out] at hx1
          go_wp2
          go_ret
          exact ⟨rfl, HB8.out⟩
        · obtain ⟨rfl, rfl, rfl⟩ := Q5.out.2 (by omega)
          obtain rfl := Q5.out.1 (by omega)
          have d3 : decide ((20000 : Int) < (s : Int)) = true := by simp only [decide_eq_true_eq]; omega
          go_wp2
          go_ret
          exact ⟨rfl, HB8.out⟩
end Go.Proofs.YtojagnoobaleaaaDoor.Ext
