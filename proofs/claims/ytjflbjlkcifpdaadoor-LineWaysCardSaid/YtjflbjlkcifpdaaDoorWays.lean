/- LineWays: by hand. Written by a program of this session (wip/tools). -/
import Derived.Test.YtjflbjlkcifpdaaDoorWaysP
import Derived.Deep.WholeRow
namespace Go.Proofs.YtjflbjlkcifpdaaDoor.Ext
open Go.RowKit Go.Proofs.YtjflbjlkcifpdaaDoor.Xa Go.Proofs.YtjflbjlkcifpdaaDoorW.PrintWords Go.Proofs.YtjflbjlkcifpdaaDoorW.PrintLast Go.Proofs.YtjflbjlkcifpdaaDoorW.PrintMore
open Go.Maps (Tidy)
set_option linter.unusedVariables false
set_option linter.unusedSimpArgs false
theorem min2_mn (k k' : IntKind) (x y : Int) : Builtin.min2 (.int k x) (.int k' y) = pure (.int k (mn x y)) := by rw [min2_int]; rfl
attribute [local go_sem] min2_mn max_two min_two
theorem rd_take_wf (l : List S31) (m : Nat) (P : S31 → Prop) (h : ∀ i, P (rd_T31 l i)) (hz : P z31) : ∀ i, P (rd_T31 (l.take m) i) := by
  intro i
  by_cases h1 : i.toNat < m
  · have := h i
    simp only [rd_T31, List.getD_eq_getElem?_getD, List.getElem?_take, if_pos h1] at this ⊢
    exact this
  · simp only [rd_T31, List.getD_eq_getElem?_getD, List.getElem?_take, if_neg h1]
    exact hz
theorem Wl.up {w w0 W : World} {g gm : Nat} {X : LS} (hb : Below w.heap.size w w0) (h : Wl w0 W g gm X) : Wl w W g gm X :=
  ⟨below_then hb hb.size h.bel, h.ln, Nat.le_trans hb.size h.lo, Nat.le_trans hb.size h.lom⟩
theorem storeS {W : World} {q : Nat} {cs : Array Value} {t : TypeId} (hb : W.heap[q]? = some (.cells cs t (0, 0))) (i : Nat) (hi : i < cs.size) (v : ByteArray) : (storeVar 9 ⟨q, i, none⟩ (.string v)).run Tryd.prog W = .ok () (W.setCell ⟨q, i, none⟩ (.string v)) := by
  have h1 : W.cell? ⟨q, i, none⟩ = some cs[i] := by rw [blk_cell hb i]; exact Array.getElem?_eq_getElem hi
  have h2 := blk_frozen hb i
  simp [go_sem, h1, h2]
theorem storeI {W : World} {q : Nat} {cs : Array Value} {t : TypeId} (hb : W.heap[q]? = some (.cells cs t (0, 0))) (i : Nat) (hi : i < cs.size) (v : Int) : (storeVar 3 ⟨q, i, none⟩ (.int .i64 v)).run Tryd.prog W = .ok () (W.setCell ⟨q, i, none⟩ (.int .i64 v)) := by
  have h1 : W.cell? ⟨q, i, none⟩ = some cs[i] := by rw [blk_cell hb i]; exact Array.getElem?_eq_getElem hi
  have h2 := blk_frozen hb i
  simp [go_sem, h1, h2]
attribute [-go_sem] storeVar
theorem store31 (W : World) (c c' : Array Value) (h : c.size = 10) (h' : c'.size = 10) (h1 : c'.all (·.oneCell') = true) : (storeVar 31 ⟨W.heap.size, 0, none⟩ (.agg c')).run Tryd.prog (W.alloc (.cells c 31)) = .ok () (W.alloc (.cells c' 31)) :=
  run_storeVar_new W 31 c c' (by rw [h']; kernel_rfl) (by rw [h, h']) h1
set_option maxHeartbeats 8000000 in
set_option maxRecDepth 100000 in
theorem waysL_calls (A0 : Option Addr) (c0 : Nat) (l : List S31) (id : Int) (hid : (Lit.int .u64 id).wf = true) (hcl : l.length ≤ c0) (w : World) (hG : Glob w) (hr : Kd.C k31 w A0 l.length l) (hwf : ∀ i, (Lit.int .u64 (rd_T31 l i).f2).wf = true) (hwt : ∀ i, (Lit.int .u64 (rd_T31 l i).f1).wf = true) :
    Calls Tryd.prog 8 #[.slice A0 l.length c0, .int .u64 id] w fun e w' => e = .returned (.bool true) ∧ Below w.heap.size w w' := by
  have HG := Aside0.mk hG
  have HR := Aside0.mk hr
  have HWF := Aside0.mk hwf
  have HWT := Aside0.mk hwt
  obtain ⟨n, hnl⟩ : ∃ n : Int, (l.length : Int) = n := ⟨_, rfl⟩
  have HN := Aside0.mk hnl
  have hn0 : 0 ≤ n := by omega
  have hn1 : n ≤ 9223372036854775807 := by have := hr.2.1; omega
  have HID := Aside0.mk hid
  have HCL := Aside0.mk hcl
  clear hG hr hwf hwt hid hcl
  go_enter Tryd.func8, Tryd.ntmps8
  go_wp2_with (fail)
  refine (shown_calls w HG.out).mono ?_
  rintro e w0 ⟨rfl, hb0⟩
  have HB0 := Aside0.mk hb0
  clear hb0
  by_cases hz : id = 0
  · subst hz
    go_wp2
    go_ret
    exact ⟨rfl, HB0.out⟩
  have hz1 : (id == 0) = false := by rw [beq_eq_false_iff_ne]; exact hz
  by_cases hl0 : n = 0
  · subst hl0
    go_wp2
    go_ret
    exact ⟨rfl, HB0.out⟩
  obtain ⟨M, hM⟩ : ∃ M, mn n 100 = M := ⟨_, rfl⟩
  have hMM : 0 < M ∧ M ≤ n ∧ M ≤ 100 := by rw [← hM]; unfold mn; split <;> omega
  have hM0 : 0 ≤ M := by omega
  have hM2 : M ≤ 100 := hMM.2.2
  have hMc : M ≤ (c0 : Int) := by have h := HCL.out; have := HN.out; omega
  obtain ⟨zs, hzs⟩ : ∃ zs, l.take M.toNat = zs := ⟨_, rfl⟩
  have hzl : M.toNat = zs.length := by rw [← hzs, List.length_take]; have := HN.out; omega
  have HZL : Aside0 (zs.length ≤ 4000) := ⟨by omega⟩
  have HZ1 : Aside0 (zs.length ≤ 100) := ⟨by omega⟩
  have HCZ : Aside0 (Kd.C k31 w A0 zs.length zs) := by rw [← hzs]; exact ⟨Kd.C_take HR.out (by have := HN.out; omega)⟩
  have HZW : Aside0 (∀ i, (Lit.int .u64 (rd_T31 zs i).f2).wf = true) := by rw [← hzs]; exact ⟨rd_take_wf l _ (fun e => (Lit.int .u64 e.f2).wf = true) HWF.out (by decide)⟩
  clear hzs hMM
  go_wp2_with (fail)
  refine (fed_calls A0 c0 zs w0 (HG.out.below HB0.out) (Kd.C_below HCZ.out HB0.out) HZW.out HZL.out).mono ?_
  rintro e w1 ⟨g, gm, rfl, hw1⟩
  have HX := Aside0.mk (Wl.up HB0.out hw1)
  clear hw1
  have HWA := Aside0.mk (begs_is id zs L0 Wa.start).2
  have HBG : Aside0 ((begs id (L0, false) zs).2 = (feeds L0 zs).has id) := ⟨by have h := (begs_is id zs L0 Wa.start).1; rw [show L0.has id = false from rfl] at h; rw [h]⟩
  have HC1 : Aside0 ((feeds L0 zs).c ≤ 100) := ⟨by have h := feeds_c zs L0; have h2 := HZ1.out; rw [show L0.c = 0 from rfl] at h; omega⟩
  obtain ⟨X, hX⟩ : ∃ X, feeds L0 zs = X := ⟨_, rfl⟩
  have HFX := Aside0.mk hX
  rw [hX] at HX HWA HBG HC1
  clear hX
  obtain ⟨S, hS⟩ : ∃ S, X.st id = S := ⟨_, rfl⟩
  have HST := Aside0.mk hS
  obtain ⟨O, hO⟩ : ∃ S, X.op = S := ⟨_, rfl⟩
  have HO := Aside0.mk hO
  obtain ⟨b, hb⟩ : ∃ b, X.has id = b := ⟨_, rfl⟩
  have HB := Aside0.mk hb
  obtain ⟨L, hL⟩ : ∃ b, X.last = b := ⟨_, rfl⟩
  have HL := Aside0.mk hL
  obtain ⟨C, hC⟩ : ∃ b : Int, (X.c : Int) = b := ⟨_, rfl⟩
  have HC := Aside0.mk hC
  clear hS hO hb hL hC
  go_wp2_with (fail)
  refine (state_calls HX.out.ln HID.out).mono ?_
  rw [HST.out]
  rintro e w3 ⟨rfl, hw3⟩
  subst w3
  go_wp2_with (fail)
  refine (open_calls HX.out.ln).mono ?_
  rw [HO.out]
  rintro e w3 ⟨rfl, hw3⟩
  subst w3
  go_wp2_with (fail)
  refine (started_calls A0 c0 zs id w1 (HG.out.below HX.out.bel) (Kd.C_below HCZ.out HX.out.bel) HZW.out HZL.out).mono ?_
  rw [HBG.out, HB.out]
  rintro e w2 ⟨rfl, hb2⟩
  have HX2 := Aside0.mk (HX.out.below hb2)
  clear hb2 HX
  have HX := HX2
  clear HX2
  go_wp2_with (fail)
  refine (count_calls HX.out.ln).mono ?_
  rw [HC.out]
  rintro e w3 ⟨rfl, hw3⟩
  subst w3
  by_cases hc0 : C = 0
  · subst hc0
    go_wp2
    go_ret
    exact ⟨rfl, HX.out.bel⟩
  have hc1 : (C == 0) = false := by rw [beq_eq_false_iff_ne]; exact hc0
  go_wp2_with (fail)
  refine (last_calls HX.out.ln).mono ?_
  rw [HL.out]
  rintro e w3 ⟨rfl, hw3⟩
  subst w3
  by_cases hl1 : 4611686018427387904 < L
  · go_wp2
    go_ret
    exact ⟨rfl, HX.out.bel⟩
  by_cases ho1 : 64 ≤ O
  · go_wp2
    go_ret
    exact ⟨rfl, HX.out.bel⟩
  have HCA := Aside0.mk (cnt_all (id := id) HWA.out hz (by have := HC.out; omega) (by have := HC1.out; omega) (by have := HO.out; omega))
  clear hM hMc hzl hM0 hM2
  go_wp2_with (fail)
  go_loopg [6, 11] 12 (fun m v6 v11 W => ∃ (K N : Int), v6 = .int .i64 N ∧ v11 = .int .i64 K ∧ 3 ≤ K ∧ K ≤ 15 ∧ K + m = 15 ∧ 0 ≤ N ∧ N ≤ K ∧ Aside0 (Wl w W g gm X ∧ ((cntF X id (K - 3).toNat : Nat) : Int) = N))
  case atStart => exact ⟨3, 0, rfl, rfl, by omega, by omega, by omega, by omega, by omega, ⟨HX.out, rfl⟩⟩
  case round =>
    obtain ⟨K, N, rfl, rfl, hK3, hK15, hKm, hN0, hNK, HXC⟩ := hrel
    clear HX
    have HX := Aside0.mk HXC.out.1
    have HCN := Aside0.mk HXC.out.2
    clear HXC
    by_cases hK : K = 15
    case pos =>
      subst hK
      clear hN0 hNK
      have hSr := HWA.out.st id
      rw [HST.out] at hSr
      cases b with
      | false =>
        have hS0 : S = 0 := by rw [← HST.out]; exact st_none HB.out
        subst hS0
        clear hSr
        have hN : N = 1 := by
          have h1 := HCA.out
          rw [HB.out, HST.out] at h1
          have h2 := HCN.out
          have h3 : cntF X id ((15 : Int) - 3).toNat = cntF X id 12 := rfl
          rw [h3, h1] at h2
          simpa [tabW] using h2.symm
        subst hN
        go_wp2
        go_ret
        exact ⟨rfl, below_alloc HX.out.bel _⟩
      | true =>
        have hS8 : S = 0 ∨ S = 1 ∨ S = 2 ∨ S = 3 ∨ S = 4 ∨ S = 5 ∨ S = 6 ∨ S = 7 := by omega
        clear hSr
        rcases hS8 with rfl | rfl | rfl | rfl | rfl | rfl | rfl | rfl
        · have hN : N = 0 := by
            have h1 := HCA.out
            rw [HB.out, HST.out] at h1
            have h2 := HCN.out
            have h3 : cntF X id ((15 : Int) - 3).toNat = cntF X id 12 := rfl
            rw [h3, h1] at h2
            simpa [tabW] using h2.symm
          subst hN
          go_wp2
          go_ret
          exact ⟨rfl, below_alloc HX.out.bel _⟩
        · have hN : N = 4 := by
            have h1 := HCA.out
            rw [HB.out, HST.out] at h1
            have h2 := HCN.out
            have h3 : cntF X id ((15 : Int) - 3).toNat = cntF X id 12 := rfl
            rw [h3, h1] at h2
            simpa [tabW] using h2.symm
          subst hN
          go_wp2
          go_ret
          exact ⟨rfl, below_alloc HX.out.bel _⟩
        · have hN : N = 3 := by
            have h1 := HCA.out
            rw [HB.out, HST.out] at h1
            have h2 := HCN.out
            have h3 : cntF X id ((15 : Int) - 3).toNat = cntF X id 12 := rfl
            rw [h3, h1] at h2
            simpa [tabW] using h2.symm
          subst hN
          go_wp2
          go_ret
          exact ⟨rfl, below_alloc HX.out.bel _⟩
        · have hN : N = 2 := by
            have h1 := HCA.out
            rw [HB.out, HST.out] at h1
            have h2 := HCN.out
            have h3 : cntF X id ((15 : Int) - 3).toNat = cntF X id 12 := rfl
            rw [h3, h1] at h2
            simpa [tabW] using h2.symm
          subst hN
          go_wp2
          go_ret
          exact ⟨rfl, below_alloc HX.out.bel _⟩
        · have hN : N = 3 := by
            have h1 := HCA.out
            rw [HB.out, HST.out] at h1
            have h2 := HCN.out
            have h3 : cntF X id ((15 : Int) - 3).toNat = cntF X id 12 := rfl
            rw [h3, h1] at h2
            simpa [tabW] using h2.symm
          subst hN
          go_wp2
          go_ret
          exact ⟨rfl, below_alloc HX.out.bel _⟩
        · have hN : N = 4 := by
            have h1 := HCA.out
            rw [HB.out, HST.out] at h1
            have h2 := HCN.out
            have h3 : cntF X id ((15 : Int) - 3).toNat = cntF X id 12 := rfl
            rw [h3, h1] at h2
            simpa [tabW] using h2.symm
          subst hN
          go_wp2
          go_ret
          exact ⟨rfl, below_alloc HX.out.bel _⟩
        · have hN : N = 3 := by
            have h1 := HCA.out
            rw [HB.out, HST.out] at h1
            have h2 := HCN.out
            have h3 : cntF X id ((15 : Int) - 3).toNat = cntF X id 12 := rfl
            rw [h3, h1] at h2
            simpa [tabW] using h2.symm
          subst hN
          go_wp2
          go_ret
          exact ⟨rfl, below_alloc HX.out.bel _⟩
        · have hN : N = 2 := by
            have h1 := HCA.out
            rw [HB.out, HST.out] at h1
            have h2 := HCN.out
            have h3 : cntF X id ((15 : Int) - 3).toNat = cntF X id 12 := rfl
            rw [h3, h1] at h2
            simpa [tabW] using h2.symm
          subst hN
          go_wp2
          go_ret
          exact ⟨rfl, below_alloc HX.out.bel _⟩
    case neg =>
    have hK12 : K = 3 ∨ K = 4 ∨ K = 5 ∨ K = 6 ∨ K = 7 ∨ K = 8 ∨ K = 9 ∨ K = 10 ∨ K = 11 ∨ K = 12 ∨ K = 13 ∨ K = 14 := by omega
    clear hK hK3 hK15
    rcases hK12 with rfl | rfl | rfl | rfl | rfl | rfl | rfl | rfl | rfl | rfl | rfl | rfl
    · obtain ⟨q, hq⟩ : ∃ q, wr.heap.size = q := ⟨_, rfl⟩
      obtain ⟨Wz, hWz⟩ : ∃ W, wr.alloc (.cells #[.int .i64 0, .int .u64 0, .int .u64 0, .string ⟨#[]⟩, .string ⟨#[]⟩, .string ⟨#[]⟩, .string ⟨#[]⟩, .int .i64 0, .int .i64 0, .int .i64 0] 31) = W := ⟨_, rfl⟩
      obtain ⟨Wa0, hWa0⟩ : ∃ W, wr.alloc (.cells #[.int .i64 3, .int .u64 L, .int .u64 id, .string ⟨#[]⟩, .string ⟨#[]⟩, .string ⟨#[]⟩, .string ⟨#[]⟩, .int .i64 0, .int .i64 0, .int .i64 0] 31) = W := ⟨_, rfl⟩
      have hst := store31 wr #[.int .i64 0, .int .u64 0, .int .u64 0, .string ⟨#[]⟩, .string ⟨#[]⟩, .string ⟨#[]⟩, .string ⟨#[]⟩, .int .i64 0, .int .i64 0, .int .i64 0] #[.int .i64 3, .int .u64 L, .int .u64 id, .string ⟨#[]⟩, .string ⟨#[]⟩, .string ⟨#[]⟩, .string ⟨#[]⟩, .int .i64 0, .int .i64 0, .int .i64 0] rfl rfl (by kernel_rfl)
      have hba : Below wr.heap.size wr Wa0 := by rw [← hWa0]; exact below_alloc (Below.refl _ _) _
      have hqa : Wa0.heap[q]? = some (.cells #[.int .i64 3, .int .u64 L, .int .u64 id, .string ⟨#[]⟩, .string ⟨#[]⟩, .string ⟨#[]⟩, .string ⟨#[]⟩, .int .i64 0, .int .i64 0, .int .i64 0] 31 (0, 0)) := by rw [← hWa0, ← hq]; exact blk_new _ _
      rw [hq, hWz, hWa0] at hst
      clear hWa0
      have hst1 := storeS hqa 3 (by simp) ⟨#[71, 69, 84]⟩
      have hqb := blk_set hqa 3 (.string ⟨#[71, 69, 84]⟩)
      have hbb : Below wr.heap.size wr (Wa0.setCell ⟨q, 3, none⟩ (.string ⟨#[71, 69, 84]⟩)) := hba.setCell (by rw [← hq]; exact Nat.le_refl _) _
      obtain ⟨Wa1, hWa1⟩ : ∃ W, Wa0.setCell ⟨q, 3, none⟩ (.string ⟨#[71, 69, 84]⟩) = W := ⟨_, rfl⟩
      rw [hWa1] at hst1 hqb hbb
      clear hqa hba hWa1
      have hqa := hqb
      have hba := hbb
      clear hqb hbb
      have hst2 := storeS hqa 4 (by simp) ⟨#[104, 116, 116, 112, 115, 58, 47, 47, 97, 46, 101, 120, 97, 109, 112, 108, 101, 47]⟩
      have hqb := blk_set hqa 4 (.string ⟨#[104, 116, 116, 112, 115, 58, 47, 47, 97, 46, 101, 120, 97, 109, 112, 108, 101, 47]⟩)
      have hbb : Below wr.heap.size wr (Wa1.setCell ⟨q, 4, none⟩ (.string ⟨#[104, 116, 116, 112, 115, 58, 47, 47, 97, 46, 101, 120, 97, 109, 112, 108, 101, 47]⟩)) := hba.setCell (by rw [← hq]; exact Nat.le_refl _) _
      obtain ⟨Wa2, hWa2⟩ : ∃ W, Wa1.setCell ⟨q, 4, none⟩ (.string ⟨#[104, 116, 116, 112, 115, 58, 47, 47, 97, 46, 101, 120, 97, 109, 112, 108, 101, 47]⟩) = W := ⟨_, rfl⟩
      rw [hWa2] at hst2 hqb hbb
      clear hqa hba hWa2
      have hqa := hqb
      have hba := hbb
      clear hqb hbb
      have hce : ∀ V, Below Wa2.heap.size Wa2 V → ∀ i, V.cell? ⟨q, i, none⟩ = Wa2.cell? ⟨q, i, none⟩ := fun V hV i => by
        have hlt : q < Wa2.heap.size := blk_lt hqa
        simp [World.cell?, hV.block q hlt]
      have hq0 : ∀ V, Below Wa2.heap.size Wa2 V → V.cell? ⟨q, 0, none⟩ = _ := fun V hV => (hce V hV 0).trans (blk_cell hqa 0)
      have hq1 : ∀ V, Below Wa2.heap.size Wa2 V → V.cell? ⟨q, 1, none⟩ = _ := fun V hV => (hce V hV 1).trans (blk_cell hqa 1)
      have hq2 : ∀ V, Below Wa2.heap.size Wa2 V → V.cell? ⟨q, 2, none⟩ = _ := fun V hV => (hce V hV 2).trans (blk_cell hqa 2)
      have hq3 : ∀ V, Below Wa2.heap.size Wa2 V → V.cell? ⟨q, 3, none⟩ = _ := fun V hV => (hce V hV 3).trans (blk_cell hqa 3)
      have hq4 : ∀ V, Below Wa2.heap.size Wa2 V → V.cell? ⟨q, 4, none⟩ = _ := fun V hV => (hce V hV 4).trans (blk_cell hqa 4)
      have hq5 : ∀ V, Below Wa2.heap.size Wa2 V → V.cell? ⟨q, 5, none⟩ = _ := fun V hV => (hce V hV 5).trans (blk_cell hqa 5)
      have hq6 : ∀ V, Below Wa2.heap.size Wa2 V → V.cell? ⟨q, 6, none⟩ = _ := fun V hV => (hce V hV 6).trans (blk_cell hqa 6)
      have hq7 : ∀ V, Below Wa2.heap.size Wa2 V → V.cell? ⟨q, 7, none⟩ = _ := fun V hV => (hce V hV 7).trans (blk_cell hqa 7)
      have hq8 : ∀ V, Below Wa2.heap.size Wa2 V → V.cell? ⟨q, 8, none⟩ = _ := fun V hV => (hce V hV 8).trans (blk_cell hqa 8)
      have hq9 : ∀ V, Below Wa2.heap.size Wa2 V → V.cell? ⟨q, 9, none⟩ = _ := fun V hV => (hce V hV 9).trans (blk_cell hqa 9)
      have hq0a := hq0 Wa2 (Below.refl _ _)
      have HQ0 := Aside0.mk hq0
      clear hq0
      have hq1a := hq1 Wa2 (Below.refl _ _)
      have HQ1 := Aside0.mk hq1
      clear hq1
      have hq2a := hq2 Wa2 (Below.refl _ _)
      have HQ2 := Aside0.mk hq2
      clear hq2
      have hq3a := hq3 Wa2 (Below.refl _ _)
      have HQ3 := Aside0.mk hq3
      clear hq3
      have hq4a := hq4 Wa2 (Below.refl _ _)
      have HQ4 := Aside0.mk hq4
      clear hq4
      have hq5a := hq5 Wa2 (Below.refl _ _)
      have HQ5 := Aside0.mk hq5
      clear hq5
      have hq6a := hq6 Wa2 (Below.refl _ _)
      have HQ6 := Aside0.mk hq6
      clear hq6
      have hq7a := hq7 Wa2 (Below.refl _ _)
      have HQ7 := Aside0.mk hq7
      clear hq7
      have hq8a := hq8 Wa2 (Below.refl _ _)
      have HQ8 := Aside0.mk hq8
      clear hq8
      have hq9a := hq9 Wa2 (Below.refl _ _)
      have HQ9 := Aside0.mk hq9
      clear hq9
      clear hce
      obtain ⟨r, hr⟩ : ∃ r, (feedF X (kev 3 L id)).1 = r := ⟨_, rfl⟩
      have HRR := Aside0.mk hr
      have HXF := Aside0.mk (HX.out.below hba)
      have HFD : Aside0 (∀ V, Below Wa2.heap.size Wa2 V → Calls Tryd.prog 21 #[.slice A0 zs.length c0] V fun e w' => ∃ g2 gm2, e = .returned (.pointer (some ⟨g2, 0, none⟩)) ∧ Wl Wa2 w' g2 gm2 X) := ⟨fun V hV => (fed_calls A0 c0 zs V (HG.out.below (HXF.out.below hV).bel) (Kd.C_below HCZ.out (HXF.out.below hV).bel) HZW.out HZL.out).mono (by rintro e w' ⟨g2, gm2, rfl, h⟩; exact ⟨g2, gm2, rfl, by rw [HFX.out] at h; exact Wl.up hV h⟩)⟩
      have HFE : Aside0 (∀ V g2 gm2, Wl Wa2 V g2 gm2 X → Calls Tryd.prog 11 #[.pointer (some ⟨g2, 0, none⟩), .agg #[(.int .i64 3), (.int .u64 L), (.int .u64 id), (.string ⟨#[71, 69, 84]⟩), (.string ⟨#[104, 116, 116, 112, 115, 58, 47, 47, 97, 46, 101, 120, 97, 109, 112, 108, 101, 47]⟩), (.string ⟨#[]⟩), (.string ⟨#[]⟩), (.int .i64 0), (.int .i64 0), (.int .i64 0)]] V fun e w' => e = .returned (.int .i64 r) ∧ Below Wa2.heap.size Wa2 w') := ⟨fun V g2 gm2 h => (feed_calls (kev 3 L id) (HG.out.below (HXF.out.below h.bel).bel) h.ln HID.out).mono (by rintro e w' ⟨rfl, hl, hm⟩; exact ⟨by rw [HRR.out], (h.feed hl hm).bel⟩)⟩
      clear hr hqa hba
      go_wp2_with (fail)
      refine (last_calls HX.out.ln).mono ?_
      rw [HL.out]
      rintro e w3 ⟨rfl, hw3⟩
      subst w3
      by_cases hr0 : r = 0
      case pos =>
        subst hr0
        go_wp2_with (fail)
        go_region_held3 (fun V => V.cell? ⟨q, 0, none⟩ = some (.int .i64 3) ∧ V.cell? ⟨q, 1, none⟩ = some (.int .u64 L) ∧ V.cell? ⟨q, 2, none⟩ = some (.int .u64 id) ∧ V.cell? ⟨q, 3, none⟩ = some (.string ⟨#[71, 69, 84]⟩) ∧ V.cell? ⟨q, 4, none⟩ = some (.string ⟨#[104, 116, 116, 112, 115, 58, 47, 47, 97, 46, 101, 120, 97, 109, 112, 108, 101, 47]⟩) ∧ V.cell? ⟨q, 5, none⟩ = some (.string ⟨#[]⟩) ∧ V.cell? ⟨q, 6, none⟩ = some (.string ⟨#[]⟩) ∧ V.cell? ⟨q, 7, none⟩ = some (.int .i64 0) ∧ V.cell? ⟨q, 8, none⟩ = some (.int .i64 0) ∧ V.cell? ⟨q, 9, none⟩ = some (.int .i64 0) ∧ Below Wa2.heap.size Wa2 V) (first | exact ⟨hq0a, hq1a, hq2a, hq3a, hq4a, hq5a, hq6a, hq7a, hq8a, hq9a, pw_below_drewN (Below.refl _ _) _⟩ | exact ⟨hq0a, hq1a, hq2a, hq3a, hq4a, hq5a, hq6a, hq7a, hq8a, hq9a, Below.refl _ _⟩ | exact ⟨x0, x1, x2, x3, x4, x5, x6, x7, x8, x9, hL2.out.bel⟩ | exact ⟨x0, x1, x2, x3, x4, x5, x6, x7, x8, x9, (hL2.out.below (pw_below_drewN (Below.refl _ _) _)).bel⟩ | exact ⟨y0, y1, y2, y3, y4, y5, y6, y7, y8, y9, hb6⟩ | exact ⟨y0, y1, y2, y3, y4, y5, y6, y7, y8, y9, pw_below_drewN hb6 _⟩) (first
          | (have z_ := hL2; clear z_; go_at_call 11; refine (HFE.out _ _ _ (by first | exact hL2.out | exact hL2.out.below (pw_below_drewN (Below.refl _ _) _))).mono ?_; rintro e w6 ⟨rfl, hb6⟩; have y0 := HQ0.out w6 hb6; have y1 := HQ1.out w6 hb6; have y2 := HQ2.out w6 hb6; have y3 := HQ3.out w6 hb6; have y4 := HQ4.out w6 hb6; have y5 := HQ5.out w6 hb6; have y6 := HQ6.out w6 hb6; have y7 := HQ7.out w6 hb6; have y8 := HQ8.out w6 hb6; have y9 := HQ9.out w6 hb6)
          | (go_at_call 21; refine (HFD.out _ (by first | exact pw_below_drewN (Below.refl _ _) _ | exact Below.refl _ _)).mono ?_; rintro e w5 ⟨g2, gm2, rfl, hl2⟩; have hL2 := Aside0.mk hl2; clear hl2; have x0 := HQ0.out w5 hL2.out.bel; have x1 := HQ1.out w5 hL2.out.bel; have x2 := HQ2.out w5 hL2.out.bel; have x3 := HQ3.out w5 hL2.out.bel; have x4 := HQ4.out w5 hL2.out.bel; have x5 := HQ5.out w5 hL2.out.bel; have x6 := HQ6.out w5 hL2.out.bel; have x7 := HQ7.out w5 hL2.out.bel; have x8 := HQ8.out w5 hL2.out.bel; have x9 := HQ9.out w5 hL2.out.bel))
        all_goals
          go_wp2
          go_roundg (gk - 1)
          case measure => omega
          case rel => exact ⟨4, _, rfl, rfl, by omega, by omega, by omega, by omega, by omega, ⟨by first | exact HXF.out.below hb6 | exact HXF.out.below (pw_below_drewN hb6 _), by have h1 := HCN.out; have h2 := cnt_next X id 0; have h3 : takes X id ((0 + 3 : Nat) : Int) = true := (by unfold takes; show ((feedF X (kev 3 X.last id)).1 == 0) = true; rw [HL.out, HRR.out]; rfl); rw [h3, if_pos rfl] at h2; have h4 : cntF X id ((3 : Int) - 3).toNat = cntF X id 0 := rfl; show ((cntF X id 1 : Nat) : Int) = _; rw [h4] at h1; rw [show (1 : Nat) = 0 + 1 from rfl, h2]; omega⟩⟩
      case neg =>
        have hr1 : (r == 0) = false := by rw [beq_eq_false_iff_ne]; exact hr0
        go_wp2_with (fail)
        go_region_held3 (fun V => V.cell? ⟨q, 0, none⟩ = some (.int .i64 3) ∧ V.cell? ⟨q, 1, none⟩ = some (.int .u64 L) ∧ V.cell? ⟨q, 2, none⟩ = some (.int .u64 id) ∧ V.cell? ⟨q, 3, none⟩ = some (.string ⟨#[71, 69, 84]⟩) ∧ V.cell? ⟨q, 4, none⟩ = some (.string ⟨#[104, 116, 116, 112, 115, 58, 47, 47, 97, 46, 101, 120, 97, 109, 112, 108, 101, 47]⟩) ∧ V.cell? ⟨q, 5, none⟩ = some (.string ⟨#[]⟩) ∧ V.cell? ⟨q, 6, none⟩ = some (.string ⟨#[]⟩) ∧ V.cell? ⟨q, 7, none⟩ = some (.int .i64 0) ∧ V.cell? ⟨q, 8, none⟩ = some (.int .i64 0) ∧ V.cell? ⟨q, 9, none⟩ = some (.int .i64 0) ∧ Below Wa2.heap.size Wa2 V) (first | exact ⟨hq0a, hq1a, hq2a, hq3a, hq4a, hq5a, hq6a, hq7a, hq8a, hq9a, pw_below_drewN (Below.refl _ _) _⟩ | exact ⟨hq0a, hq1a, hq2a, hq3a, hq4a, hq5a, hq6a, hq7a, hq8a, hq9a, Below.refl _ _⟩ | exact ⟨x0, x1, x2, x3, x4, x5, x6, x7, x8, x9, hL2.out.bel⟩ | exact ⟨x0, x1, x2, x3, x4, x5, x6, x7, x8, x9, (hL2.out.below (pw_below_drewN (Below.refl _ _) _)).bel⟩ | exact ⟨y0, y1, y2, y3, y4, y5, y6, y7, y8, y9, hb6⟩ | exact ⟨y0, y1, y2, y3, y4, y5, y6, y7, y8, y9, pw_below_drewN hb6 _⟩) (first
          | (have z_ := hL2; clear z_; go_at_call 11; refine (HFE.out _ _ _ (by first | exact hL2.out | exact hL2.out.below (pw_below_drewN (Below.refl _ _) _))).mono ?_; rintro e w6 ⟨rfl, hb6⟩; have y0 := HQ0.out w6 hb6; have y1 := HQ1.out w6 hb6; have y2 := HQ2.out w6 hb6; have y3 := HQ3.out w6 hb6; have y4 := HQ4.out w6 hb6; have y5 := HQ5.out w6 hb6; have y6 := HQ6.out w6 hb6; have y7 := HQ7.out w6 hb6; have y8 := HQ8.out w6 hb6; have y9 := HQ9.out w6 hb6)
          | (go_at_call 21; refine (HFD.out _ (by first | exact pw_below_drewN (Below.refl _ _) _ | exact Below.refl _ _)).mono ?_; rintro e w5 ⟨g2, gm2, rfl, hl2⟩; have hL2 := Aside0.mk hl2; clear hl2; have x0 := HQ0.out w5 hL2.out.bel; have x1 := HQ1.out w5 hL2.out.bel; have x2 := HQ2.out w5 hL2.out.bel; have x3 := HQ3.out w5 hL2.out.bel; have x4 := HQ4.out w5 hL2.out.bel; have x5 := HQ5.out w5 hL2.out.bel; have x6 := HQ6.out w5 hL2.out.bel; have x7 := HQ7.out w5 hL2.out.bel; have x8 := HQ8.out w5 hL2.out.bel; have x9 := HQ9.out w5 hL2.out.bel))
        all_goals
          go_wp2
          go_roundg (gk - 1)
          case measure => omega
          case rel => exact ⟨4, _, rfl, rfl, by omega, by omega, by omega, by omega, by omega, ⟨by first | exact HXF.out.below hb6 | exact HXF.out.below (pw_below_drewN hb6 _), by have h1 := HCN.out; have h2 := cnt_next X id 0; have h3 : takes X id ((0 + 3 : Nat) : Int) = false := (by unfold takes; show ((feedF X (kev 3 X.last id)).1 == 0) = false; rw [HL.out, HRR.out]; exact hr1); rw [h3, if_neg (by decide)] at h2; have h4 : cntF X id ((3 : Int) - 3).toNat = cntF X id 0 := rfl; show ((cntF X id 1 : Nat) : Int) = _; rw [h4] at h1; rw [show (1 : Nat) = 0 + 1 from rfl, h2]; omega⟩⟩
    · obtain ⟨q, hq⟩ : ∃ q, wr.heap.size = q := ⟨_, rfl⟩
      obtain ⟨Wz, hWz⟩ : ∃ W, wr.alloc (.cells #[.int .i64 0, .int .u64 0, .int .u64 0, .string ⟨#[]⟩, .string ⟨#[]⟩, .string ⟨#[]⟩, .string ⟨#[]⟩, .int .i64 0, .int .i64 0, .int .i64 0] 31) = W := ⟨_, rfl⟩
      obtain ⟨Wa0, hWa0⟩ : ∃ W, wr.alloc (.cells #[.int .i64 4, .int .u64 L, .int .u64 id, .string ⟨#[]⟩, .string ⟨#[]⟩, .string ⟨#[]⟩, .string ⟨#[]⟩, .int .i64 0, .int .i64 0, .int .i64 0] 31) = W := ⟨_, rfl⟩
      have hst := store31 wr #[.int .i64 0, .int .u64 0, .int .u64 0, .string ⟨#[]⟩, .string ⟨#[]⟩, .string ⟨#[]⟩, .string ⟨#[]⟩, .int .i64 0, .int .i64 0, .int .i64 0] #[.int .i64 4, .int .u64 L, .int .u64 id, .string ⟨#[]⟩, .string ⟨#[]⟩, .string ⟨#[]⟩, .string ⟨#[]⟩, .int .i64 0, .int .i64 0, .int .i64 0] rfl rfl (by kernel_rfl)
      have hba : Below wr.heap.size wr Wa0 := by rw [← hWa0]; exact below_alloc (Below.refl _ _) _
      have hqa : Wa0.heap[q]? = some (.cells #[.int .i64 4, .int .u64 L, .int .u64 id, .string ⟨#[]⟩, .string ⟨#[]⟩, .string ⟨#[]⟩, .string ⟨#[]⟩, .int .i64 0, .int .i64 0, .int .i64 0] 31 (0, 0)) := by rw [← hWa0, ← hq]; exact blk_new _ _
      rw [hq, hWz, hWa0] at hst
      clear hWa0
      have hst1 := storeS hqa 3 (by simp) ⟨#[97]⟩
      have hqb := blk_set hqa 3 (.string ⟨#[97]⟩)
      have hbb : Below wr.heap.size wr (Wa0.setCell ⟨q, 3, none⟩ (.string ⟨#[97]⟩)) := hba.setCell (by rw [← hq]; exact Nat.le_refl _) _
      obtain ⟨Wa1, hWa1⟩ : ∃ W, Wa0.setCell ⟨q, 3, none⟩ (.string ⟨#[97]⟩) = W := ⟨_, rfl⟩
      rw [hWa1] at hst1 hqb hbb
      clear hqa hba hWa1
      have hqa := hqb
      have hba := hbb
      clear hqb hbb
      have hce : ∀ V, Below Wa1.heap.size Wa1 V → ∀ i, V.cell? ⟨q, i, none⟩ = Wa1.cell? ⟨q, i, none⟩ := fun V hV i => by
        have hlt : q < Wa1.heap.size := blk_lt hqa
        simp [World.cell?, hV.block q hlt]
      have hq0 : ∀ V, Below Wa1.heap.size Wa1 V → V.cell? ⟨q, 0, none⟩ = _ := fun V hV => (hce V hV 0).trans (blk_cell hqa 0)
      have hq1 : ∀ V, Below Wa1.heap.size Wa1 V → V.cell? ⟨q, 1, none⟩ = _ := fun V hV => (hce V hV 1).trans (blk_cell hqa 1)
      have hq2 : ∀ V, Below Wa1.heap.size Wa1 V → V.cell? ⟨q, 2, none⟩ = _ := fun V hV => (hce V hV 2).trans (blk_cell hqa 2)
      have hq3 : ∀ V, Below Wa1.heap.size Wa1 V → V.cell? ⟨q, 3, none⟩ = _ := fun V hV => (hce V hV 3).trans (blk_cell hqa 3)
      have hq4 : ∀ V, Below Wa1.heap.size Wa1 V → V.cell? ⟨q, 4, none⟩ = _ := fun V hV => (hce V hV 4).trans (blk_cell hqa 4)
      have hq5 : ∀ V, Below Wa1.heap.size Wa1 V → V.cell? ⟨q, 5, none⟩ = _ := fun V hV => (hce V hV 5).trans (blk_cell hqa 5)
      have hq6 : ∀ V, Below Wa1.heap.size Wa1 V → V.cell? ⟨q, 6, none⟩ = _ := fun V hV => (hce V hV 6).trans (blk_cell hqa 6)
      have hq7 : ∀ V, Below Wa1.heap.size Wa1 V → V.cell? ⟨q, 7, none⟩ = _ := fun V hV => (hce V hV 7).trans (blk_cell hqa 7)
      have hq8 : ∀ V, Below Wa1.heap.size Wa1 V → V.cell? ⟨q, 8, none⟩ = _ := fun V hV => (hce V hV 8).trans (blk_cell hqa 8)
      have hq9 : ∀ V, Below Wa1.heap.size Wa1 V → V.cell? ⟨q, 9, none⟩ = _ := fun V hV => (hce V hV 9).trans (blk_cell hqa 9)
      have hq0a := hq0 Wa1 (Below.refl _ _)
      have HQ0 := Aside0.mk hq0
      clear hq0
      have hq1a := hq1 Wa1 (Below.refl _ _)
      have HQ1 := Aside0.mk hq1
      clear hq1
      have hq2a := hq2 Wa1 (Below.refl _ _)
      have HQ2 := Aside0.mk hq2
      clear hq2
      have hq3a := hq3 Wa1 (Below.refl _ _)
      have HQ3 := Aside0.mk hq3
      clear hq3
      have hq4a := hq4 Wa1 (Below.refl _ _)
      have HQ4 := Aside0.mk hq4
      clear hq4
      have hq5a := hq5 Wa1 (Below.refl _ _)
      have HQ5 := Aside0.mk hq5
      clear hq5
      have hq6a := hq6 Wa1 (Below.refl _ _)
      have HQ6 := Aside0.mk hq6
      clear hq6
      have hq7a := hq7 Wa1 (Below.refl _ _)
      have HQ7 := Aside0.mk hq7
      clear hq7
      have hq8a := hq8 Wa1 (Below.refl _ _)
      have HQ8 := Aside0.mk hq8
      clear hq8
      have hq9a := hq9 Wa1 (Below.refl _ _)
      have HQ9 := Aside0.mk hq9
      clear hq9
      clear hce
      obtain ⟨r, hr⟩ : ∃ r, (feedF X (kev 4 L id)).1 = r := ⟨_, rfl⟩
      have HRR := Aside0.mk hr
      have HXF := Aside0.mk (HX.out.below hba)
      have HFD : Aside0 (∀ V, Below Wa1.heap.size Wa1 V → Calls Tryd.prog 21 #[.slice A0 zs.length c0] V fun e w' => ∃ g2 gm2, e = .returned (.pointer (some ⟨g2, 0, none⟩)) ∧ Wl Wa1 w' g2 gm2 X) := ⟨fun V hV => (fed_calls A0 c0 zs V (HG.out.below (HXF.out.below hV).bel) (Kd.C_below HCZ.out (HXF.out.below hV).bel) HZW.out HZL.out).mono (by rintro e w' ⟨g2, gm2, rfl, h⟩; exact ⟨g2, gm2, rfl, by rw [HFX.out] at h; exact Wl.up hV h⟩)⟩
      have HFE : Aside0 (∀ V g2 gm2, Wl Wa1 V g2 gm2 X → Calls Tryd.prog 11 #[.pointer (some ⟨g2, 0, none⟩), .agg #[(.int .i64 4), (.int .u64 L), (.int .u64 id), (.string ⟨#[97]⟩), (.string ⟨#[]⟩), (.string ⟨#[]⟩), (.string ⟨#[]⟩), (.int .i64 0), (.int .i64 0), (.int .i64 0)]] V fun e w' => e = .returned (.int .i64 r) ∧ Below Wa1.heap.size Wa1 w') := ⟨fun V g2 gm2 h => (feed_calls (kev 4 L id) (HG.out.below (HXF.out.below h.bel).bel) h.ln HID.out).mono (by rintro e w' ⟨rfl, hl, hm⟩; exact ⟨by rw [HRR.out], (h.feed hl hm).bel⟩)⟩
      clear hr hqa hba
      go_wp2_with (fail)
      refine (last_calls HX.out.ln).mono ?_
      rw [HL.out]
      rintro e w3 ⟨rfl, hw3⟩
      subst w3
      by_cases hr0 : r = 0
      case pos =>
        subst hr0
        go_wp2_with (fail)
        go_region_held3 (fun V => V.cell? ⟨q, 0, none⟩ = some (.int .i64 4) ∧ V.cell? ⟨q, 1, none⟩ = some (.int .u64 L) ∧ V.cell? ⟨q, 2, none⟩ = some (.int .u64 id) ∧ V.cell? ⟨q, 3, none⟩ = some (.string ⟨#[97]⟩) ∧ V.cell? ⟨q, 4, none⟩ = some (.string ⟨#[]⟩) ∧ V.cell? ⟨q, 5, none⟩ = some (.string ⟨#[]⟩) ∧ V.cell? ⟨q, 6, none⟩ = some (.string ⟨#[]⟩) ∧ V.cell? ⟨q, 7, none⟩ = some (.int .i64 0) ∧ V.cell? ⟨q, 8, none⟩ = some (.int .i64 0) ∧ V.cell? ⟨q, 9, none⟩ = some (.int .i64 0) ∧ Below Wa1.heap.size Wa1 V) (first | exact ⟨hq0a, hq1a, hq2a, hq3a, hq4a, hq5a, hq6a, hq7a, hq8a, hq9a, pw_below_drewN (Below.refl _ _) _⟩ | exact ⟨hq0a, hq1a, hq2a, hq3a, hq4a, hq5a, hq6a, hq7a, hq8a, hq9a, Below.refl _ _⟩ | exact ⟨x0, x1, x2, x3, x4, x5, x6, x7, x8, x9, hL2.out.bel⟩ | exact ⟨x0, x1, x2, x3, x4, x5, x6, x7, x8, x9, (hL2.out.below (pw_below_drewN (Below.refl _ _) _)).bel⟩ | exact ⟨y0, y1, y2, y3, y4, y5, y6, y7, y8, y9, hb6⟩ | exact ⟨y0, y1, y2, y3, y4, y5, y6, y7, y8, y9, pw_below_drewN hb6 _⟩) (first
          | (have z_ := hL2; clear z_; go_at_call 11; refine (HFE.out _ _ _ (by first | exact hL2.out | exact hL2.out.below (pw_below_drewN (Below.refl _ _) _))).mono ?_; rintro e w6 ⟨rfl, hb6⟩; have y0 := HQ0.out w6 hb6; have y1 := HQ1.out w6 hb6; have y2 := HQ2.out w6 hb6; have y3 := HQ3.out w6 hb6; have y4 := HQ4.out w6 hb6; have y5 := HQ5.out w6 hb6; have y6 := HQ6.out w6 hb6; have y7 := HQ7.out w6 hb6; have y8 := HQ8.out w6 hb6; have y9 := HQ9.out w6 hb6)
          | (go_at_call 21; refine (HFD.out _ (by first | exact pw_below_drewN (Below.refl _ _) _ | exact Below.refl _ _)).mono ?_; rintro e w5 ⟨g2, gm2, rfl, hl2⟩; have hL2 := Aside0.mk hl2; clear hl2; have x0 := HQ0.out w5 hL2.out.bel; have x1 := HQ1.out w5 hL2.out.bel; have x2 := HQ2.out w5 hL2.out.bel; have x3 := HQ3.out w5 hL2.out.bel; have x4 := HQ4.out w5 hL2.out.bel; have x5 := HQ5.out w5 hL2.out.bel; have x6 := HQ6.out w5 hL2.out.bel; have x7 := HQ7.out w5 hL2.out.bel; have x8 := HQ8.out w5 hL2.out.bel; have x9 := HQ9.out w5 hL2.out.bel))
        all_goals
          go_wp2
          go_roundg (gk - 1)
          case measure => omega
          case rel => exact ⟨5, _, rfl, rfl, by omega, by omega, by omega, by omega, by omega, ⟨by first | exact HXF.out.below hb6 | exact HXF.out.below (pw_below_drewN hb6 _), by have h1 := HCN.out; have h2 := cnt_next X id 1; have h3 : takes X id ((1 + 3 : Nat) : Int) = true := (by unfold takes; show ((feedF X (kev 4 X.last id)).1 == 0) = true; rw [HL.out, HRR.out]; rfl); rw [h3, if_pos rfl] at h2; have h4 : cntF X id ((4 : Int) - 3).toNat = cntF X id 1 := rfl; show ((cntF X id 2 : Nat) : Int) = _; rw [h4] at h1; rw [show (2 : Nat) = 1 + 1 from rfl, h2]; omega⟩⟩
      case neg =>
        have hr1 : (r == 0) = false := by rw [beq_eq_false_iff_ne]; exact hr0
        go_wp2_with (fail)
        go_region_held3 (fun V => V.cell? ⟨q, 0, none⟩ = some (.int .i64 4) ∧ V.cell? ⟨q, 1, none⟩ = some (.int .u64 L) ∧ V.cell? ⟨q, 2, none⟩ = some (.int .u64 id) ∧ V.cell? ⟨q, 3, none⟩ = some (.string ⟨#[97]⟩) ∧ V.cell? ⟨q, 4, none⟩ = some (.string ⟨#[]⟩) ∧ V.cell? ⟨q, 5, none⟩ = some (.string ⟨#[]⟩) ∧ V.cell? ⟨q, 6, none⟩ = some (.string ⟨#[]⟩) ∧ V.cell? ⟨q, 7, none⟩ = some (.int .i64 0) ∧ V.cell? ⟨q, 8, none⟩ = some (.int .i64 0) ∧ V.cell? ⟨q, 9, none⟩ = some (.int .i64 0) ∧ Below Wa1.heap.size Wa1 V) (first | exact ⟨hq0a, hq1a, hq2a, hq3a, hq4a, hq5a, hq6a, hq7a, hq8a, hq9a, pw_below_drewN (Below.refl _ _) _⟩ | exact ⟨hq0a, hq1a, hq2a, hq3a, hq4a, hq5a, hq6a, hq7a, hq8a, hq9a, Below.refl _ _⟩ | exact ⟨x0, x1, x2, x3, x4, x5, x6, x7, x8, x9, hL2.out.bel⟩ | exact ⟨x0, x1, x2, x3, x4, x5, x6, x7, x8, x9, (hL2.out.below (pw_below_drewN (Below.refl _ _) _)).bel⟩ | exact ⟨y0, y1, y2, y3, y4, y5, y6, y7, y8, y9, hb6⟩ | exact ⟨y0, y1, y2, y3, y4, y5, y6, y7, y8, y9, pw_below_drewN hb6 _⟩) (first
          | (have z_ := hL2; clear z_; go_at_call 11; refine (HFE.out _ _ _ (by first | exact hL2.out | exact hL2.out.below (pw_below_drewN (Below.refl _ _) _))).mono ?_; rintro e w6 ⟨rfl, hb6⟩; have y0 := HQ0.out w6 hb6; have y1 := HQ1.out w6 hb6; have y2 := HQ2.out w6 hb6; have y3 := HQ3.out w6 hb6; have y4 := HQ4.out w6 hb6; have y5 := HQ5.out w6 hb6; have y6 := HQ6.out w6 hb6; have y7 := HQ7.out w6 hb6; have y8 := HQ8.out w6 hb6; have y9 := HQ9.out w6 hb6)
          | (go_at_call 21; refine (HFD.out _ (by first | exact pw_below_drewN (Below.refl _ _) _ | exact Below.refl _ _)).mono ?_; rintro e w5 ⟨g2, gm2, rfl, hl2⟩; have hL2 := Aside0.mk hl2; clear hl2; have x0 := HQ0.out w5 hL2.out.bel; have x1 := HQ1.out w5 hL2.out.bel; have x2 := HQ2.out w5 hL2.out.bel; have x3 := HQ3.out w5 hL2.out.bel; have x4 := HQ4.out w5 hL2.out.bel; have x5 := HQ5.out w5 hL2.out.bel; have x6 := HQ6.out w5 hL2.out.bel; have x7 := HQ7.out w5 hL2.out.bel; have x8 := HQ8.out w5 hL2.out.bel; have x9 := HQ9.out w5 hL2.out.bel))
        all_goals
          go_wp2
          go_roundg (gk - 1)
          case measure => omega
          case rel => exact ⟨5, _, rfl, rfl, by omega, by omega, by omega, by omega, by omega, ⟨by first | exact HXF.out.below hb6 | exact HXF.out.below (pw_below_drewN hb6 _), by have h1 := HCN.out; have h2 := cnt_next X id 1; have h3 : takes X id ((1 + 3 : Nat) : Int) = false := (by unfold takes; show ((feedF X (kev 4 X.last id)).1 == 0) = false; rw [HL.out, HRR.out]; exact hr1); rw [h3, if_neg (by decide)] at h2; have h4 : cntF X id ((4 : Int) - 3).toNat = cntF X id 1 := rfl; show ((cntF X id 2 : Nat) : Int) = _; rw [h4] at h1; rw [show (2 : Nat) = 1 + 1 from rfl, h2]; omega⟩⟩
    · obtain ⟨q, hq⟩ : ∃ q, wr.heap.size = q := ⟨_, rfl⟩
      obtain ⟨Wz, hWz⟩ : ∃ W, wr.alloc (.cells #[.int .i64 0, .int .u64 0, .int .u64 0, .string ⟨#[]⟩, .string ⟨#[]⟩, .string ⟨#[]⟩, .string ⟨#[]⟩, .int .i64 0, .int .i64 0, .int .i64 0] 31) = W := ⟨_, rfl⟩
      obtain ⟨Wa0, hWa0⟩ : ∃ W, wr.alloc (.cells #[.int .i64 5, .int .u64 L, .int .u64 id, .string ⟨#[]⟩, .string ⟨#[]⟩, .string ⟨#[]⟩, .string ⟨#[]⟩, .int .i64 0, .int .i64 0, .int .i64 0] 31) = W := ⟨_, rfl⟩
      have hst := store31 wr #[.int .i64 0, .int .u64 0, .int .u64 0, .string ⟨#[]⟩, .string ⟨#[]⟩, .string ⟨#[]⟩, .string ⟨#[]⟩, .int .i64 0, .int .i64 0, .int .i64 0] #[.int .i64 5, .int .u64 L, .int .u64 id, .string ⟨#[]⟩, .string ⟨#[]⟩, .string ⟨#[]⟩, .string ⟨#[]⟩, .int .i64 0, .int .i64 0, .int .i64 0] rfl rfl (by kernel_rfl)
      have hba : Below wr.heap.size wr Wa0 := by rw [← hWa0]; exact below_alloc (Below.refl _ _) _
      have hqa : Wa0.heap[q]? = some (.cells #[.int .i64 5, .int .u64 L, .int .u64 id, .string ⟨#[]⟩, .string ⟨#[]⟩, .string ⟨#[]⟩, .string ⟨#[]⟩, .int .i64 0, .int .i64 0, .int .i64 0] 31 (0, 0)) := by rw [← hWa0, ← hq]; exact blk_new _ _
      rw [hq, hWz, hWa0] at hst
      clear hWa0
      have hce : ∀ V, Below Wa0.heap.size Wa0 V → ∀ i, V.cell? ⟨q, i, none⟩ = Wa0.cell? ⟨q, i, none⟩ := fun V hV i => by
        have hlt : q < Wa0.heap.size := blk_lt hqa
        simp [World.cell?, hV.block q hlt]
      have hq0 : ∀ V, Below Wa0.heap.size Wa0 V → V.cell? ⟨q, 0, none⟩ = _ := fun V hV => (hce V hV 0).trans (blk_cell hqa 0)
      have hq1 : ∀ V, Below Wa0.heap.size Wa0 V → V.cell? ⟨q, 1, none⟩ = _ := fun V hV => (hce V hV 1).trans (blk_cell hqa 1)
      have hq2 : ∀ V, Below Wa0.heap.size Wa0 V → V.cell? ⟨q, 2, none⟩ = _ := fun V hV => (hce V hV 2).trans (blk_cell hqa 2)
      have hq3 : ∀ V, Below Wa0.heap.size Wa0 V → V.cell? ⟨q, 3, none⟩ = _ := fun V hV => (hce V hV 3).trans (blk_cell hqa 3)
      have hq4 : ∀ V, Below Wa0.heap.size Wa0 V → V.cell? ⟨q, 4, none⟩ = _ := fun V hV => (hce V hV 4).trans (blk_cell hqa 4)
      have hq5 : ∀ V, Below Wa0.heap.size Wa0 V → V.cell? ⟨q, 5, none⟩ = _ := fun V hV => (hce V hV 5).trans (blk_cell hqa 5)
      have hq6 : ∀ V, Below Wa0.heap.size Wa0 V → V.cell? ⟨q, 6, none⟩ = _ := fun V hV => (hce V hV 6).trans (blk_cell hqa 6)
      have hq7 : ∀ V, Below Wa0.heap.size Wa0 V → V.cell? ⟨q, 7, none⟩ = _ := fun V hV => (hce V hV 7).trans (blk_cell hqa 7)
      have hq8 : ∀ V, Below Wa0.heap.size Wa0 V → V.cell? ⟨q, 8, none⟩ = _ := fun V hV => (hce V hV 8).trans (blk_cell hqa 8)
      have hq9 : ∀ V, Below Wa0.heap.size Wa0 V → V.cell? ⟨q, 9, none⟩ = _ := fun V hV => (hce V hV 9).trans (blk_cell hqa 9)
      have hq0a := hq0 Wa0 (Below.refl _ _)
      have HQ0 := Aside0.mk hq0
      clear hq0
      have hq1a := hq1 Wa0 (Below.refl _ _)
      have HQ1 := Aside0.mk hq1
      clear hq1
      have hq2a := hq2 Wa0 (Below.refl _ _)
      have HQ2 := Aside0.mk hq2
      clear hq2
      have hq3a := hq3 Wa0 (Below.refl _ _)
      have HQ3 := Aside0.mk hq3
      clear hq3
      have hq4a := hq4 Wa0 (Below.refl _ _)
      have HQ4 := Aside0.mk hq4
      clear hq4
      have hq5a := hq5 Wa0 (Below.refl _ _)
      have HQ5 := Aside0.mk hq5
      clear hq5
      have hq6a := hq6 Wa0 (Below.refl _ _)
      have HQ6 := Aside0.mk hq6
      clear hq6
      have hq7a := hq7 Wa0 (Below.refl _ _)
      have HQ7 := Aside0.mk hq7
      clear hq7
      have hq8a := hq8 Wa0 (Below.refl _ _)
      have HQ8 := Aside0.mk hq8
      clear hq8
      have hq9a := hq9 Wa0 (Below.refl _ _)
      have HQ9 := Aside0.mk hq9
      clear hq9
      clear hce
      obtain ⟨r, hr⟩ : ∃ r, (feedF X (kev 5 L id)).1 = r := ⟨_, rfl⟩
      have HRR := Aside0.mk hr
      have HXF := Aside0.mk (HX.out.below hba)
      have HFD : Aside0 (∀ V, Below Wa0.heap.size Wa0 V → Calls Tryd.prog 21 #[.slice A0 zs.length c0] V fun e w' => ∃ g2 gm2, e = .returned (.pointer (some ⟨g2, 0, none⟩)) ∧ Wl Wa0 w' g2 gm2 X) := ⟨fun V hV => (fed_calls A0 c0 zs V (HG.out.below (HXF.out.below hV).bel) (Kd.C_below HCZ.out (HXF.out.below hV).bel) HZW.out HZL.out).mono (by rintro e w' ⟨g2, gm2, rfl, h⟩; exact ⟨g2, gm2, rfl, by rw [HFX.out] at h; exact Wl.up hV h⟩)⟩
      have HFE : Aside0 (∀ V g2 gm2, Wl Wa0 V g2 gm2 X → Calls Tryd.prog 11 #[.pointer (some ⟨g2, 0, none⟩), .agg #[(.int .i64 5), (.int .u64 L), (.int .u64 id), (.string ⟨#[]⟩), (.string ⟨#[]⟩), (.string ⟨#[]⟩), (.string ⟨#[]⟩), (.int .i64 0), (.int .i64 0), (.int .i64 0)]] V fun e w' => e = .returned (.int .i64 r) ∧ Below Wa0.heap.size Wa0 w') := ⟨fun V g2 gm2 h => (feed_calls (kev 5 L id) (HG.out.below (HXF.out.below h.bel).bel) h.ln HID.out).mono (by rintro e w' ⟨rfl, hl, hm⟩; exact ⟨by rw [HRR.out], (h.feed hl hm).bel⟩)⟩
      clear hr hqa hba
      go_wp2_with (fail)
      refine (last_calls HX.out.ln).mono ?_
      rw [HL.out]
      rintro e w3 ⟨rfl, hw3⟩
      subst w3
      by_cases hr0 : r = 0
      case pos =>
        subst hr0
        go_wp2_with (fail)
        go_region_held3 (fun V => V.cell? ⟨q, 0, none⟩ = some (.int .i64 5) ∧ V.cell? ⟨q, 1, none⟩ = some (.int .u64 L) ∧ V.cell? ⟨q, 2, none⟩ = some (.int .u64 id) ∧ V.cell? ⟨q, 3, none⟩ = some (.string ⟨#[]⟩) ∧ V.cell? ⟨q, 4, none⟩ = some (.string ⟨#[]⟩) ∧ V.cell? ⟨q, 5, none⟩ = some (.string ⟨#[]⟩) ∧ V.cell? ⟨q, 6, none⟩ = some (.string ⟨#[]⟩) ∧ V.cell? ⟨q, 7, none⟩ = some (.int .i64 0) ∧ V.cell? ⟨q, 8, none⟩ = some (.int .i64 0) ∧ V.cell? ⟨q, 9, none⟩ = some (.int .i64 0) ∧ Below Wa0.heap.size Wa0 V) (first | exact ⟨hq0a, hq1a, hq2a, hq3a, hq4a, hq5a, hq6a, hq7a, hq8a, hq9a, pw_below_drewN (Below.refl _ _) _⟩ | exact ⟨hq0a, hq1a, hq2a, hq3a, hq4a, hq5a, hq6a, hq7a, hq8a, hq9a, Below.refl _ _⟩ | exact ⟨x0, x1, x2, x3, x4, x5, x6, x7, x8, x9, hL2.out.bel⟩ | exact ⟨x0, x1, x2, x3, x4, x5, x6, x7, x8, x9, (hL2.out.below (pw_below_drewN (Below.refl _ _) _)).bel⟩ | exact ⟨y0, y1, y2, y3, y4, y5, y6, y7, y8, y9, hb6⟩ | exact ⟨y0, y1, y2, y3, y4, y5, y6, y7, y8, y9, pw_below_drewN hb6 _⟩) (first
          | (have z_ := hL2; clear z_; go_at_call 11; refine (HFE.out _ _ _ (by first | exact hL2.out | exact hL2.out.below (pw_below_drewN (Below.refl _ _) _))).mono ?_; rintro e w6 ⟨rfl, hb6⟩; have y0 := HQ0.out w6 hb6; have y1 := HQ1.out w6 hb6; have y2 := HQ2.out w6 hb6; have y3 := HQ3.out w6 hb6; have y4 := HQ4.out w6 hb6; have y5 := HQ5.out w6 hb6; have y6 := HQ6.out w6 hb6; have y7 := HQ7.out w6 hb6; have y8 := HQ8.out w6 hb6; have y9 := HQ9.out w6 hb6)
          | (go_at_call 21; refine (HFD.out _ (by first | exact pw_below_drewN (Below.refl _ _) _ | exact Below.refl _ _)).mono ?_; rintro e w5 ⟨g2, gm2, rfl, hl2⟩; have hL2 := Aside0.mk hl2; clear hl2; have x0 := HQ0.out w5 hL2.out.bel; have x1 := HQ1.out w5 hL2.out.bel; have x2 := HQ2.out w5 hL2.out.bel; have x3 := HQ3.out w5 hL2.out.bel; have x4 := HQ4.out w5 hL2.out.bel; have x5 := HQ5.out w5 hL2.out.bel; have x6 := HQ6.out w5 hL2.out.bel; have x7 := HQ7.out w5 hL2.out.bel; have x8 := HQ8.out w5 hL2.out.bel; have x9 := HQ9.out w5 hL2.out.bel))
        all_goals
          go_wp2
          go_roundg (gk - 1)
          case measure => omega
          case rel => exact ⟨6, _, rfl, rfl, by omega, by omega, by omega, by omega, by omega, ⟨by first | exact HXF.out.below hb6 | exact HXF.out.below (pw_below_drewN hb6 _), by have h1 := HCN.out; have h2 := cnt_next X id 2; have h3 : takes X id ((2 + 3 : Nat) : Int) = true := (by unfold takes; show ((feedF X (kev 5 X.last id)).1 == 0) = true; rw [HL.out, HRR.out]; rfl); rw [h3, if_pos rfl] at h2; have h4 : cntF X id ((5 : Int) - 3).toNat = cntF X id 2 := rfl; show ((cntF X id 3 : Nat) : Int) = _; rw [h4] at h1; rw [show (3 : Nat) = 2 + 1 from rfl, h2]; omega⟩⟩
      case neg =>
        have hr1 : (r == 0) = false := by rw [beq_eq_false_iff_ne]; exact hr0
        go_wp2_with (fail)
        go_region_held3 (fun V => V.cell? ⟨q, 0, none⟩ = some (.int .i64 5) ∧ V.cell? ⟨q, 1, none⟩ = some (.int .u64 L) ∧ V.cell? ⟨q, 2, none⟩ = some (.int .u64 id) ∧ V.cell? ⟨q, 3, none⟩ = some (.string ⟨#[]⟩) ∧ V.cell? ⟨q, 4, none⟩ = some (.string ⟨#[]⟩) ∧ V.cell? ⟨q, 5, none⟩ = some (.string ⟨#[]⟩) ∧ V.cell? ⟨q, 6, none⟩ = some (.string ⟨#[]⟩) ∧ V.cell? ⟨q, 7, none⟩ = some (.int .i64 0) ∧ V.cell? ⟨q, 8, none⟩ = some (.int .i64 0) ∧ V.cell? ⟨q, 9, none⟩ = some (.int .i64 0) ∧ Below Wa0.heap.size Wa0 V) (first | exact ⟨hq0a, hq1a, hq2a, hq3a, hq4a, hq5a, hq6a, hq7a, hq8a, hq9a, pw_below_drewN (Below.refl _ _) _⟩ | exact ⟨hq0a, hq1a, hq2a, hq3a, hq4a, hq5a, hq6a, hq7a, hq8a, hq9a, Below.refl _ _⟩ | exact ⟨x0, x1, x2, x3, x4, x5, x6, x7, x8, x9, hL2.out.bel⟩ | exact ⟨x0, x1, x2, x3, x4, x5, x6, x7, x8, x9, (hL2.out.below (pw_below_drewN (Below.refl _ _) _)).bel⟩ | exact ⟨y0, y1, y2, y3, y4, y5, y6, y7, y8, y9, hb6⟩ | exact ⟨y0, y1, y2, y3, y4, y5, y6, y7, y8, y9, pw_below_drewN hb6 _⟩) (first
          | (have z_ := hL2; clear z_; go_at_call 11; refine (HFE.out _ _ _ (by first | exact hL2.out | exact hL2.out.below (pw_below_drewN (Below.refl _ _) _))).mono ?_; rintro e w6 ⟨rfl, hb6⟩; have y0 := HQ0.out w6 hb6; have y1 := HQ1.out w6 hb6; have y2 := HQ2.out w6 hb6; have y3 := HQ3.out w6 hb6; have y4 := HQ4.out w6 hb6; have y5 := HQ5.out w6 hb6; have y6 := HQ6.out w6 hb6; have y7 := HQ7.out w6 hb6; have y8 := HQ8.out w6 hb6; have y9 := HQ9.out w6 hb6)
          | (go_at_call 21; refine (HFD.out _ (by first | exact pw_below_drewN (Below.refl _ _) _ | exact Below.refl _ _)).mono ?_; rintro e w5 ⟨g2, gm2, rfl, hl2⟩; have hL2 := Aside0.mk hl2; clear hl2; have x0 := HQ0.out w5 hL2.out.bel; have x1 := HQ1.out w5 hL2.out.bel; have x2 := HQ2.out w5 hL2.out.bel; have x3 := HQ3.out w5 hL2.out.bel; have x4 := HQ4.out w5 hL2.out.bel; have x5 := HQ5.out w5 hL2.out.bel; have x6 := HQ6.out w5 hL2.out.bel; have x7 := HQ7.out w5 hL2.out.bel; have x8 := HQ8.out w5 hL2.out.bel; have x9 := HQ9.out w5 hL2.out.bel))
        all_goals
          go_wp2
          go_roundg (gk - 1)
          case measure => omega
          case rel => exact ⟨6, _, rfl, rfl, by omega, by omega, by omega, by omega, by omega, ⟨by first | exact HXF.out.below hb6 | exact HXF.out.below (pw_below_drewN hb6 _), by have h1 := HCN.out; have h2 := cnt_next X id 2; have h3 : takes X id ((2 + 3 : Nat) : Int) = false := (by unfold takes; show ((feedF X (kev 5 X.last id)).1 == 0) = false; rw [HL.out, HRR.out]; exact hr1); rw [h3, if_neg (by decide)] at h2; have h4 : cntF X id ((5 : Int) - 3).toNat = cntF X id 2 := rfl; show ((cntF X id 3 : Nat) : Int) = _; rw [h4] at h1; rw [show (3 : Nat) = 2 + 1 from rfl, h2]; omega⟩⟩
    · obtain ⟨q, hq⟩ : ∃ q, wr.heap.size = q := ⟨_, rfl⟩
      obtain ⟨Wz, hWz⟩ : ∃ W, wr.alloc (.cells #[.int .i64 0, .int .u64 0, .int .u64 0, .string ⟨#[]⟩, .string ⟨#[]⟩, .string ⟨#[]⟩, .string ⟨#[]⟩, .int .i64 0, .int .i64 0, .int .i64 0] 31) = W := ⟨_, rfl⟩
      obtain ⟨Wa0, hWa0⟩ : ∃ W, wr.alloc (.cells #[.int .i64 6, .int .u64 L, .int .u64 id, .string ⟨#[]⟩, .string ⟨#[]⟩, .string ⟨#[]⟩, .string ⟨#[]⟩, .int .i64 0, .int .i64 0, .int .i64 0] 31) = W := ⟨_, rfl⟩
      have hst := store31 wr #[.int .i64 0, .int .u64 0, .int .u64 0, .string ⟨#[]⟩, .string ⟨#[]⟩, .string ⟨#[]⟩, .string ⟨#[]⟩, .int .i64 0, .int .i64 0, .int .i64 0] #[.int .i64 6, .int .u64 L, .int .u64 id, .string ⟨#[]⟩, .string ⟨#[]⟩, .string ⟨#[]⟩, .string ⟨#[]⟩, .int .i64 0, .int .i64 0, .int .i64 0] rfl rfl (by kernel_rfl)
      have hba : Below wr.heap.size wr Wa0 := by rw [← hWa0]; exact below_alloc (Below.refl _ _) _
      have hqa : Wa0.heap[q]? = some (.cells #[.int .i64 6, .int .u64 L, .int .u64 id, .string ⟨#[]⟩, .string ⟨#[]⟩, .string ⟨#[]⟩, .string ⟨#[]⟩, .int .i64 0, .int .i64 0, .int .i64 0] 31 (0, 0)) := by rw [← hWa0, ← hq]; exact blk_new _ _
      rw [hq, hWz, hWa0] at hst
      clear hWa0
      have hst1 := storeS hqa 3 (by simp) ⟨#[97]⟩
      have hqb := blk_set hqa 3 (.string ⟨#[97]⟩)
      have hbb : Below wr.heap.size wr (Wa0.setCell ⟨q, 3, none⟩ (.string ⟨#[97]⟩)) := hba.setCell (by rw [← hq]; exact Nat.le_refl _) _
      obtain ⟨Wa1, hWa1⟩ : ∃ W, Wa0.setCell ⟨q, 3, none⟩ (.string ⟨#[97]⟩) = W := ⟨_, rfl⟩
      rw [hWa1] at hst1 hqb hbb
      clear hqa hba hWa1
      have hqa := hqb
      have hba := hbb
      clear hqb hbb
      have hce : ∀ V, Below Wa1.heap.size Wa1 V → ∀ i, V.cell? ⟨q, i, none⟩ = Wa1.cell? ⟨q, i, none⟩ := fun V hV i => by
        have hlt : q < Wa1.heap.size := blk_lt hqa
        simp [World.cell?, hV.block q hlt]
      have hq0 : ∀ V, Below Wa1.heap.size Wa1 V → V.cell? ⟨q, 0, none⟩ = _ := fun V hV => (hce V hV 0).trans (blk_cell hqa 0)
      have hq1 : ∀ V, Below Wa1.heap.size Wa1 V → V.cell? ⟨q, 1, none⟩ = _ := fun V hV => (hce V hV 1).trans (blk_cell hqa 1)
      have hq2 : ∀ V, Below Wa1.heap.size Wa1 V → V.cell? ⟨q, 2, none⟩ = _ := fun V hV => (hce V hV 2).trans (blk_cell hqa 2)
      have hq3 : ∀ V, Below Wa1.heap.size Wa1 V → V.cell? ⟨q, 3, none⟩ = _ := fun V hV => (hce V hV 3).trans (blk_cell hqa 3)
      have hq4 : ∀ V, Below Wa1.heap.size Wa1 V → V.cell? ⟨q, 4, none⟩ = _ := fun V hV => (hce V hV 4).trans (blk_cell hqa 4)
      have hq5 : ∀ V, Below Wa1.heap.size Wa1 V → V.cell? ⟨q, 5, none⟩ = _ := fun V hV => (hce V hV 5).trans (blk_cell hqa 5)
      have hq6 : ∀ V, Below Wa1.heap.size Wa1 V → V.cell? ⟨q, 6, none⟩ = _ := fun V hV => (hce V hV 6).trans (blk_cell hqa 6)
      have hq7 : ∀ V, Below Wa1.heap.size Wa1 V → V.cell? ⟨q, 7, none⟩ = _ := fun V hV => (hce V hV 7).trans (blk_cell hqa 7)
      have hq8 : ∀ V, Below Wa1.heap.size Wa1 V → V.cell? ⟨q, 8, none⟩ = _ := fun V hV => (hce V hV 8).trans (blk_cell hqa 8)
      have hq9 : ∀ V, Below Wa1.heap.size Wa1 V → V.cell? ⟨q, 9, none⟩ = _ := fun V hV => (hce V hV 9).trans (blk_cell hqa 9)
      have hq0a := hq0 Wa1 (Below.refl _ _)
      have HQ0 := Aside0.mk hq0
      clear hq0
      have hq1a := hq1 Wa1 (Below.refl _ _)
      have HQ1 := Aside0.mk hq1
      clear hq1
      have hq2a := hq2 Wa1 (Below.refl _ _)
      have HQ2 := Aside0.mk hq2
      clear hq2
      have hq3a := hq3 Wa1 (Below.refl _ _)
      have HQ3 := Aside0.mk hq3
      clear hq3
      have hq4a := hq4 Wa1 (Below.refl _ _)
      have HQ4 := Aside0.mk hq4
      clear hq4
      have hq5a := hq5 Wa1 (Below.refl _ _)
      have HQ5 := Aside0.mk hq5
      clear hq5
      have hq6a := hq6 Wa1 (Below.refl _ _)
      have HQ6 := Aside0.mk hq6
      clear hq6
      have hq7a := hq7 Wa1 (Below.refl _ _)
      have HQ7 := Aside0.mk hq7
      clear hq7
      have hq8a := hq8 Wa1 (Below.refl _ _)
      have HQ8 := Aside0.mk hq8
      clear hq8
      have hq9a := hq9 Wa1 (Below.refl _ _)
      have HQ9 := Aside0.mk hq9
      clear hq9
      clear hce
      obtain ⟨r, hr⟩ : ∃ r, (feedF X (kev 6 L id)).1 = r := ⟨_, rfl⟩
      have HRR := Aside0.mk hr
      have HXF := Aside0.mk (HX.out.below hba)
      have HFD : Aside0 (∀ V, Below Wa1.heap.size Wa1 V → Calls Tryd.prog 21 #[.slice A0 zs.length c0] V fun e w' => ∃ g2 gm2, e = .returned (.pointer (some ⟨g2, 0, none⟩)) ∧ Wl Wa1 w' g2 gm2 X) := ⟨fun V hV => (fed_calls A0 c0 zs V (HG.out.below (HXF.out.below hV).bel) (Kd.C_below HCZ.out (HXF.out.below hV).bel) HZW.out HZL.out).mono (by rintro e w' ⟨g2, gm2, rfl, h⟩; exact ⟨g2, gm2, rfl, by rw [HFX.out] at h; exact Wl.up hV h⟩)⟩
      have HFE : Aside0 (∀ V g2 gm2, Wl Wa1 V g2 gm2 X → Calls Tryd.prog 11 #[.pointer (some ⟨g2, 0, none⟩), .agg #[(.int .i64 6), (.int .u64 L), (.int .u64 id), (.string ⟨#[97]⟩), (.string ⟨#[]⟩), (.string ⟨#[]⟩), (.string ⟨#[]⟩), (.int .i64 0), (.int .i64 0), (.int .i64 0)]] V fun e w' => e = .returned (.int .i64 r) ∧ Below Wa1.heap.size Wa1 w') := ⟨fun V g2 gm2 h => (feed_calls (kev 6 L id) (HG.out.below (HXF.out.below h.bel).bel) h.ln HID.out).mono (by rintro e w' ⟨rfl, hl, hm⟩; exact ⟨by rw [HRR.out], (h.feed hl hm).bel⟩)⟩
      clear hr hqa hba
      go_wp2_with (fail)
      refine (last_calls HX.out.ln).mono ?_
      rw [HL.out]
      rintro e w3 ⟨rfl, hw3⟩
      subst w3
      by_cases hr0 : r = 0
      case pos =>
        subst hr0
        go_wp2_with (fail)
        go_region_held3 (fun V => V.cell? ⟨q, 0, none⟩ = some (.int .i64 6) ∧ V.cell? ⟨q, 1, none⟩ = some (.int .u64 L) ∧ V.cell? ⟨q, 2, none⟩ = some (.int .u64 id) ∧ V.cell? ⟨q, 3, none⟩ = some (.string ⟨#[97]⟩) ∧ V.cell? ⟨q, 4, none⟩ = some (.string ⟨#[]⟩) ∧ V.cell? ⟨q, 5, none⟩ = some (.string ⟨#[]⟩) ∧ V.cell? ⟨q, 6, none⟩ = some (.string ⟨#[]⟩) ∧ V.cell? ⟨q, 7, none⟩ = some (.int .i64 0) ∧ V.cell? ⟨q, 8, none⟩ = some (.int .i64 0) ∧ V.cell? ⟨q, 9, none⟩ = some (.int .i64 0) ∧ Below Wa1.heap.size Wa1 V) (first | exact ⟨hq0a, hq1a, hq2a, hq3a, hq4a, hq5a, hq6a, hq7a, hq8a, hq9a, pw_below_drewN (Below.refl _ _) _⟩ | exact ⟨hq0a, hq1a, hq2a, hq3a, hq4a, hq5a, hq6a, hq7a, hq8a, hq9a, Below.refl _ _⟩ | exact ⟨x0, x1, x2, x3, x4, x5, x6, x7, x8, x9, hL2.out.bel⟩ | exact ⟨x0, x1, x2, x3, x4, x5, x6, x7, x8, x9, (hL2.out.below (pw_below_drewN (Below.refl _ _) _)).bel⟩ | exact ⟨y0, y1, y2, y3, y4, y5, y6, y7, y8, y9, hb6⟩ | exact ⟨y0, y1, y2, y3, y4, y5, y6, y7, y8, y9, pw_below_drewN hb6 _⟩) (first
          | (have z_ := hL2; clear z_; go_at_call 11; refine (HFE.out _ _ _ (by first | exact hL2.out | exact hL2.out.below (pw_below_drewN (Below.refl _ _) _))).mono ?_; rintro e w6 ⟨rfl, hb6⟩; have y0 := HQ0.out w6 hb6; have y1 := HQ1.out w6 hb6; have y2 := HQ2.out w6 hb6; have y3 := HQ3.out w6 hb6; have y4 := HQ4.out w6 hb6; have y5 := HQ5.out w6 hb6; have y6 := HQ6.out w6 hb6; have y7 := HQ7.out w6 hb6; have y8 := HQ8.out w6 hb6; have y9 := HQ9.out w6 hb6)
          | (go_at_call 21; refine (HFD.out _ (by first | exact pw_below_drewN (Below.refl _ _) _ | exact Below.refl _ _)).mono ?_; rintro e w5 ⟨g2, gm2, rfl, hl2⟩; have hL2 := Aside0.mk hl2; clear hl2; have x0 := HQ0.out w5 hL2.out.bel; have x1 := HQ1.out w5 hL2.out.bel; have x2 := HQ2.out w5 hL2.out.bel; have x3 := HQ3.out w5 hL2.out.bel; have x4 := HQ4.out w5 hL2.out.bel; have x5 := HQ5.out w5 hL2.out.bel; have x6 := HQ6.out w5 hL2.out.bel; have x7 := HQ7.out w5 hL2.out.bel; have x8 := HQ8.out w5 hL2.out.bel; have x9 := HQ9.out w5 hL2.out.bel))
        all_goals
          go_wp2
          go_roundg (gk - 1)
          case measure => omega
          case rel => exact ⟨7, _, rfl, rfl, by omega, by omega, by omega, by omega, by omega, ⟨by first | exact HXF.out.below hb6 | exact HXF.out.below (pw_below_drewN hb6 _), by have h1 := HCN.out; have h2 := cnt_next X id 3; have h3 : takes X id ((3 + 3 : Nat) : Int) = true := (by unfold takes; show ((feedF X (kev 6 X.last id)).1 == 0) = true; rw [HL.out, HRR.out]; rfl); rw [h3, if_pos rfl] at h2; have h4 : cntF X id ((6 : Int) - 3).toNat = cntF X id 3 := rfl; show ((cntF X id 4 : Nat) : Int) = _; rw [h4] at h1; rw [show (4 : Nat) = 3 + 1 from rfl, h2]; omega⟩⟩
      case neg =>
        have hr1 : (r == 0) = false := by rw [beq_eq_false_iff_ne]; exact hr0
        go_wp2_with (fail)
        go_region_held3 (fun V => V.cell? ⟨q, 0, none⟩ = some (.int .i64 6) ∧ V.cell? ⟨q, 1, none⟩ = some (.int .u64 L) ∧ V.cell? ⟨q, 2, none⟩ = some (.int .u64 id) ∧ V.cell? ⟨q, 3, none⟩ = some (.string ⟨#[97]⟩) ∧ V.cell? ⟨q, 4, none⟩ = some (.string ⟨#[]⟩) ∧ V.cell? ⟨q, 5, none⟩ = some (.string ⟨#[]⟩) ∧ V.cell? ⟨q, 6, none⟩ = some (.string ⟨#[]⟩) ∧ V.cell? ⟨q, 7, none⟩ = some (.int .i64 0) ∧ V.cell? ⟨q, 8, none⟩ = some (.int .i64 0) ∧ V.cell? ⟨q, 9, none⟩ = some (.int .i64 0) ∧ Below Wa1.heap.size Wa1 V) (first | exact ⟨hq0a, hq1a, hq2a, hq3a, hq4a, hq5a, hq6a, hq7a, hq8a, hq9a, pw_below_drewN (Below.refl _ _) _⟩ | exact ⟨hq0a, hq1a, hq2a, hq3a, hq4a, hq5a, hq6a, hq7a, hq8a, hq9a, Below.refl _ _⟩ | exact ⟨x0, x1, x2, x3, x4, x5, x6, x7, x8, x9, hL2.out.bel⟩ | exact ⟨x0, x1, x2, x3, x4, x5, x6, x7, x8, x9, (hL2.out.below (pw_below_drewN (Below.refl _ _) _)).bel⟩ | exact ⟨y0, y1, y2, y3, y4, y5, y6, y7, y8, y9, hb6⟩ | exact ⟨y0, y1, y2, y3, y4, y5, y6, y7, y8, y9, pw_below_drewN hb6 _⟩) (first
          | (have z_ := hL2; clear z_; go_at_call 11; refine (HFE.out _ _ _ (by first | exact hL2.out | exact hL2.out.below (pw_below_drewN (Below.refl _ _) _))).mono ?_; rintro e w6 ⟨rfl, hb6⟩; have y0 := HQ0.out w6 hb6; have y1 := HQ1.out w6 hb6; have y2 := HQ2.out w6 hb6; have y3 := HQ3.out w6 hb6; have y4 := HQ4.out w6 hb6; have y5 := HQ5.out w6 hb6; have y6 := HQ6.out w6 hb6; have y7 := HQ7.out w6 hb6; have y8 := HQ8.out w6 hb6; have y9 := HQ9.out w6 hb6)
          | (go_at_call 21; refine (HFD.out _ (by first | exact pw_below_drewN (Below.refl _ _) _ | exact Below.refl _ _)).mono ?_; rintro e w5 ⟨g2, gm2, rfl, hl2⟩; have hL2 := Aside0.mk hl2; clear hl2; have x0 := HQ0.out w5 hL2.out.bel; have x1 := HQ1.out w5 hL2.out.bel; have x2 := HQ2.out w5 hL2.out.bel; have x3 := HQ3.out w5 hL2.out.bel; have x4 := HQ4.out w5 hL2.out.bel; have x5 := HQ5.out w5 hL2.out.bel; have x6 := HQ6.out w5 hL2.out.bel; have x7 := HQ7.out w5 hL2.out.bel; have x8 := HQ8.out w5 hL2.out.bel; have x9 := HQ9.out w5 hL2.out.bel))
        all_goals
          go_wp2
          go_roundg (gk - 1)
          case measure => omega
          case rel => exact ⟨7, _, rfl, rfl, by omega, by omega, by omega, by omega, by omega, ⟨by first | exact HXF.out.below hb6 | exact HXF.out.below (pw_below_drewN hb6 _), by have h1 := HCN.out; have h2 := cnt_next X id 3; have h3 : takes X id ((3 + 3 : Nat) : Int) = false := (by unfold takes; show ((feedF X (kev 6 X.last id)).1 == 0) = false; rw [HL.out, HRR.out]; exact hr1); rw [h3, if_neg (by decide)] at h2; have h4 : cntF X id ((6 : Int) - 3).toNat = cntF X id 3 := rfl; show ((cntF X id 4 : Nat) : Int) = _; rw [h4] at h1; rw [show (4 : Nat) = 3 + 1 from rfl, h2]; omega⟩⟩
    · obtain ⟨q, hq⟩ : ∃ q, wr.heap.size = q := ⟨_, rfl⟩
      obtain ⟨Wz, hWz⟩ : ∃ W, wr.alloc (.cells #[.int .i64 0, .int .u64 0, .int .u64 0, .string ⟨#[]⟩, .string ⟨#[]⟩, .string ⟨#[]⟩, .string ⟨#[]⟩, .int .i64 0, .int .i64 0, .int .i64 0] 31) = W := ⟨_, rfl⟩
      obtain ⟨Wa0, hWa0⟩ : ∃ W, wr.alloc (.cells #[.int .i64 7, .int .u64 L, .int .u64 id, .string ⟨#[]⟩, .string ⟨#[]⟩, .string ⟨#[]⟩, .string ⟨#[]⟩, .int .i64 0, .int .i64 0, .int .i64 0] 31) = W := ⟨_, rfl⟩
      have hst := store31 wr #[.int .i64 0, .int .u64 0, .int .u64 0, .string ⟨#[]⟩, .string ⟨#[]⟩, .string ⟨#[]⟩, .string ⟨#[]⟩, .int .i64 0, .int .i64 0, .int .i64 0] #[.int .i64 7, .int .u64 L, .int .u64 id, .string ⟨#[]⟩, .string ⟨#[]⟩, .string ⟨#[]⟩, .string ⟨#[]⟩, .int .i64 0, .int .i64 0, .int .i64 0] rfl rfl (by kernel_rfl)
      have hba : Below wr.heap.size wr Wa0 := by rw [← hWa0]; exact below_alloc (Below.refl _ _) _
      have hqa : Wa0.heap[q]? = some (.cells #[.int .i64 7, .int .u64 L, .int .u64 id, .string ⟨#[]⟩, .string ⟨#[]⟩, .string ⟨#[]⟩, .string ⟨#[]⟩, .int .i64 0, .int .i64 0, .int .i64 0] 31 (0, 0)) := by rw [← hWa0, ← hq]; exact blk_new _ _
      rw [hq, hWz, hWa0] at hst
      clear hWa0
      have hst1 := storeI hqa 7 (by simp) 200
      have hqb := blk_set hqa 7 (.int .i64 200)
      have hbb : Below wr.heap.size wr (Wa0.setCell ⟨q, 7, none⟩ (.int .i64 200)) := hba.setCell (by rw [← hq]; exact Nat.le_refl _) _
      obtain ⟨Wa1, hWa1⟩ : ∃ W, Wa0.setCell ⟨q, 7, none⟩ (.int .i64 200) = W := ⟨_, rfl⟩
      rw [hWa1] at hst1 hqb hbb
      clear hqa hba hWa1
      have hqa := hqb
      have hba := hbb
      clear hqb hbb
      have hce : ∀ V, Below Wa1.heap.size Wa1 V → ∀ i, V.cell? ⟨q, i, none⟩ = Wa1.cell? ⟨q, i, none⟩ := fun V hV i => by
        have hlt : q < Wa1.heap.size := blk_lt hqa
        simp [World.cell?, hV.block q hlt]
      have hq0 : ∀ V, Below Wa1.heap.size Wa1 V → V.cell? ⟨q, 0, none⟩ = _ := fun V hV => (hce V hV 0).trans (blk_cell hqa 0)
      have hq1 : ∀ V, Below Wa1.heap.size Wa1 V → V.cell? ⟨q, 1, none⟩ = _ := fun V hV => (hce V hV 1).trans (blk_cell hqa 1)
      have hq2 : ∀ V, Below Wa1.heap.size Wa1 V → V.cell? ⟨q, 2, none⟩ = _ := fun V hV => (hce V hV 2).trans (blk_cell hqa 2)
      have hq3 : ∀ V, Below Wa1.heap.size Wa1 V → V.cell? ⟨q, 3, none⟩ = _ := fun V hV => (hce V hV 3).trans (blk_cell hqa 3)
      have hq4 : ∀ V, Below Wa1.heap.size Wa1 V → V.cell? ⟨q, 4, none⟩ = _ := fun V hV => (hce V hV 4).trans (blk_cell hqa 4)
      have hq5 : ∀ V, Below Wa1.heap.size Wa1 V → V.cell? ⟨q, 5, none⟩ = _ := fun V hV => (hce V hV 5).trans (blk_cell hqa 5)
      have hq6 : ∀ V, Below Wa1.heap.size Wa1 V → V.cell? ⟨q, 6, none⟩ = _ := fun V hV => (hce V hV 6).trans (blk_cell hqa 6)
      have hq7 : ∀ V, Below Wa1.heap.size Wa1 V → V.cell? ⟨q, 7, none⟩ = _ := fun V hV => (hce V hV 7).trans (blk_cell hqa 7)
      have hq8 : ∀ V, Below Wa1.heap.size Wa1 V → V.cell? ⟨q, 8, none⟩ = _ := fun V hV => (hce V hV 8).trans (blk_cell hqa 8)
      have hq9 : ∀ V, Below Wa1.heap.size Wa1 V → V.cell? ⟨q, 9, none⟩ = _ := fun V hV => (hce V hV 9).trans (blk_cell hqa 9)
      have hq0a := hq0 Wa1 (Below.refl _ _)
      have HQ0 := Aside0.mk hq0
      clear hq0
      have hq1a := hq1 Wa1 (Below.refl _ _)
      have HQ1 := Aside0.mk hq1
      clear hq1
      have hq2a := hq2 Wa1 (Below.refl _ _)
      have HQ2 := Aside0.mk hq2
      clear hq2
      have hq3a := hq3 Wa1 (Below.refl _ _)
      have HQ3 := Aside0.mk hq3
      clear hq3
      have hq4a := hq4 Wa1 (Below.refl _ _)
      have HQ4 := Aside0.mk hq4
      clear hq4
      have hq5a := hq5 Wa1 (Below.refl _ _)
      have HQ5 := Aside0.mk hq5
      clear hq5
      have hq6a := hq6 Wa1 (Below.refl _ _)
      have HQ6 := Aside0.mk hq6
      clear hq6
      have hq7a := hq7 Wa1 (Below.refl _ _)
      have HQ7 := Aside0.mk hq7
      clear hq7
      have hq8a := hq8 Wa1 (Below.refl _ _)
      have HQ8 := Aside0.mk hq8
      clear hq8
      have hq9a := hq9 Wa1 (Below.refl _ _)
      have HQ9 := Aside0.mk hq9
      clear hq9
      clear hce
      obtain ⟨r, hr⟩ : ∃ r, (feedF X (kev 7 L id)).1 = r := ⟨_, rfl⟩
      have HRR := Aside0.mk hr
      have HXF := Aside0.mk (HX.out.below hba)
      have HFD : Aside0 (∀ V, Below Wa1.heap.size Wa1 V → Calls Tryd.prog 21 #[.slice A0 zs.length c0] V fun e w' => ∃ g2 gm2, e = .returned (.pointer (some ⟨g2, 0, none⟩)) ∧ Wl Wa1 w' g2 gm2 X) := ⟨fun V hV => (fed_calls A0 c0 zs V (HG.out.below (HXF.out.below hV).bel) (Kd.C_below HCZ.out (HXF.out.below hV).bel) HZW.out HZL.out).mono (by rintro e w' ⟨g2, gm2, rfl, h⟩; exact ⟨g2, gm2, rfl, by rw [HFX.out] at h; exact Wl.up hV h⟩)⟩
      have HFE : Aside0 (∀ V g2 gm2, Wl Wa1 V g2 gm2 X → Calls Tryd.prog 11 #[.pointer (some ⟨g2, 0, none⟩), .agg #[(.int .i64 7), (.int .u64 L), (.int .u64 id), (.string ⟨#[]⟩), (.string ⟨#[]⟩), (.string ⟨#[]⟩), (.string ⟨#[]⟩), (.int .i64 200), (.int .i64 0), (.int .i64 0)]] V fun e w' => e = .returned (.int .i64 r) ∧ Below Wa1.heap.size Wa1 w') := ⟨fun V g2 gm2 h => (feed_calls (kev 7 L id) (HG.out.below (HXF.out.below h.bel).bel) h.ln HID.out).mono (by rintro e w' ⟨rfl, hl, hm⟩; exact ⟨by rw [HRR.out], (h.feed hl hm).bel⟩)⟩
      clear hr hqa hba
      go_wp2_with (fail)
      refine (last_calls HX.out.ln).mono ?_
      rw [HL.out]
      rintro e w3 ⟨rfl, hw3⟩
      subst w3
      by_cases hr0 : r = 0
      case pos =>
        subst hr0
        go_wp2_with (fail)
        go_region_held3 (fun V => V.cell? ⟨q, 0, none⟩ = some (.int .i64 7) ∧ V.cell? ⟨q, 1, none⟩ = some (.int .u64 L) ∧ V.cell? ⟨q, 2, none⟩ = some (.int .u64 id) ∧ V.cell? ⟨q, 3, none⟩ = some (.string ⟨#[]⟩) ∧ V.cell? ⟨q, 4, none⟩ = some (.string ⟨#[]⟩) ∧ V.cell? ⟨q, 5, none⟩ = some (.string ⟨#[]⟩) ∧ V.cell? ⟨q, 6, none⟩ = some (.string ⟨#[]⟩) ∧ V.cell? ⟨q, 7, none⟩ = some (.int .i64 200) ∧ V.cell? ⟨q, 8, none⟩ = some (.int .i64 0) ∧ V.cell? ⟨q, 9, none⟩ = some (.int .i64 0) ∧ Below Wa1.heap.size Wa1 V) (first | exact ⟨hq0a, hq1a, hq2a, hq3a, hq4a, hq5a, hq6a, hq7a, hq8a, hq9a, pw_below_drewN (Below.refl _ _) _⟩ | exact ⟨hq0a, hq1a, hq2a, hq3a, hq4a, hq5a, hq6a, hq7a, hq8a, hq9a, Below.refl _ _⟩ | exact ⟨x0, x1, x2, x3, x4, x5, x6, x7, x8, x9, hL2.out.bel⟩ | exact ⟨x0, x1, x2, x3, x4, x5, x6, x7, x8, x9, (hL2.out.below (pw_below_drewN (Below.refl _ _) _)).bel⟩ | exact ⟨y0, y1, y2, y3, y4, y5, y6, y7, y8, y9, hb6⟩ | exact ⟨y0, y1, y2, y3, y4, y5, y6, y7, y8, y9, pw_below_drewN hb6 _⟩) (first
          | (have z_ := hL2; clear z_; go_at_call 11; refine (HFE.out _ _ _ (by first | exact hL2.out | exact hL2.out.below (pw_below_drewN (Below.refl _ _) _))).mono ?_; rintro e w6 ⟨rfl, hb6⟩; have y0 := HQ0.out w6 hb6; have y1 := HQ1.out w6 hb6; have y2 := HQ2.out w6 hb6; have y3 := HQ3.out w6 hb6; have y4 := HQ4.out w6 hb6; have y5 := HQ5.out w6 hb6; have y6 := HQ6.out w6 hb6; have y7 := HQ7.out w6 hb6; have y8 := HQ8.out w6 hb6; have y9 := HQ9.out w6 hb6)
          | (go_at_call 21; refine (HFD.out _ (by first | exact pw_below_drewN (Below.refl _ _) _ | exact Below.refl _ _)).mono ?_; rintro e w5 ⟨g2, gm2, rfl, hl2⟩; have hL2 := Aside0.mk hl2; clear hl2; have x0 := HQ0.out w5 hL2.out.bel; have x1 := HQ1.out w5 hL2.out.bel; have x2 := HQ2.out w5 hL2.out.bel; have x3 := HQ3.out w5 hL2.out.bel; have x4 := HQ4.out w5 hL2.out.bel; have x5 := HQ5.out w5 hL2.out.bel; have x6 := HQ6.out w5 hL2.out.bel; have x7 := HQ7.out w5 hL2.out.bel; have x8 := HQ8.out w5 hL2.out.bel; have x9 := HQ9.out w5 hL2.out.bel))
        all_goals
          go_wp2
          go_roundg (gk - 1)
          case measure => omega
          case rel => exact ⟨8, _, rfl, rfl, by omega, by omega, by omega, by omega, by omega, ⟨by first | exact HXF.out.below hb6 | exact HXF.out.below (pw_below_drewN hb6 _), by have h1 := HCN.out; have h2 := cnt_next X id 4; have h3 : takes X id ((4 + 3 : Nat) : Int) = true := (by unfold takes; show ((feedF X (kev 7 X.last id)).1 == 0) = true; rw [HL.out, HRR.out]; rfl); rw [h3, if_pos rfl] at h2; have h4 : cntF X id ((7 : Int) - 3).toNat = cntF X id 4 := rfl; show ((cntF X id 5 : Nat) : Int) = _; rw [h4] at h1; rw [show (5 : Nat) = 4 + 1 from rfl, h2]; omega⟩⟩
      case neg =>
        have hr1 : (r == 0) = false := by rw [beq_eq_false_iff_ne]; exact hr0
        go_wp2_with (fail)
        go_region_held3 (fun V => V.cell? ⟨q, 0, none⟩ = some (.int .i64 7) ∧ V.cell? ⟨q, 1, none⟩ = some (.int .u64 L) ∧ V.cell? ⟨q, 2, none⟩ = some (.int .u64 id) ∧ V.cell? ⟨q, 3, none⟩ = some (.string ⟨#[]⟩) ∧ V.cell? ⟨q, 4, none⟩ = some (.string ⟨#[]⟩) ∧ V.cell? ⟨q, 5, none⟩ = some (.string ⟨#[]⟩) ∧ V.cell? ⟨q, 6, none⟩ = some (.string ⟨#[]⟩) ∧ V.cell? ⟨q, 7, none⟩ = some (.int .i64 200) ∧ V.cell? ⟨q, 8, none⟩ = some (.int .i64 0) ∧ V.cell? ⟨q, 9, none⟩ = some (.int .i64 0) ∧ Below Wa1.heap.size Wa1 V) (first | exact ⟨hq0a, hq1a, hq2a, hq3a, hq4a, hq5a, hq6a, hq7a, hq8a, hq9a, pw_below_drewN (Below.refl _ _) _⟩ | exact ⟨hq0a, hq1a, hq2a, hq3a, hq4a, hq5a, hq6a, hq7a, hq8a, hq9a, Below.refl _ _⟩ | exact ⟨x0, x1, x2, x3, x4, x5, x6, x7, x8, x9, hL2.out.bel⟩ | exact ⟨x0, x1, x2, x3, x4, x5, x6, x7, x8, x9, (hL2.out.below (pw_below_drewN (Below.refl _ _) _)).bel⟩ | exact ⟨y0, y1, y2, y3, y4, y5, y6, y7, y8, y9, hb6⟩ | exact ⟨y0, y1, y2, y3, y4, y5, y6, y7, y8, y9, pw_below_drewN hb6 _⟩) (first
          | (have z_ := hL2; clear z_; go_at_call 11; refine (HFE.out _ _ _ (by first | exact hL2.out | exact hL2.out.below (pw_below_drewN (Below.refl _ _) _))).mono ?_; rintro e w6 ⟨rfl, hb6⟩; have y0 := HQ0.out w6 hb6; have y1 := HQ1.out w6 hb6; have y2 := HQ2.out w6 hb6; have y3 := HQ3.out w6 hb6; have y4 := HQ4.out w6 hb6; have y5 := HQ5.out w6 hb6; have y6 := HQ6.out w6 hb6; have y7 := HQ7.out w6 hb6; have y8 := HQ8.out w6 hb6; have y9 := HQ9.out w6 hb6)
          | (go_at_call 21; refine (HFD.out _ (by first | exact pw_below_drewN (Below.refl _ _) _ | exact Below.refl _ _)).mono ?_; rintro e w5 ⟨g2, gm2, rfl, hl2⟩; have hL2 := Aside0.mk hl2; clear hl2; have x0 := HQ0.out w5 hL2.out.bel; have x1 := HQ1.out w5 hL2.out.bel; have x2 := HQ2.out w5 hL2.out.bel; have x3 := HQ3.out w5 hL2.out.bel; have x4 := HQ4.out w5 hL2.out.bel; have x5 := HQ5.out w5 hL2.out.bel; have x6 := HQ6.out w5 hL2.out.bel; have x7 := HQ7.out w5 hL2.out.bel; have x8 := HQ8.out w5 hL2.out.bel; have x9 := HQ9.out w5 hL2.out.bel))
        all_goals
          go_wp2
          go_roundg (gk - 1)
          case measure => omega
          case rel => exact ⟨8, _, rfl, rfl, by omega, by omega, by omega, by omega, by omega, ⟨by first | exact HXF.out.below hb6 | exact HXF.out.below (pw_below_drewN hb6 _), by have h1 := HCN.out; have h2 := cnt_next X id 4; have h3 : takes X id ((4 + 3 : Nat) : Int) = false := (by unfold takes; show ((feedF X (kev 7 X.last id)).1 == 0) = false; rw [HL.out, HRR.out]; exact hr1); rw [h3, if_neg (by decide)] at h2; have h4 : cntF X id ((7 : Int) - 3).toNat = cntF X id 4 := rfl; show ((cntF X id 5 : Nat) : Int) = _; rw [h4] at h1; rw [show (5 : Nat) = 4 + 1 from rfl, h2]; omega⟩⟩
    · obtain ⟨q, hq⟩ : ∃ q, wr.heap.size = q := ⟨_, rfl⟩
      obtain ⟨Wz, hWz⟩ : ∃ W, wr.alloc (.cells #[.int .i64 0, .int .u64 0, .int .u64 0, .string ⟨#[]⟩, .string ⟨#[]⟩, .string ⟨#[]⟩, .string ⟨#[]⟩, .int .i64 0, .int .i64 0, .int .i64 0] 31) = W := ⟨_, rfl⟩
      obtain ⟨Wa0, hWa0⟩ : ∃ W, wr.alloc (.cells #[.int .i64 8, .int .u64 L, .int .u64 id, .string ⟨#[]⟩, .string ⟨#[]⟩, .string ⟨#[]⟩, .string ⟨#[]⟩, .int .i64 0, .int .i64 0, .int .i64 0] 31) = W := ⟨_, rfl⟩
      have hst := store31 wr #[.int .i64 0, .int .u64 0, .int .u64 0, .string ⟨#[]⟩, .string ⟨#[]⟩, .string ⟨#[]⟩, .string ⟨#[]⟩, .int .i64 0, .int .i64 0, .int .i64 0] #[.int .i64 8, .int .u64 L, .int .u64 id, .string ⟨#[]⟩, .string ⟨#[]⟩, .string ⟨#[]⟩, .string ⟨#[]⟩, .int .i64 0, .int .i64 0, .int .i64 0] rfl rfl (by kernel_rfl)
      have hba : Below wr.heap.size wr Wa0 := by rw [← hWa0]; exact below_alloc (Below.refl _ _) _
      have hqa : Wa0.heap[q]? = some (.cells #[.int .i64 8, .int .u64 L, .int .u64 id, .string ⟨#[]⟩, .string ⟨#[]⟩, .string ⟨#[]⟩, .string ⟨#[]⟩, .int .i64 0, .int .i64 0, .int .i64 0] 31 (0, 0)) := by rw [← hWa0, ← hq]; exact blk_new _ _
      rw [hq, hWz, hWa0] at hst
      clear hWa0
      have hce : ∀ V, Below Wa0.heap.size Wa0 V → ∀ i, V.cell? ⟨q, i, none⟩ = Wa0.cell? ⟨q, i, none⟩ := fun V hV i => by
        have hlt : q < Wa0.heap.size := blk_lt hqa
        simp [World.cell?, hV.block q hlt]
      have hq0 : ∀ V, Below Wa0.heap.size Wa0 V → V.cell? ⟨q, 0, none⟩ = _ := fun V hV => (hce V hV 0).trans (blk_cell hqa 0)
      have hq1 : ∀ V, Below Wa0.heap.size Wa0 V → V.cell? ⟨q, 1, none⟩ = _ := fun V hV => (hce V hV 1).trans (blk_cell hqa 1)
      have hq2 : ∀ V, Below Wa0.heap.size Wa0 V → V.cell? ⟨q, 2, none⟩ = _ := fun V hV => (hce V hV 2).trans (blk_cell hqa 2)
      have hq3 : ∀ V, Below Wa0.heap.size Wa0 V → V.cell? ⟨q, 3, none⟩ = _ := fun V hV => (hce V hV 3).trans (blk_cell hqa 3)
      have hq4 : ∀ V, Below Wa0.heap.size Wa0 V → V.cell? ⟨q, 4, none⟩ = _ := fun V hV => (hce V hV 4).trans (blk_cell hqa 4)
      have hq5 : ∀ V, Below Wa0.heap.size Wa0 V → V.cell? ⟨q, 5, none⟩ = _ := fun V hV => (hce V hV 5).trans (blk_cell hqa 5)
      have hq6 : ∀ V, Below Wa0.heap.size Wa0 V → V.cell? ⟨q, 6, none⟩ = _ := fun V hV => (hce V hV 6).trans (blk_cell hqa 6)
      have hq7 : ∀ V, Below Wa0.heap.size Wa0 V → V.cell? ⟨q, 7, none⟩ = _ := fun V hV => (hce V hV 7).trans (blk_cell hqa 7)
      have hq8 : ∀ V, Below Wa0.heap.size Wa0 V → V.cell? ⟨q, 8, none⟩ = _ := fun V hV => (hce V hV 8).trans (blk_cell hqa 8)
      have hq9 : ∀ V, Below Wa0.heap.size Wa0 V → V.cell? ⟨q, 9, none⟩ = _ := fun V hV => (hce V hV 9).trans (blk_cell hqa 9)
      have hq0a := hq0 Wa0 (Below.refl _ _)
      have HQ0 := Aside0.mk hq0
      clear hq0
      have hq1a := hq1 Wa0 (Below.refl _ _)
      have HQ1 := Aside0.mk hq1
      clear hq1
      have hq2a := hq2 Wa0 (Below.refl _ _)
      have HQ2 := Aside0.mk hq2
      clear hq2
      have hq3a := hq3 Wa0 (Below.refl _ _)
      have HQ3 := Aside0.mk hq3
      clear hq3
      have hq4a := hq4 Wa0 (Below.refl _ _)
      have HQ4 := Aside0.mk hq4
      clear hq4
      have hq5a := hq5 Wa0 (Below.refl _ _)
      have HQ5 := Aside0.mk hq5
      clear hq5
      have hq6a := hq6 Wa0 (Below.refl _ _)
      have HQ6 := Aside0.mk hq6
      clear hq6
      have hq7a := hq7 Wa0 (Below.refl _ _)
      have HQ7 := Aside0.mk hq7
      clear hq7
      have hq8a := hq8 Wa0 (Below.refl _ _)
      have HQ8 := Aside0.mk hq8
      clear hq8
      have hq9a := hq9 Wa0 (Below.refl _ _)
      have HQ9 := Aside0.mk hq9
      clear hq9
      clear hce
      obtain ⟨r, hr⟩ : ∃ r, (feedF X (kev 8 L id)).1 = r := ⟨_, rfl⟩
      have HRR := Aside0.mk hr
      have HXF := Aside0.mk (HX.out.below hba)
      have HFD : Aside0 (∀ V, Below Wa0.heap.size Wa0 V → Calls Tryd.prog 21 #[.slice A0 zs.length c0] V fun e w' => ∃ g2 gm2, e = .returned (.pointer (some ⟨g2, 0, none⟩)) ∧ Wl Wa0 w' g2 gm2 X) := ⟨fun V hV => (fed_calls A0 c0 zs V (HG.out.below (HXF.out.below hV).bel) (Kd.C_below HCZ.out (HXF.out.below hV).bel) HZW.out HZL.out).mono (by rintro e w' ⟨g2, gm2, rfl, h⟩; exact ⟨g2, gm2, rfl, by rw [HFX.out] at h; exact Wl.up hV h⟩)⟩
      have HFE : Aside0 (∀ V g2 gm2, Wl Wa0 V g2 gm2 X → Calls Tryd.prog 11 #[.pointer (some ⟨g2, 0, none⟩), .agg #[(.int .i64 8), (.int .u64 L), (.int .u64 id), (.string ⟨#[]⟩), (.string ⟨#[]⟩), (.string ⟨#[]⟩), (.string ⟨#[]⟩), (.int .i64 0), (.int .i64 0), (.int .i64 0)]] V fun e w' => e = .returned (.int .i64 r) ∧ Below Wa0.heap.size Wa0 w') := ⟨fun V g2 gm2 h => (feed_calls (kev 8 L id) (HG.out.below (HXF.out.below h.bel).bel) h.ln HID.out).mono (by rintro e w' ⟨rfl, hl, hm⟩; exact ⟨by rw [HRR.out], (h.feed hl hm).bel⟩)⟩
      clear hr hqa hba
      go_wp2_with (fail)
      refine (last_calls HX.out.ln).mono ?_
      rw [HL.out]
      rintro e w3 ⟨rfl, hw3⟩
      subst w3
      by_cases hr0 : r = 0
      case pos =>
        subst hr0
        go_wp2_with (fail)
        go_region_held3 (fun V => V.cell? ⟨q, 0, none⟩ = some (.int .i64 8) ∧ V.cell? ⟨q, 1, none⟩ = some (.int .u64 L) ∧ V.cell? ⟨q, 2, none⟩ = some (.int .u64 id) ∧ V.cell? ⟨q, 3, none⟩ = some (.string ⟨#[]⟩) ∧ V.cell? ⟨q, 4, none⟩ = some (.string ⟨#[]⟩) ∧ V.cell? ⟨q, 5, none⟩ = some (.string ⟨#[]⟩) ∧ V.cell? ⟨q, 6, none⟩ = some (.string ⟨#[]⟩) ∧ V.cell? ⟨q, 7, none⟩ = some (.int .i64 0) ∧ V.cell? ⟨q, 8, none⟩ = some (.int .i64 0) ∧ V.cell? ⟨q, 9, none⟩ = some (.int .i64 0) ∧ Below Wa0.heap.size Wa0 V) (first | exact ⟨hq0a, hq1a, hq2a, hq3a, hq4a, hq5a, hq6a, hq7a, hq8a, hq9a, pw_below_drewN (Below.refl _ _) _⟩ | exact ⟨hq0a, hq1a, hq2a, hq3a, hq4a, hq5a, hq6a, hq7a, hq8a, hq9a, Below.refl _ _⟩ | exact ⟨x0, x1, x2, x3, x4, x5, x6, x7, x8, x9, hL2.out.bel⟩ | exact ⟨x0, x1, x2, x3, x4, x5, x6, x7, x8, x9, (hL2.out.below (pw_below_drewN (Below.refl _ _) _)).bel⟩ | exact ⟨y0, y1, y2, y3, y4, y5, y6, y7, y8, y9, hb6⟩ | exact ⟨y0, y1, y2, y3, y4, y5, y6, y7, y8, y9, pw_below_drewN hb6 _⟩) (first
          | (have z_ := hL2; clear z_; go_at_call 11; refine (HFE.out _ _ _ (by first | exact hL2.out | exact hL2.out.below (pw_below_drewN (Below.refl _ _) _))).mono ?_; rintro e w6 ⟨rfl, hb6⟩; have y0 := HQ0.out w6 hb6; have y1 := HQ1.out w6 hb6; have y2 := HQ2.out w6 hb6; have y3 := HQ3.out w6 hb6; have y4 := HQ4.out w6 hb6; have y5 := HQ5.out w6 hb6; have y6 := HQ6.out w6 hb6; have y7 := HQ7.out w6 hb6; have y8 := HQ8.out w6 hb6; have y9 := HQ9.out w6 hb6)
          | (go_at_call 21; refine (HFD.out _ (by first | exact pw_below_drewN (Below.refl _ _) _ | exact Below.refl _ _)).mono ?_; rintro e w5 ⟨g2, gm2, rfl, hl2⟩; have hL2 := Aside0.mk hl2; clear hl2; have x0 := HQ0.out w5 hL2.out.bel; have x1 := HQ1.out w5 hL2.out.bel; have x2 := HQ2.out w5 hL2.out.bel; have x3 := HQ3.out w5 hL2.out.bel; have x4 := HQ4.out w5 hL2.out.bel; have x5 := HQ5.out w5 hL2.out.bel; have x6 := HQ6.out w5 hL2.out.bel; have x7 := HQ7.out w5 hL2.out.bel; have x8 := HQ8.out w5 hL2.out.bel; have x9 := HQ9.out w5 hL2.out.bel))
        all_goals
          go_wp2
          go_roundg (gk - 1)
          case measure => omega
          case rel => exact ⟨9, _, rfl, rfl, by omega, by omega, by omega, by omega, by omega, ⟨by first | exact HXF.out.below hb6 | exact HXF.out.below (pw_below_drewN hb6 _), by have h1 := HCN.out; have h2 := cnt_next X id 5; have h3 : takes X id ((5 + 3 : Nat) : Int) = true := (by unfold takes; show ((feedF X (kev 8 X.last id)).1 == 0) = true; rw [HL.out, HRR.out]; rfl); rw [h3, if_pos rfl] at h2; have h4 : cntF X id ((8 : Int) - 3).toNat = cntF X id 5 := rfl; show ((cntF X id 6 : Nat) : Int) = _; rw [h4] at h1; rw [show (6 : Nat) = 5 + 1 from rfl, h2]; omega⟩⟩
      case neg =>
        have hr1 : (r == 0) = false := by rw [beq_eq_false_iff_ne]; exact hr0
        go_wp2_with (fail)
        go_region_held3 (fun V => V.cell? ⟨q, 0, none⟩ = some (.int .i64 8) ∧ V.cell? ⟨q, 1, none⟩ = some (.int .u64 L) ∧ V.cell? ⟨q, 2, none⟩ = some (.int .u64 id) ∧ V.cell? ⟨q, 3, none⟩ = some (.string ⟨#[]⟩) ∧ V.cell? ⟨q, 4, none⟩ = some (.string ⟨#[]⟩) ∧ V.cell? ⟨q, 5, none⟩ = some (.string ⟨#[]⟩) ∧ V.cell? ⟨q, 6, none⟩ = some (.string ⟨#[]⟩) ∧ V.cell? ⟨q, 7, none⟩ = some (.int .i64 0) ∧ V.cell? ⟨q, 8, none⟩ = some (.int .i64 0) ∧ V.cell? ⟨q, 9, none⟩ = some (.int .i64 0) ∧ Below Wa0.heap.size Wa0 V) (first | exact ⟨hq0a, hq1a, hq2a, hq3a, hq4a, hq5a, hq6a, hq7a, hq8a, hq9a, pw_below_drewN (Below.refl _ _) _⟩ | exact ⟨hq0a, hq1a, hq2a, hq3a, hq4a, hq5a, hq6a, hq7a, hq8a, hq9a, Below.refl _ _⟩ | exact ⟨x0, x1, x2, x3, x4, x5, x6, x7, x8, x9, hL2.out.bel⟩ | exact ⟨x0, x1, x2, x3, x4, x5, x6, x7, x8, x9, (hL2.out.below (pw_below_drewN (Below.refl _ _) _)).bel⟩ | exact ⟨y0, y1, y2, y3, y4, y5, y6, y7, y8, y9, hb6⟩ | exact ⟨y0, y1, y2, y3, y4, y5, y6, y7, y8, y9, pw_below_drewN hb6 _⟩) (first
          | (have z_ := hL2; clear z_; go_at_call 11; refine (HFE.out _ _ _ (by first | exact hL2.out | exact hL2.out.below (pw_below_drewN (Below.refl _ _) _))).mono ?_; rintro e w6 ⟨rfl, hb6⟩; have y0 := HQ0.out w6 hb6; have y1 := HQ1.out w6 hb6; have y2 := HQ2.out w6 hb6; have y3 := HQ3.out w6 hb6; have y4 := HQ4.out w6 hb6; have y5 := HQ5.out w6 hb6; have y6 := HQ6.out w6 hb6; have y7 := HQ7.out w6 hb6; have y8 := HQ8.out w6 hb6; have y9 := HQ9.out w6 hb6)
          | (go_at_call 21; refine (HFD.out _ (by first | exact pw_below_drewN (Below.refl _ _) _ | exact Below.refl _ _)).mono ?_; rintro e w5 ⟨g2, gm2, rfl, hl2⟩; have hL2 := Aside0.mk hl2; clear hl2; have x0 := HQ0.out w5 hL2.out.bel; have x1 := HQ1.out w5 hL2.out.bel; have x2 := HQ2.out w5 hL2.out.bel; have x3 := HQ3.out w5 hL2.out.bel; have x4 := HQ4.out w5 hL2.out.bel; have x5 := HQ5.out w5 hL2.out.bel; have x6 := HQ6.out w5 hL2.out.bel; have x7 := HQ7.out w5 hL2.out.bel; have x8 := HQ8.out w5 hL2.out.bel; have x9 := HQ9.out w5 hL2.out.bel))
        all_goals
          go_wp2
          go_roundg (gk - 1)
          case measure => omega
          case rel => exact ⟨9, _, rfl, rfl, by omega, by omega, by omega, by omega, by omega, ⟨by first | exact HXF.out.below hb6 | exact HXF.out.below (pw_below_drewN hb6 _), by have h1 := HCN.out; have h2 := cnt_next X id 5; have h3 : takes X id ((5 + 3 : Nat) : Int) = false := (by unfold takes; show ((feedF X (kev 8 X.last id)).1 == 0) = false; rw [HL.out, HRR.out]; exact hr1); rw [h3, if_neg (by decide)] at h2; have h4 : cntF X id ((8 : Int) - 3).toNat = cntF X id 5 := rfl; show ((cntF X id 6 : Nat) : Int) = _; rw [h4] at h1; rw [show (6 : Nat) = 5 + 1 from rfl, h2]; omega⟩⟩
    · obtain ⟨q, hq⟩ : ∃ q, wr.heap.size = q := ⟨_, rfl⟩
      obtain ⟨Wz, hWz⟩ : ∃ W, wr.alloc (.cells #[.int .i64 0, .int .u64 0, .int .u64 0, .string ⟨#[]⟩, .string ⟨#[]⟩, .string ⟨#[]⟩, .string ⟨#[]⟩, .int .i64 0, .int .i64 0, .int .i64 0] 31) = W := ⟨_, rfl⟩
      obtain ⟨Wa0, hWa0⟩ : ∃ W, wr.alloc (.cells #[.int .i64 9, .int .u64 L, .int .u64 id, .string ⟨#[]⟩, .string ⟨#[]⟩, .string ⟨#[]⟩, .string ⟨#[]⟩, .int .i64 0, .int .i64 0, .int .i64 0] 31) = W := ⟨_, rfl⟩
      have hst := store31 wr #[.int .i64 0, .int .u64 0, .int .u64 0, .string ⟨#[]⟩, .string ⟨#[]⟩, .string ⟨#[]⟩, .string ⟨#[]⟩, .int .i64 0, .int .i64 0, .int .i64 0] #[.int .i64 9, .int .u64 L, .int .u64 id, .string ⟨#[]⟩, .string ⟨#[]⟩, .string ⟨#[]⟩, .string ⟨#[]⟩, .int .i64 0, .int .i64 0, .int .i64 0] rfl rfl (by kernel_rfl)
      have hba : Below wr.heap.size wr Wa0 := by rw [← hWa0]; exact below_alloc (Below.refl _ _) _
      have hqa : Wa0.heap[q]? = some (.cells #[.int .i64 9, .int .u64 L, .int .u64 id, .string ⟨#[]⟩, .string ⟨#[]⟩, .string ⟨#[]⟩, .string ⟨#[]⟩, .int .i64 0, .int .i64 0, .int .i64 0] 31 (0, 0)) := by rw [← hWa0, ← hq]; exact blk_new _ _
      rw [hq, hWz, hWa0] at hst
      clear hWa0
      have hst1 := storeS hqa 3 (by simp) ⟨#[97]⟩
      have hqb := blk_set hqa 3 (.string ⟨#[97]⟩)
      have hbb : Below wr.heap.size wr (Wa0.setCell ⟨q, 3, none⟩ (.string ⟨#[97]⟩)) := hba.setCell (by rw [← hq]; exact Nat.le_refl _) _
      obtain ⟨Wa1, hWa1⟩ : ∃ W, Wa0.setCell ⟨q, 3, none⟩ (.string ⟨#[97]⟩) = W := ⟨_, rfl⟩
      rw [hWa1] at hst1 hqb hbb
      clear hqa hba hWa1
      have hqa := hqb
      have hba := hbb
      clear hqb hbb
      have hce : ∀ V, Below Wa1.heap.size Wa1 V → ∀ i, V.cell? ⟨q, i, none⟩ = Wa1.cell? ⟨q, i, none⟩ := fun V hV i => by
        have hlt : q < Wa1.heap.size := blk_lt hqa
        simp [World.cell?, hV.block q hlt]
      have hq0 : ∀ V, Below Wa1.heap.size Wa1 V → V.cell? ⟨q, 0, none⟩ = _ := fun V hV => (hce V hV 0).trans (blk_cell hqa 0)
      have hq1 : ∀ V, Below Wa1.heap.size Wa1 V → V.cell? ⟨q, 1, none⟩ = _ := fun V hV => (hce V hV 1).trans (blk_cell hqa 1)
      have hq2 : ∀ V, Below Wa1.heap.size Wa1 V → V.cell? ⟨q, 2, none⟩ = _ := fun V hV => (hce V hV 2).trans (blk_cell hqa 2)
      have hq3 : ∀ V, Below Wa1.heap.size Wa1 V → V.cell? ⟨q, 3, none⟩ = _ := fun V hV => (hce V hV 3).trans (blk_cell hqa 3)
      have hq4 : ∀ V, Below Wa1.heap.size Wa1 V → V.cell? ⟨q, 4, none⟩ = _ := fun V hV => (hce V hV 4).trans (blk_cell hqa 4)
      have hq5 : ∀ V, Below Wa1.heap.size Wa1 V → V.cell? ⟨q, 5, none⟩ = _ := fun V hV => (hce V hV 5).trans (blk_cell hqa 5)
      have hq6 : ∀ V, Below Wa1.heap.size Wa1 V → V.cell? ⟨q, 6, none⟩ = _ := fun V hV => (hce V hV 6).trans (blk_cell hqa 6)
      have hq7 : ∀ V, Below Wa1.heap.size Wa1 V → V.cell? ⟨q, 7, none⟩ = _ := fun V hV => (hce V hV 7).trans (blk_cell hqa 7)
      have hq8 : ∀ V, Below Wa1.heap.size Wa1 V → V.cell? ⟨q, 8, none⟩ = _ := fun V hV => (hce V hV 8).trans (blk_cell hqa 8)
      have hq9 : ∀ V, Below Wa1.heap.size Wa1 V → V.cell? ⟨q, 9, none⟩ = _ := fun V hV => (hce V hV 9).trans (blk_cell hqa 9)
      have hq0a := hq0 Wa1 (Below.refl _ _)
      have HQ0 := Aside0.mk hq0
      clear hq0
      have hq1a := hq1 Wa1 (Below.refl _ _)
      have HQ1 := Aside0.mk hq1
      clear hq1
      have hq2a := hq2 Wa1 (Below.refl _ _)
      have HQ2 := Aside0.mk hq2
      clear hq2
      have hq3a := hq3 Wa1 (Below.refl _ _)
      have HQ3 := Aside0.mk hq3
      clear hq3
      have hq4a := hq4 Wa1 (Below.refl _ _)
      have HQ4 := Aside0.mk hq4
      clear hq4
      have hq5a := hq5 Wa1 (Below.refl _ _)
      have HQ5 := Aside0.mk hq5
      clear hq5
      have hq6a := hq6 Wa1 (Below.refl _ _)
      have HQ6 := Aside0.mk hq6
      clear hq6
      have hq7a := hq7 Wa1 (Below.refl _ _)
      have HQ7 := Aside0.mk hq7
      clear hq7
      have hq8a := hq8 Wa1 (Below.refl _ _)
      have HQ8 := Aside0.mk hq8
      clear hq8
      have hq9a := hq9 Wa1 (Below.refl _ _)
      have HQ9 := Aside0.mk hq9
      clear hq9
      clear hce
      obtain ⟨r, hr⟩ : ∃ r, (feedF X (kev 9 L id)).1 = r := ⟨_, rfl⟩
      have HRR := Aside0.mk hr
      have HXF := Aside0.mk (HX.out.below hba)
      have HFD : Aside0 (∀ V, Below Wa1.heap.size Wa1 V → Calls Tryd.prog 21 #[.slice A0 zs.length c0] V fun e w' => ∃ g2 gm2, e = .returned (.pointer (some ⟨g2, 0, none⟩)) ∧ Wl Wa1 w' g2 gm2 X) := ⟨fun V hV => (fed_calls A0 c0 zs V (HG.out.below (HXF.out.below hV).bel) (Kd.C_below HCZ.out (HXF.out.below hV).bel) HZW.out HZL.out).mono (by rintro e w' ⟨g2, gm2, rfl, h⟩; exact ⟨g2, gm2, rfl, by rw [HFX.out] at h; exact Wl.up hV h⟩)⟩
      have HFE : Aside0 (∀ V g2 gm2, Wl Wa1 V g2 gm2 X → Calls Tryd.prog 11 #[.pointer (some ⟨g2, 0, none⟩), .agg #[(.int .i64 9), (.int .u64 L), (.int .u64 id), (.string ⟨#[97]⟩), (.string ⟨#[]⟩), (.string ⟨#[]⟩), (.string ⟨#[]⟩), (.int .i64 0), (.int .i64 0), (.int .i64 0)]] V fun e w' => e = .returned (.int .i64 r) ∧ Below Wa1.heap.size Wa1 w') := ⟨fun V g2 gm2 h => (feed_calls (kev 9 L id) (HG.out.below (HXF.out.below h.bel).bel) h.ln HID.out).mono (by rintro e w' ⟨rfl, hl, hm⟩; exact ⟨by rw [HRR.out], (h.feed hl hm).bel⟩)⟩
      clear hr hqa hba
      go_wp2_with (fail)
      refine (last_calls HX.out.ln).mono ?_
      rw [HL.out]
      rintro e w3 ⟨rfl, hw3⟩
      subst w3
      by_cases hr0 : r = 0
      case pos =>
        subst hr0
        go_wp2_with (fail)
        go_region_held3 (fun V => V.cell? ⟨q, 0, none⟩ = some (.int .i64 9) ∧ V.cell? ⟨q, 1, none⟩ = some (.int .u64 L) ∧ V.cell? ⟨q, 2, none⟩ = some (.int .u64 id) ∧ V.cell? ⟨q, 3, none⟩ = some (.string ⟨#[97]⟩) ∧ V.cell? ⟨q, 4, none⟩ = some (.string ⟨#[]⟩) ∧ V.cell? ⟨q, 5, none⟩ = some (.string ⟨#[]⟩) ∧ V.cell? ⟨q, 6, none⟩ = some (.string ⟨#[]⟩) ∧ V.cell? ⟨q, 7, none⟩ = some (.int .i64 0) ∧ V.cell? ⟨q, 8, none⟩ = some (.int .i64 0) ∧ V.cell? ⟨q, 9, none⟩ = some (.int .i64 0) ∧ Below Wa1.heap.size Wa1 V) (first | exact ⟨hq0a, hq1a, hq2a, hq3a, hq4a, hq5a, hq6a, hq7a, hq8a, hq9a, pw_below_drewN (Below.refl _ _) _⟩ | exact ⟨hq0a, hq1a, hq2a, hq3a, hq4a, hq5a, hq6a, hq7a, hq8a, hq9a, Below.refl _ _⟩ | exact ⟨x0, x1, x2, x3, x4, x5, x6, x7, x8, x9, hL2.out.bel⟩ | exact ⟨x0, x1, x2, x3, x4, x5, x6, x7, x8, x9, (hL2.out.below (pw_below_drewN (Below.refl _ _) _)).bel⟩ | exact ⟨y0, y1, y2, y3, y4, y5, y6, y7, y8, y9, hb6⟩ | exact ⟨y0, y1, y2, y3, y4, y5, y6, y7, y8, y9, pw_below_drewN hb6 _⟩) (first
          | (have z_ := hL2; clear z_; go_at_call 11; refine (HFE.out _ _ _ (by first | exact hL2.out | exact hL2.out.below (pw_below_drewN (Below.refl _ _) _))).mono ?_; rintro e w6 ⟨rfl, hb6⟩; have y0 := HQ0.out w6 hb6; have y1 := HQ1.out w6 hb6; have y2 := HQ2.out w6 hb6; have y3 := HQ3.out w6 hb6; have y4 := HQ4.out w6 hb6; have y5 := HQ5.out w6 hb6; have y6 := HQ6.out w6 hb6; have y7 := HQ7.out w6 hb6; have y8 := HQ8.out w6 hb6; have y9 := HQ9.out w6 hb6)
          | (go_at_call 21; refine (HFD.out _ (by first | exact pw_below_drewN (Below.refl _ _) _ | exact Below.refl _ _)).mono ?_; rintro e w5 ⟨g2, gm2, rfl, hl2⟩; have hL2 := Aside0.mk hl2; clear hl2; have x0 := HQ0.out w5 hL2.out.bel; have x1 := HQ1.out w5 hL2.out.bel; have x2 := HQ2.out w5 hL2.out.bel; have x3 := HQ3.out w5 hL2.out.bel; have x4 := HQ4.out w5 hL2.out.bel; have x5 := HQ5.out w5 hL2.out.bel; have x6 := HQ6.out w5 hL2.out.bel; have x7 := HQ7.out w5 hL2.out.bel; have x8 := HQ8.out w5 hL2.out.bel; have x9 := HQ9.out w5 hL2.out.bel))
        all_goals
          go_wp2
          go_roundg (gk - 1)
          case measure => omega
          case rel => exact ⟨10, _, rfl, rfl, by omega, by omega, by omega, by omega, by omega, ⟨by first | exact HXF.out.below hb6 | exact HXF.out.below (pw_below_drewN hb6 _), by have h1 := HCN.out; have h2 := cnt_next X id 6; have h3 : takes X id ((6 + 3 : Nat) : Int) = true := (by unfold takes; show ((feedF X (kev 9 X.last id)).1 == 0) = true; rw [HL.out, HRR.out]; rfl); rw [h3, if_pos rfl] at h2; have h4 : cntF X id ((9 : Int) - 3).toNat = cntF X id 6 := rfl; show ((cntF X id 7 : Nat) : Int) = _; rw [h4] at h1; rw [show (7 : Nat) = 6 + 1 from rfl, h2]; omega⟩⟩
      case neg =>
        have hr1 : (r == 0) = false := by rw [beq_eq_false_iff_ne]; exact hr0
        go_wp2_with (fail)
        go_region_held3 (fun V => V.cell? ⟨q, 0, none⟩ = some (.int .i64 9) ∧ V.cell? ⟨q, 1, none⟩ = some (.int .u64 L) ∧ V.cell? ⟨q, 2, none⟩ = some (.int .u64 id) ∧ V.cell? ⟨q, 3, none⟩ = some (.string ⟨#[97]⟩) ∧ V.cell? ⟨q, 4, none⟩ = some (.string ⟨#[]⟩) ∧ V.cell? ⟨q, 5, none⟩ = some (.string ⟨#[]⟩) ∧ V.cell? ⟨q, 6, none⟩ = some (.string ⟨#[]⟩) ∧ V.cell? ⟨q, 7, none⟩ = some (.int .i64 0) ∧ V.cell? ⟨q, 8, none⟩ = some (.int .i64 0) ∧ V.cell? ⟨q, 9, none⟩ = some (.int .i64 0) ∧ Below Wa1.heap.size Wa1 V) (first | exact ⟨hq0a, hq1a, hq2a, hq3a, hq4a, hq5a, hq6a, hq7a, hq8a, hq9a, pw_below_drewN (Below.refl _ _) _⟩ | exact ⟨hq0a, hq1a, hq2a, hq3a, hq4a, hq5a, hq6a, hq7a, hq8a, hq9a, Below.refl _ _⟩ | exact ⟨x0, x1, x2, x3, x4, x5, x6, x7, x8, x9, hL2.out.bel⟩ | exact ⟨x0, x1, x2, x3, x4, x5, x6, x7, x8, x9, (hL2.out.below (pw_below_drewN (Below.refl _ _) _)).bel⟩ | exact ⟨y0, y1, y2, y3, y4, y5, y6, y7, y8, y9, hb6⟩ | exact ⟨y0, y1, y2, y3, y4, y5, y6, y7, y8, y9, pw_below_drewN hb6 _⟩) (first
          | (have z_ := hL2; clear z_; go_at_call 11; refine (HFE.out _ _ _ (by first | exact hL2.out | exact hL2.out.below (pw_below_drewN (Below.refl _ _) _))).mono ?_; rintro e w6 ⟨rfl, hb6⟩; have y0 := HQ0.out w6 hb6; have y1 := HQ1.out w6 hb6; have y2 := HQ2.out w6 hb6; have y3 := HQ3.out w6 hb6; have y4 := HQ4.out w6 hb6; have y5 := HQ5.out w6 hb6; have y6 := HQ6.out w6 hb6; have y7 := HQ7.out w6 hb6; have y8 := HQ8.out w6 hb6; have y9 := HQ9.out w6 hb6)
          | (go_at_call 21; refine (HFD.out _ (by first | exact pw_below_drewN (Below.refl _ _) _ | exact Below.refl _ _)).mono ?_; rintro e w5 ⟨g2, gm2, rfl, hl2⟩; have hL2 := Aside0.mk hl2; clear hl2; have x0 := HQ0.out w5 hL2.out.bel; have x1 := HQ1.out w5 hL2.out.bel; have x2 := HQ2.out w5 hL2.out.bel; have x3 := HQ3.out w5 hL2.out.bel; have x4 := HQ4.out w5 hL2.out.bel; have x5 := HQ5.out w5 hL2.out.bel; have x6 := HQ6.out w5 hL2.out.bel; have x7 := HQ7.out w5 hL2.out.bel; have x8 := HQ8.out w5 hL2.out.bel; have x9 := HQ9.out w5 hL2.out.bel))
        all_goals
          go_wp2
          go_roundg (gk - 1)
          case measure => omega
          case rel => exact ⟨10, _, rfl, rfl, by omega, by omega, by omega, by omega, by omega, ⟨by first | exact HXF.out.below hb6 | exact HXF.out.below (pw_below_drewN hb6 _), by have h1 := HCN.out; have h2 := cnt_next X id 6; have h3 : takes X id ((6 + 3 : Nat) : Int) = false := (by unfold takes; show ((feedF X (kev 9 X.last id)).1 == 0) = false; rw [HL.out, HRR.out]; exact hr1); rw [h3, if_neg (by decide)] at h2; have h4 : cntF X id ((9 : Int) - 3).toNat = cntF X id 6 := rfl; show ((cntF X id 7 : Nat) : Int) = _; rw [h4] at h1; rw [show (7 : Nat) = 6 + 1 from rfl, h2]; omega⟩⟩
    · obtain ⟨q, hq⟩ : ∃ q, wr.heap.size = q := ⟨_, rfl⟩
      obtain ⟨Wz, hWz⟩ : ∃ W, wr.alloc (.cells #[.int .i64 0, .int .u64 0, .int .u64 0, .string ⟨#[]⟩, .string ⟨#[]⟩, .string ⟨#[]⟩, .string ⟨#[]⟩, .int .i64 0, .int .i64 0, .int .i64 0] 31) = W := ⟨_, rfl⟩
      obtain ⟨Wa0, hWa0⟩ : ∃ W, wr.alloc (.cells #[.int .i64 10, .int .u64 L, .int .u64 id, .string ⟨#[]⟩, .string ⟨#[]⟩, .string ⟨#[]⟩, .string ⟨#[]⟩, .int .i64 0, .int .i64 0, .int .i64 0] 31) = W := ⟨_, rfl⟩
      have hst := store31 wr #[.int .i64 0, .int .u64 0, .int .u64 0, .string ⟨#[]⟩, .string ⟨#[]⟩, .string ⟨#[]⟩, .string ⟨#[]⟩, .int .i64 0, .int .i64 0, .int .i64 0] #[.int .i64 10, .int .u64 L, .int .u64 id, .string ⟨#[]⟩, .string ⟨#[]⟩, .string ⟨#[]⟩, .string ⟨#[]⟩, .int .i64 0, .int .i64 0, .int .i64 0] rfl rfl (by kernel_rfl)
      have hba : Below wr.heap.size wr Wa0 := by rw [← hWa0]; exact below_alloc (Below.refl _ _) _
      have hqa : Wa0.heap[q]? = some (.cells #[.int .i64 10, .int .u64 L, .int .u64 id, .string ⟨#[]⟩, .string ⟨#[]⟩, .string ⟨#[]⟩, .string ⟨#[]⟩, .int .i64 0, .int .i64 0, .int .i64 0] 31 (0, 0)) := by rw [← hWa0, ← hq]; exact blk_new _ _
      rw [hq, hWz, hWa0] at hst
      clear hWa0
      have hst1 := storeI hqa 7 (by simp) 200
      have hqb := blk_set hqa 7 (.int .i64 200)
      have hbb : Below wr.heap.size wr (Wa0.setCell ⟨q, 7, none⟩ (.int .i64 200)) := hba.setCell (by rw [← hq]; exact Nat.le_refl _) _
      obtain ⟨Wa1, hWa1⟩ : ∃ W, Wa0.setCell ⟨q, 7, none⟩ (.int .i64 200) = W := ⟨_, rfl⟩
      rw [hWa1] at hst1 hqb hbb
      clear hqa hba hWa1
      have hqa := hqb
      have hba := hbb
      clear hqb hbb
      have hce : ∀ V, Below Wa1.heap.size Wa1 V → ∀ i, V.cell? ⟨q, i, none⟩ = Wa1.cell? ⟨q, i, none⟩ := fun V hV i => by
        have hlt : q < Wa1.heap.size := blk_lt hqa
        simp [World.cell?, hV.block q hlt]
      have hq0 : ∀ V, Below Wa1.heap.size Wa1 V → V.cell? ⟨q, 0, none⟩ = _ := fun V hV => (hce V hV 0).trans (blk_cell hqa 0)
      have hq1 : ∀ V, Below Wa1.heap.size Wa1 V → V.cell? ⟨q, 1, none⟩ = _ := fun V hV => (hce V hV 1).trans (blk_cell hqa 1)
      have hq2 : ∀ V, Below Wa1.heap.size Wa1 V → V.cell? ⟨q, 2, none⟩ = _ := fun V hV => (hce V hV 2).trans (blk_cell hqa 2)
      have hq3 : ∀ V, Below Wa1.heap.size Wa1 V → V.cell? ⟨q, 3, none⟩ = _ := fun V hV => (hce V hV 3).trans (blk_cell hqa 3)
      have hq4 : ∀ V, Below Wa1.heap.size Wa1 V → V.cell? ⟨q, 4, none⟩ = _ := fun V hV => (hce V hV 4).trans (blk_cell hqa 4)
      have hq5 : ∀ V, Below Wa1.heap.size Wa1 V → V.cell? ⟨q, 5, none⟩ = _ := fun V hV => (hce V hV 5).trans (blk_cell hqa 5)
      have hq6 : ∀ V, Below Wa1.heap.size Wa1 V → V.cell? ⟨q, 6, none⟩ = _ := fun V hV => (hce V hV 6).trans (blk_cell hqa 6)
      have hq7 : ∀ V, Below Wa1.heap.size Wa1 V → V.cell? ⟨q, 7, none⟩ = _ := fun V hV => (hce V hV 7).trans (blk_cell hqa 7)
      have hq8 : ∀ V, Below Wa1.heap.size Wa1 V → V.cell? ⟨q, 8, none⟩ = _ := fun V hV => (hce V hV 8).trans (blk_cell hqa 8)
      have hq9 : ∀ V, Below Wa1.heap.size Wa1 V → V.cell? ⟨q, 9, none⟩ = _ := fun V hV => (hce V hV 9).trans (blk_cell hqa 9)
      have hq0a := hq0 Wa1 (Below.refl _ _)
      have HQ0 := Aside0.mk hq0
      clear hq0
      have hq1a := hq1 Wa1 (Below.refl _ _)
      have HQ1 := Aside0.mk hq1
      clear hq1
      have hq2a := hq2 Wa1 (Below.refl _ _)
      have HQ2 := Aside0.mk hq2
      clear hq2
      have hq3a := hq3 Wa1 (Below.refl _ _)
      have HQ3 := Aside0.mk hq3
      clear hq3
      have hq4a := hq4 Wa1 (Below.refl _ _)
      have HQ4 := Aside0.mk hq4
      clear hq4
      have hq5a := hq5 Wa1 (Below.refl _ _)
      have HQ5 := Aside0.mk hq5
      clear hq5
      have hq6a := hq6 Wa1 (Below.refl _ _)
      have HQ6 := Aside0.mk hq6
      clear hq6
      have hq7a := hq7 Wa1 (Below.refl _ _)
      have HQ7 := Aside0.mk hq7
      clear hq7
      have hq8a := hq8 Wa1 (Below.refl _ _)
      have HQ8 := Aside0.mk hq8
      clear hq8
      have hq9a := hq9 Wa1 (Below.refl _ _)
      have HQ9 := Aside0.mk hq9
      clear hq9
      clear hce
      obtain ⟨r, hr⟩ : ∃ r, (feedF X (kev 10 L id)).1 = r := ⟨_, rfl⟩
      have HRR := Aside0.mk hr
      have HXF := Aside0.mk (HX.out.below hba)
      have HFD : Aside0 (∀ V, Below Wa1.heap.size Wa1 V → Calls Tryd.prog 21 #[.slice A0 zs.length c0] V fun e w' => ∃ g2 gm2, e = .returned (.pointer (some ⟨g2, 0, none⟩)) ∧ Wl Wa1 w' g2 gm2 X) := ⟨fun V hV => (fed_calls A0 c0 zs V (HG.out.below (HXF.out.below hV).bel) (Kd.C_below HCZ.out (HXF.out.below hV).bel) HZW.out HZL.out).mono (by rintro e w' ⟨g2, gm2, rfl, h⟩; exact ⟨g2, gm2, rfl, by rw [HFX.out] at h; exact Wl.up hV h⟩)⟩
      have HFE : Aside0 (∀ V g2 gm2, Wl Wa1 V g2 gm2 X → Calls Tryd.prog 11 #[.pointer (some ⟨g2, 0, none⟩), .agg #[(.int .i64 10), (.int .u64 L), (.int .u64 id), (.string ⟨#[]⟩), (.string ⟨#[]⟩), (.string ⟨#[]⟩), (.string ⟨#[]⟩), (.int .i64 200), (.int .i64 0), (.int .i64 0)]] V fun e w' => e = .returned (.int .i64 r) ∧ Below Wa1.heap.size Wa1 w') := ⟨fun V g2 gm2 h => (feed_calls (kev 10 L id) (HG.out.below (HXF.out.below h.bel).bel) h.ln HID.out).mono (by rintro e w' ⟨rfl, hl, hm⟩; exact ⟨by rw [HRR.out], (h.feed hl hm).bel⟩)⟩
      clear hr hqa hba
      go_wp2_with (fail)
      refine (last_calls HX.out.ln).mono ?_
      rw [HL.out]
      rintro e w3 ⟨rfl, hw3⟩
      subst w3
      by_cases hr0 : r = 0
      case pos =>
        subst hr0
        go_wp2_with (fail)
        go_region_held3 (fun V => V.cell? ⟨q, 0, none⟩ = some (.int .i64 10) ∧ V.cell? ⟨q, 1, none⟩ = some (.int .u64 L) ∧ V.cell? ⟨q, 2, none⟩ = some (.int .u64 id) ∧ V.cell? ⟨q, 3, none⟩ = some (.string ⟨#[]⟩) ∧ V.cell? ⟨q, 4, none⟩ = some (.string ⟨#[]⟩) ∧ V.cell? ⟨q, 5, none⟩ = some (.string ⟨#[]⟩) ∧ V.cell? ⟨q, 6, none⟩ = some (.string ⟨#[]⟩) ∧ V.cell? ⟨q, 7, none⟩ = some (.int .i64 200) ∧ V.cell? ⟨q, 8, none⟩ = some (.int .i64 0) ∧ V.cell? ⟨q, 9, none⟩ = some (.int .i64 0) ∧ Below Wa1.heap.size Wa1 V) (first | exact ⟨hq0a, hq1a, hq2a, hq3a, hq4a, hq5a, hq6a, hq7a, hq8a, hq9a, pw_below_drewN (Below.refl _ _) _⟩ | exact ⟨hq0a, hq1a, hq2a, hq3a, hq4a, hq5a, hq6a, hq7a, hq8a, hq9a, Below.refl _ _⟩ | exact ⟨x0, x1, x2, x3, x4, x5, x6, x7, x8, x9, hL2.out.bel⟩ | exact ⟨x0, x1, x2, x3, x4, x5, x6, x7, x8, x9, (hL2.out.below (pw_below_drewN (Below.refl _ _) _)).bel⟩ | exact ⟨y0, y1, y2, y3, y4, y5, y6, y7, y8, y9, hb6⟩ | exact ⟨y0, y1, y2, y3, y4, y5, y6, y7, y8, y9, pw_below_drewN hb6 _⟩) (first
          | (have z_ := hL2; clear z_; go_at_call 11; refine (HFE.out _ _ _ (by first | exact hL2.out | exact hL2.out.below (pw_below_drewN (Below.refl _ _) _))).mono ?_; rintro e w6 ⟨rfl, hb6⟩; have y0 := HQ0.out w6 hb6; have y1 := HQ1.out w6 hb6; have y2 := HQ2.out w6 hb6; have y3 := HQ3.out w6 hb6; have y4 := HQ4.out w6 hb6; have y5 := HQ5.out w6 hb6; have y6 := HQ6.out w6 hb6; have y7 := HQ7.out w6 hb6; have y8 := HQ8.out w6 hb6; have y9 := HQ9.out w6 hb6)
          | (go_at_call 21; refine (HFD.out _ (by first | exact pw_below_drewN (Below.refl _ _) _ | exact Below.refl _ _)).mono ?_; rintro e w5 ⟨g2, gm2, rfl, hl2⟩; have hL2 := Aside0.mk hl2; clear hl2; have x0 := HQ0.out w5 hL2.out.bel; have x1 := HQ1.out w5 hL2.out.bel; have x2 := HQ2.out w5 hL2.out.bel; have x3 := HQ3.out w5 hL2.out.bel; have x4 := HQ4.out w5 hL2.out.bel; have x5 := HQ5.out w5 hL2.out.bel; have x6 := HQ6.out w5 hL2.out.bel; have x7 := HQ7.out w5 hL2.out.bel; have x8 := HQ8.out w5 hL2.out.bel; have x9 := HQ9.out w5 hL2.out.bel))
        all_goals
          go_wp2
          go_roundg (gk - 1)
          case measure => omega
          case rel => exact ⟨11, _, rfl, rfl, by omega, by omega, by omega, by omega, by omega, ⟨by first | exact HXF.out.below hb6 | exact HXF.out.below (pw_below_drewN hb6 _), by have h1 := HCN.out; have h2 := cnt_next X id 7; have h3 : takes X id ((7 + 3 : Nat) : Int) = true := (by unfold takes; show ((feedF X (kev 10 X.last id)).1 == 0) = true; rw [HL.out, HRR.out]; rfl); rw [h3, if_pos rfl] at h2; have h4 : cntF X id ((10 : Int) - 3).toNat = cntF X id 7 := rfl; show ((cntF X id 8 : Nat) : Int) = _; rw [h4] at h1; rw [show (8 : Nat) = 7 + 1 from rfl, h2]; omega⟩⟩
      case neg =>
        have hr1 : (r == 0) = false := by rw [beq_eq_false_iff_ne]; exact hr0
        go_wp2_with (fail)
        go_region_held3 (fun V => V.cell? ⟨q, 0, none⟩ = some (.int .i64 10) ∧ V.cell? ⟨q, 1, none⟩ = some (.int .u64 L) ∧ V.cell? ⟨q, 2, none⟩ = some (.int .u64 id) ∧ V.cell? ⟨q, 3, none⟩ = some (.string ⟨#[]⟩) ∧ V.cell? ⟨q, 4, none⟩ = some (.string ⟨#[]⟩) ∧ V.cell? ⟨q, 5, none⟩ = some (.string ⟨#[]⟩) ∧ V.cell? ⟨q, 6, none⟩ = some (.string ⟨#[]⟩) ∧ V.cell? ⟨q, 7, none⟩ = some (.int .i64 200) ∧ V.cell? ⟨q, 8, none⟩ = some (.int .i64 0) ∧ V.cell? ⟨q, 9, none⟩ = some (.int .i64 0) ∧ Below Wa1.heap.size Wa1 V) (first | exact ⟨hq0a, hq1a, hq2a, hq3a, hq4a, hq5a, hq6a, hq7a, hq8a, hq9a, pw_below_drewN (Below.refl _ _) _⟩ | exact ⟨hq0a, hq1a, hq2a, hq3a, hq4a, hq5a, hq6a, hq7a, hq8a, hq9a, Below.refl _ _⟩ | exact ⟨x0, x1, x2, x3, x4, x5, x6, x7, x8, x9, hL2.out.bel⟩ | exact ⟨x0, x1, x2, x3, x4, x5, x6, x7, x8, x9, (hL2.out.below (pw_below_drewN (Below.refl _ _) _)).bel⟩ | exact ⟨y0, y1, y2, y3, y4, y5, y6, y7, y8, y9, hb6⟩ | exact ⟨y0, y1, y2, y3, y4, y5, y6, y7, y8, y9, pw_below_drewN hb6 _⟩) (first
          | (have z_ := hL2; clear z_; go_at_call 11; refine (HFE.out _ _ _ (by first | exact hL2.out | exact hL2.out.below (pw_below_drewN (Below.refl _ _) _))).mono ?_; rintro e w6 ⟨rfl, hb6⟩; have y0 := HQ0.out w6 hb6; have y1 := HQ1.out w6 hb6; have y2 := HQ2.out w6 hb6; have y3 := HQ3.out w6 hb6; have y4 := HQ4.out w6 hb6; have y5 := HQ5.out w6 hb6; have y6 := HQ6.out w6 hb6; have y7 := HQ7.out w6 hb6; have y8 := HQ8.out w6 hb6; have y9 := HQ9.out w6 hb6)
          | (go_at_call 21; refine (HFD.out _ (by first | exact pw_below_drewN (Below.refl _ _) _ | exact Below.refl _ _)).mono ?_; rintro e w5 ⟨g2, gm2, rfl, hl2⟩; have hL2 := Aside0.mk hl2; clear hl2; have x0 := HQ0.out w5 hL2.out.bel; have x1 := HQ1.out w5 hL2.out.bel; have x2 := HQ2.out w5 hL2.out.bel; have x3 := HQ3.out w5 hL2.out.bel; have x4 := HQ4.out w5 hL2.out.bel; have x5 := HQ5.out w5 hL2.out.bel; have x6 := HQ6.out w5 hL2.out.bel; have x7 := HQ7.out w5 hL2.out.bel; have x8 := HQ8.out w5 hL2.out.bel; have x9 := HQ9.out w5 hL2.out.bel))
        all_goals
          go_wp2
          go_roundg (gk - 1)
          case measure => omega
          case rel => exact ⟨11, _, rfl, rfl, by omega, by omega, by omega, by omega, by omega, ⟨by first | exact HXF.out.below hb6 | exact HXF.out.below (pw_below_drewN hb6 _), by have h1 := HCN.out; have h2 := cnt_next X id 7; have h3 : takes X id ((7 + 3 : Nat) : Int) = false := (by unfold takes; show ((feedF X (kev 10 X.last id)).1 == 0) = false; rw [HL.out, HRR.out]; exact hr1); rw [h3, if_neg (by decide)] at h2; have h4 : cntF X id ((10 : Int) - 3).toNat = cntF X id 7 := rfl; show ((cntF X id 8 : Nat) : Int) = _; rw [h4] at h1; rw [show (8 : Nat) = 7 + 1 from rfl, h2]; omega⟩⟩
    · obtain ⟨q, hq⟩ : ∃ q, wr.heap.size = q := ⟨_, rfl⟩
      obtain ⟨Wz, hWz⟩ : ∃ W, wr.alloc (.cells #[.int .i64 0, .int .u64 0, .int .u64 0, .string ⟨#[]⟩, .string ⟨#[]⟩, .string ⟨#[]⟩, .string ⟨#[]⟩, .int .i64 0, .int .i64 0, .int .i64 0] 31) = W := ⟨_, rfl⟩
      obtain ⟨Wa0, hWa0⟩ : ∃ W, wr.alloc (.cells #[.int .i64 11, .int .u64 L, .int .u64 id, .string ⟨#[]⟩, .string ⟨#[]⟩, .string ⟨#[]⟩, .string ⟨#[]⟩, .int .i64 0, .int .i64 0, .int .i64 0] 31) = W := ⟨_, rfl⟩
      have hst := store31 wr #[.int .i64 0, .int .u64 0, .int .u64 0, .string ⟨#[]⟩, .string ⟨#[]⟩, .string ⟨#[]⟩, .string ⟨#[]⟩, .int .i64 0, .int .i64 0, .int .i64 0] #[.int .i64 11, .int .u64 L, .int .u64 id, .string ⟨#[]⟩, .string ⟨#[]⟩, .string ⟨#[]⟩, .string ⟨#[]⟩, .int .i64 0, .int .i64 0, .int .i64 0] rfl rfl (by kernel_rfl)
      have hba : Below wr.heap.size wr Wa0 := by rw [← hWa0]; exact below_alloc (Below.refl _ _) _
      have hqa : Wa0.heap[q]? = some (.cells #[.int .i64 11, .int .u64 L, .int .u64 id, .string ⟨#[]⟩, .string ⟨#[]⟩, .string ⟨#[]⟩, .string ⟨#[]⟩, .int .i64 0, .int .i64 0, .int .i64 0] 31 (0, 0)) := by rw [← hWa0, ← hq]; exact blk_new _ _
      rw [hq, hWz, hWa0] at hst
      clear hWa0
      have hst1 := storeS hqa 3 (by simp) ⟨#[104, 116, 116, 112, 115, 58, 47, 47, 97, 46, 101, 120, 97, 109, 112, 108, 101, 47]⟩
      have hqb := blk_set hqa 3 (.string ⟨#[104, 116, 116, 112, 115, 58, 47, 47, 97, 46, 101, 120, 97, 109, 112, 108, 101, 47]⟩)
      have hbb : Below wr.heap.size wr (Wa0.setCell ⟨q, 3, none⟩ (.string ⟨#[104, 116, 116, 112, 115, 58, 47, 47, 97, 46, 101, 120, 97, 109, 112, 108, 101, 47]⟩)) := hba.setCell (by rw [← hq]; exact Nat.le_refl _) _
      obtain ⟨Wa1, hWa1⟩ : ∃ W, Wa0.setCell ⟨q, 3, none⟩ (.string ⟨#[104, 116, 116, 112, 115, 58, 47, 47, 97, 46, 101, 120, 97, 109, 112, 108, 101, 47]⟩) = W := ⟨_, rfl⟩
      rw [hWa1] at hst1 hqb hbb
      clear hqa hba hWa1
      have hqa := hqb
      have hba := hbb
      clear hqb hbb
      have hce : ∀ V, Below Wa1.heap.size Wa1 V → ∀ i, V.cell? ⟨q, i, none⟩ = Wa1.cell? ⟨q, i, none⟩ := fun V hV i => by
        have hlt : q < Wa1.heap.size := blk_lt hqa
        simp [World.cell?, hV.block q hlt]
      have hq0 : ∀ V, Below Wa1.heap.size Wa1 V → V.cell? ⟨q, 0, none⟩ = _ := fun V hV => (hce V hV 0).trans (blk_cell hqa 0)
      have hq1 : ∀ V, Below Wa1.heap.size Wa1 V → V.cell? ⟨q, 1, none⟩ = _ := fun V hV => (hce V hV 1).trans (blk_cell hqa 1)
      have hq2 : ∀ V, Below Wa1.heap.size Wa1 V → V.cell? ⟨q, 2, none⟩ = _ := fun V hV => (hce V hV 2).trans (blk_cell hqa 2)
      have hq3 : ∀ V, Below Wa1.heap.size Wa1 V → V.cell? ⟨q, 3, none⟩ = _ := fun V hV => (hce V hV 3).trans (blk_cell hqa 3)
      have hq4 : ∀ V, Below Wa1.heap.size Wa1 V → V.cell? ⟨q, 4, none⟩ = _ := fun V hV => (hce V hV 4).trans (blk_cell hqa 4)
      have hq5 : ∀ V, Below Wa1.heap.size Wa1 V → V.cell? ⟨q, 5, none⟩ = _ := fun V hV => (hce V hV 5).trans (blk_cell hqa 5)
      have hq6 : ∀ V, Below Wa1.heap.size Wa1 V → V.cell? ⟨q, 6, none⟩ = _ := fun V hV => (hce V hV 6).trans (blk_cell hqa 6)
      have hq7 : ∀ V, Below Wa1.heap.size Wa1 V → V.cell? ⟨q, 7, none⟩ = _ := fun V hV => (hce V hV 7).trans (blk_cell hqa 7)
      have hq8 : ∀ V, Below Wa1.heap.size Wa1 V → V.cell? ⟨q, 8, none⟩ = _ := fun V hV => (hce V hV 8).trans (blk_cell hqa 8)
      have hq9 : ∀ V, Below Wa1.heap.size Wa1 V → V.cell? ⟨q, 9, none⟩ = _ := fun V hV => (hce V hV 9).trans (blk_cell hqa 9)
      have hq0a := hq0 Wa1 (Below.refl _ _)
      have HQ0 := Aside0.mk hq0
      clear hq0
      have hq1a := hq1 Wa1 (Below.refl _ _)
      have HQ1 := Aside0.mk hq1
      clear hq1
      have hq2a := hq2 Wa1 (Below.refl _ _)
      have HQ2 := Aside0.mk hq2
      clear hq2
      have hq3a := hq3 Wa1 (Below.refl _ _)
      have HQ3 := Aside0.mk hq3
      clear hq3
      have hq4a := hq4 Wa1 (Below.refl _ _)
      have HQ4 := Aside0.mk hq4
      clear hq4
      have hq5a := hq5 Wa1 (Below.refl _ _)
      have HQ5 := Aside0.mk hq5
      clear hq5
      have hq6a := hq6 Wa1 (Below.refl _ _)
      have HQ6 := Aside0.mk hq6
      clear hq6
      have hq7a := hq7 Wa1 (Below.refl _ _)
      have HQ7 := Aside0.mk hq7
      clear hq7
      have hq8a := hq8 Wa1 (Below.refl _ _)
      have HQ8 := Aside0.mk hq8
      clear hq8
      have hq9a := hq9 Wa1 (Below.refl _ _)
      have HQ9 := Aside0.mk hq9
      clear hq9
      clear hce
      obtain ⟨r, hr⟩ : ∃ r, (feedF X (kev 11 L id)).1 = r := ⟨_, rfl⟩
      have HRR := Aside0.mk hr
      have HXF := Aside0.mk (HX.out.below hba)
      have HFD : Aside0 (∀ V, Below Wa1.heap.size Wa1 V → Calls Tryd.prog 21 #[.slice A0 zs.length c0] V fun e w' => ∃ g2 gm2, e = .returned (.pointer (some ⟨g2, 0, none⟩)) ∧ Wl Wa1 w' g2 gm2 X) := ⟨fun V hV => (fed_calls A0 c0 zs V (HG.out.below (HXF.out.below hV).bel) (Kd.C_below HCZ.out (HXF.out.below hV).bel) HZW.out HZL.out).mono (by rintro e w' ⟨g2, gm2, rfl, h⟩; exact ⟨g2, gm2, rfl, by rw [HFX.out] at h; exact Wl.up hV h⟩)⟩
      have HFE : Aside0 (∀ V g2 gm2, Wl Wa1 V g2 gm2 X → Calls Tryd.prog 11 #[.pointer (some ⟨g2, 0, none⟩), .agg #[(.int .i64 11), (.int .u64 L), (.int .u64 id), (.string ⟨#[104, 116, 116, 112, 115, 58, 47, 47, 97, 46, 101, 120, 97, 109, 112, 108, 101, 47]⟩), (.string ⟨#[]⟩), (.string ⟨#[]⟩), (.string ⟨#[]⟩), (.int .i64 0), (.int .i64 0), (.int .i64 0)]] V fun e w' => e = .returned (.int .i64 r) ∧ Below Wa1.heap.size Wa1 w') := ⟨fun V g2 gm2 h => (feed_calls (kev 11 L id) (HG.out.below (HXF.out.below h.bel).bel) h.ln HID.out).mono (by rintro e w' ⟨rfl, hl, hm⟩; exact ⟨by rw [HRR.out], (h.feed hl hm).bel⟩)⟩
      clear hr hqa hba
      go_wp2_with (fail)
      refine (last_calls HX.out.ln).mono ?_
      rw [HL.out]
      rintro e w3 ⟨rfl, hw3⟩
      subst w3
      by_cases hr0 : r = 0
      case pos =>
        subst hr0
        go_wp2_with (fail)
        go_region_held3 (fun V => V.cell? ⟨q, 0, none⟩ = some (.int .i64 11) ∧ V.cell? ⟨q, 1, none⟩ = some (.int .u64 L) ∧ V.cell? ⟨q, 2, none⟩ = some (.int .u64 id) ∧ V.cell? ⟨q, 3, none⟩ = some (.string ⟨#[104, 116, 116, 112, 115, 58, 47, 47, 97, 46, 101, 120, 97, 109, 112, 108, 101, 47]⟩) ∧ V.cell? ⟨q, 4, none⟩ = some (.string ⟨#[]⟩) ∧ V.cell? ⟨q, 5, none⟩ = some (.string ⟨#[]⟩) ∧ V.cell? ⟨q, 6, none⟩ = some (.string ⟨#[]⟩) ∧ V.cell? ⟨q, 7, none⟩ = some (.int .i64 0) ∧ V.cell? ⟨q, 8, none⟩ = some (.int .i64 0) ∧ V.cell? ⟨q, 9, none⟩ = some (.int .i64 0) ∧ Below Wa1.heap.size Wa1 V) (first | exact ⟨hq0a, hq1a, hq2a, hq3a, hq4a, hq5a, hq6a, hq7a, hq8a, hq9a, pw_below_drewN (Below.refl _ _) _⟩ | exact ⟨hq0a, hq1a, hq2a, hq3a, hq4a, hq5a, hq6a, hq7a, hq8a, hq9a, Below.refl _ _⟩ | exact ⟨x0, x1, x2, x3, x4, x5, x6, x7, x8, x9, hL2.out.bel⟩ | exact ⟨x0, x1, x2, x3, x4, x5, x6, x7, x8, x9, (hL2.out.below (pw_below_drewN (Below.refl _ _) _)).bel⟩ | exact ⟨y0, y1, y2, y3, y4, y5, y6, y7, y8, y9, hb6⟩ | exact ⟨y0, y1, y2, y3, y4, y5, y6, y7, y8, y9, pw_below_drewN hb6 _⟩) (first
          | (have z_ := hL2; clear z_; go_at_call 11; refine (HFE.out _ _ _ (by first | exact hL2.out | exact hL2.out.below (pw_below_drewN (Below.refl _ _) _))).mono ?_; rintro e w6 ⟨rfl, hb6⟩; have y0 := HQ0.out w6 hb6; have y1 := HQ1.out w6 hb6; have y2 := HQ2.out w6 hb6; have y3 := HQ3.out w6 hb6; have y4 := HQ4.out w6 hb6; have y5 := HQ5.out w6 hb6; have y6 := HQ6.out w6 hb6; have y7 := HQ7.out w6 hb6; have y8 := HQ8.out w6 hb6; have y9 := HQ9.out w6 hb6)
          | (go_at_call 21; refine (HFD.out _ (by first | exact pw_below_drewN (Below.refl _ _) _ | exact Below.refl _ _)).mono ?_; rintro e w5 ⟨g2, gm2, rfl, hl2⟩; have hL2 := Aside0.mk hl2; clear hl2; have x0 := HQ0.out w5 hL2.out.bel; have x1 := HQ1.out w5 hL2.out.bel; have x2 := HQ2.out w5 hL2.out.bel; have x3 := HQ3.out w5 hL2.out.bel; have x4 := HQ4.out w5 hL2.out.bel; have x5 := HQ5.out w5 hL2.out.bel; have x6 := HQ6.out w5 hL2.out.bel; have x7 := HQ7.out w5 hL2.out.bel; have x8 := HQ8.out w5 hL2.out.bel; have x9 := HQ9.out w5 hL2.out.bel))
        all_goals
          go_wp2
          go_roundg (gk - 1)
          case measure => omega
          case rel => exact ⟨12, _, rfl, rfl, by omega, by omega, by omega, by omega, by omega, ⟨by first | exact HXF.out.below hb6 | exact HXF.out.below (pw_below_drewN hb6 _), by have h1 := HCN.out; have h2 := cnt_next X id 8; have h3 : takes X id ((8 + 3 : Nat) : Int) = true := (by unfold takes; show ((feedF X (kev 11 X.last id)).1 == 0) = true; rw [HL.out, HRR.out]; rfl); rw [h3, if_pos rfl] at h2; have h4 : cntF X id ((11 : Int) - 3).toNat = cntF X id 8 := rfl; show ((cntF X id 9 : Nat) : Int) = _; rw [h4] at h1; rw [show (9 : Nat) = 8 + 1 from rfl, h2]; omega⟩⟩
      case neg =>
        have hr1 : (r == 0) = false := by rw [beq_eq_false_iff_ne]; exact hr0
        go_wp2_with (fail)
        go_region_held3 (fun V => V.cell? ⟨q, 0, none⟩ = some (.int .i64 11) ∧ V.cell? ⟨q, 1, none⟩ = some (.int .u64 L) ∧ V.cell? ⟨q, 2, none⟩ = some (.int .u64 id) ∧ V.cell? ⟨q, 3, none⟩ = some (.string ⟨#[104, 116, 116, 112, 115, 58, 47, 47, 97, 46, 101, 120, 97, 109, 112, 108, 101, 47]⟩) ∧ V.cell? ⟨q, 4, none⟩ = some (.string ⟨#[]⟩) ∧ V.cell? ⟨q, 5, none⟩ = some (.string ⟨#[]⟩) ∧ V.cell? ⟨q, 6, none⟩ = some (.string ⟨#[]⟩) ∧ V.cell? ⟨q, 7, none⟩ = some (.int .i64 0) ∧ V.cell? ⟨q, 8, none⟩ = some (.int .i64 0) ∧ V.cell? ⟨q, 9, none⟩ = some (.int .i64 0) ∧ Below Wa1.heap.size Wa1 V) (first | exact ⟨hq0a, hq1a, hq2a, hq3a, hq4a, hq5a, hq6a, hq7a, hq8a, hq9a, pw_below_drewN (Below.refl _ _) _⟩ | exact ⟨hq0a, hq1a, hq2a, hq3a, hq4a, hq5a, hq6a, hq7a, hq8a, hq9a, Below.refl _ _⟩ | exact ⟨x0, x1, x2, x3, x4, x5, x6, x7, x8, x9, hL2.out.bel⟩ | exact ⟨x0, x1, x2, x3, x4, x5, x6, x7, x8, x9, (hL2.out.below (pw_below_drewN (Below.refl _ _) _)).bel⟩ | exact ⟨y0, y1, y2, y3, y4, y5, y6, y7, y8, y9, hb6⟩ | exact ⟨y0, y1, y2, y3, y4, y5, y6, y7, y8, y9, pw_below_drewN hb6 _⟩) (first
          | (have z_ := hL2; clear z_; go_at_call 11; refine (HFE.out _ _ _ (by first | exact hL2.out | exact hL2.out.below (pw_below_drewN (Below.refl _ _) _))).mono ?_; rintro e w6 ⟨rfl, hb6⟩; have y0 := HQ0.out w6 hb6; have y1 := HQ1.out w6 hb6; have y2 := HQ2.out w6 hb6; have y3 := HQ3.out w6 hb6; have y4 := HQ4.out w6 hb6; have y5 := HQ5.out w6 hb6; have y6 := HQ6.out w6 hb6; have y7 := HQ7.out w6 hb6; have y8 := HQ8.out w6 hb6; have y9 := HQ9.out w6 hb6)
          | (go_at_call 21; refine (HFD.out _ (by first | exact pw_below_drewN (Below.refl _ _) _ | exact Below.refl _ _)).mono ?_; rintro e w5 ⟨g2, gm2, rfl, hl2⟩; have hL2 := Aside0.mk hl2; clear hl2; have x0 := HQ0.out w5 hL2.out.bel; have x1 := HQ1.out w5 hL2.out.bel; have x2 := HQ2.out w5 hL2.out.bel; have x3 := HQ3.out w5 hL2.out.bel; have x4 := HQ4.out w5 hL2.out.bel; have x5 := HQ5.out w5 hL2.out.bel; have x6 := HQ6.out w5 hL2.out.bel; have x7 := HQ7.out w5 hL2.out.bel; have x8 := HQ8.out w5 hL2.out.bel; have x9 := HQ9.out w5 hL2.out.bel))
        all_goals
          go_wp2
          go_roundg (gk - 1)
          case measure => omega
          case rel => exact ⟨12, _, rfl, rfl, by omega, by omega, by omega, by omega, by omega, ⟨by first | exact HXF.out.below hb6 | exact HXF.out.below (pw_below_drewN hb6 _), by have h1 := HCN.out; have h2 := cnt_next X id 8; have h3 : takes X id ((8 + 3 : Nat) : Int) = false := (by unfold takes; show ((feedF X (kev 11 X.last id)).1 == 0) = false; rw [HL.out, HRR.out]; exact hr1); rw [h3, if_neg (by decide)] at h2; have h4 : cntF X id ((11 : Int) - 3).toNat = cntF X id 8 := rfl; show ((cntF X id 9 : Nat) : Int) = _; rw [h4] at h1; rw [show (9 : Nat) = 8 + 1 from rfl, h2]; omega⟩⟩
    · obtain ⟨q, hq⟩ : ∃ q, wr.heap.size = q := ⟨_, rfl⟩
      obtain ⟨Wz, hWz⟩ : ∃ W, wr.alloc (.cells #[.int .i64 0, .int .u64 0, .int .u64 0, .string ⟨#[]⟩, .string ⟨#[]⟩, .string ⟨#[]⟩, .string ⟨#[]⟩, .int .i64 0, .int .i64 0, .int .i64 0] 31) = W := ⟨_, rfl⟩
      obtain ⟨Wa0, hWa0⟩ : ∃ W, wr.alloc (.cells #[.int .i64 12, .int .u64 L, .int .u64 id, .string ⟨#[]⟩, .string ⟨#[]⟩, .string ⟨#[]⟩, .string ⟨#[]⟩, .int .i64 0, .int .i64 0, .int .i64 0] 31) = W := ⟨_, rfl⟩
      have hst := store31 wr #[.int .i64 0, .int .u64 0, .int .u64 0, .string ⟨#[]⟩, .string ⟨#[]⟩, .string ⟨#[]⟩, .string ⟨#[]⟩, .int .i64 0, .int .i64 0, .int .i64 0] #[.int .i64 12, .int .u64 L, .int .u64 id, .string ⟨#[]⟩, .string ⟨#[]⟩, .string ⟨#[]⟩, .string ⟨#[]⟩, .int .i64 0, .int .i64 0, .int .i64 0] rfl rfl (by kernel_rfl)
      have hba : Below wr.heap.size wr Wa0 := by rw [← hWa0]; exact below_alloc (Below.refl _ _) _
      have hqa : Wa0.heap[q]? = some (.cells #[.int .i64 12, .int .u64 L, .int .u64 id, .string ⟨#[]⟩, .string ⟨#[]⟩, .string ⟨#[]⟩, .string ⟨#[]⟩, .int .i64 0, .int .i64 0, .int .i64 0] 31 (0, 0)) := by rw [← hWa0, ← hq]; exact blk_new _ _
      rw [hq, hWz, hWa0] at hst
      clear hWa0
      have hst1 := storeS hqa 3 (by simp) ⟨#[97]⟩
      have hqb := blk_set hqa 3 (.string ⟨#[97]⟩)
      have hbb : Below wr.heap.size wr (Wa0.setCell ⟨q, 3, none⟩ (.string ⟨#[97]⟩)) := hba.setCell (by rw [← hq]; exact Nat.le_refl _) _
      obtain ⟨Wa1, hWa1⟩ : ∃ W, Wa0.setCell ⟨q, 3, none⟩ (.string ⟨#[97]⟩) = W := ⟨_, rfl⟩
      rw [hWa1] at hst1 hqb hbb
      clear hqa hba hWa1
      have hqa := hqb
      have hba := hbb
      clear hqb hbb
      have hce : ∀ V, Below Wa1.heap.size Wa1 V → ∀ i, V.cell? ⟨q, i, none⟩ = Wa1.cell? ⟨q, i, none⟩ := fun V hV i => by
        have hlt : q < Wa1.heap.size := blk_lt hqa
        simp [World.cell?, hV.block q hlt]
      have hq0 : ∀ V, Below Wa1.heap.size Wa1 V → V.cell? ⟨q, 0, none⟩ = _ := fun V hV => (hce V hV 0).trans (blk_cell hqa 0)
      have hq1 : ∀ V, Below Wa1.heap.size Wa1 V → V.cell? ⟨q, 1, none⟩ = _ := fun V hV => (hce V hV 1).trans (blk_cell hqa 1)
      have hq2 : ∀ V, Below Wa1.heap.size Wa1 V → V.cell? ⟨q, 2, none⟩ = _ := fun V hV => (hce V hV 2).trans (blk_cell hqa 2)
      have hq3 : ∀ V, Below Wa1.heap.size Wa1 V → V.cell? ⟨q, 3, none⟩ = _ := fun V hV => (hce V hV 3).trans (blk_cell hqa 3)
      have hq4 : ∀ V, Below Wa1.heap.size Wa1 V → V.cell? ⟨q, 4, none⟩ = _ := fun V hV => (hce V hV 4).trans (blk_cell hqa 4)
      have hq5 : ∀ V, Below Wa1.heap.size Wa1 V → V.cell? ⟨q, 5, none⟩ = _ := fun V hV => (hce V hV 5).trans (blk_cell hqa 5)
      have hq6 : ∀ V, Below Wa1.heap.size Wa1 V → V.cell? ⟨q, 6, none⟩ = _ := fun V hV => (hce V hV 6).trans (blk_cell hqa 6)
      have hq7 : ∀ V, Below Wa1.heap.size Wa1 V → V.cell? ⟨q, 7, none⟩ = _ := fun V hV => (hce V hV 7).trans (blk_cell hqa 7)
      have hq8 : ∀ V, Below Wa1.heap.size Wa1 V → V.cell? ⟨q, 8, none⟩ = _ := fun V hV => (hce V hV 8).trans (blk_cell hqa 8)
      have hq9 : ∀ V, Below Wa1.heap.size Wa1 V → V.cell? ⟨q, 9, none⟩ = _ := fun V hV => (hce V hV 9).trans (blk_cell hqa 9)
      have hq0a := hq0 Wa1 (Below.refl _ _)
      have HQ0 := Aside0.mk hq0
      clear hq0
      have hq1a := hq1 Wa1 (Below.refl _ _)
      have HQ1 := Aside0.mk hq1
      clear hq1
      have hq2a := hq2 Wa1 (Below.refl _ _)
      have HQ2 := Aside0.mk hq2
      clear hq2
      have hq3a := hq3 Wa1 (Below.refl _ _)
      have HQ3 := Aside0.mk hq3
      clear hq3
      have hq4a := hq4 Wa1 (Below.refl _ _)
      have HQ4 := Aside0.mk hq4
      clear hq4
      have hq5a := hq5 Wa1 (Below.refl _ _)
      have HQ5 := Aside0.mk hq5
      clear hq5
      have hq6a := hq6 Wa1 (Below.refl _ _)
      have HQ6 := Aside0.mk hq6
      clear hq6
      have hq7a := hq7 Wa1 (Below.refl _ _)
      have HQ7 := Aside0.mk hq7
      clear hq7
      have hq8a := hq8 Wa1 (Below.refl _ _)
      have HQ8 := Aside0.mk hq8
      clear hq8
      have hq9a := hq9 Wa1 (Below.refl _ _)
      have HQ9 := Aside0.mk hq9
      clear hq9
      clear hce
      obtain ⟨r, hr⟩ : ∃ r, (feedF X (kev 12 L id)).1 = r := ⟨_, rfl⟩
      have HRR := Aside0.mk hr
      have HXF := Aside0.mk (HX.out.below hba)
      have HFD : Aside0 (∀ V, Below Wa1.heap.size Wa1 V → Calls Tryd.prog 21 #[.slice A0 zs.length c0] V fun e w' => ∃ g2 gm2, e = .returned (.pointer (some ⟨g2, 0, none⟩)) ∧ Wl Wa1 w' g2 gm2 X) := ⟨fun V hV => (fed_calls A0 c0 zs V (HG.out.below (HXF.out.below hV).bel) (Kd.C_below HCZ.out (HXF.out.below hV).bel) HZW.out HZL.out).mono (by rintro e w' ⟨g2, gm2, rfl, h⟩; exact ⟨g2, gm2, rfl, by rw [HFX.out] at h; exact Wl.up hV h⟩)⟩
      have HFE : Aside0 (∀ V g2 gm2, Wl Wa1 V g2 gm2 X → Calls Tryd.prog 11 #[.pointer (some ⟨g2, 0, none⟩), .agg #[(.int .i64 12), (.int .u64 L), (.int .u64 id), (.string ⟨#[97]⟩), (.string ⟨#[]⟩), (.string ⟨#[]⟩), (.string ⟨#[]⟩), (.int .i64 0), (.int .i64 0), (.int .i64 0)]] V fun e w' => e = .returned (.int .i64 r) ∧ Below Wa1.heap.size Wa1 w') := ⟨fun V g2 gm2 h => (feed_calls (kev 12 L id) (HG.out.below (HXF.out.below h.bel).bel) h.ln HID.out).mono (by rintro e w' ⟨rfl, hl, hm⟩; exact ⟨by rw [HRR.out], (h.feed hl hm).bel⟩)⟩
      clear hr hqa hba
      go_wp2_with (fail)
      refine (last_calls HX.out.ln).mono ?_
      rw [HL.out]
      rintro e w3 ⟨rfl, hw3⟩
      subst w3
      by_cases hr0 : r = 0
      case pos =>
        subst hr0
        go_wp2_with (fail)
        go_region_held3 (fun V => V.cell? ⟨q, 0, none⟩ = some (.int .i64 12) ∧ V.cell? ⟨q, 1, none⟩ = some (.int .u64 L) ∧ V.cell? ⟨q, 2, none⟩ = some (.int .u64 id) ∧ V.cell? ⟨q, 3, none⟩ = some (.string ⟨#[97]⟩) ∧ V.cell? ⟨q, 4, none⟩ = some (.string ⟨#[]⟩) ∧ V.cell? ⟨q, 5, none⟩ = some (.string ⟨#[]⟩) ∧ V.cell? ⟨q, 6, none⟩ = some (.string ⟨#[]⟩) ∧ V.cell? ⟨q, 7, none⟩ = some (.int .i64 0) ∧ V.cell? ⟨q, 8, none⟩ = some (.int .i64 0) ∧ V.cell? ⟨q, 9, none⟩ = some (.int .i64 0) ∧ Below Wa1.heap.size Wa1 V) (first | exact ⟨hq0a, hq1a, hq2a, hq3a, hq4a, hq5a, hq6a, hq7a, hq8a, hq9a, pw_below_drewN (Below.refl _ _) _⟩ | exact ⟨hq0a, hq1a, hq2a, hq3a, hq4a, hq5a, hq6a, hq7a, hq8a, hq9a, Below.refl _ _⟩ | exact ⟨x0, x1, x2, x3, x4, x5, x6, x7, x8, x9, hL2.out.bel⟩ | exact ⟨x0, x1, x2, x3, x4, x5, x6, x7, x8, x9, (hL2.out.below (pw_below_drewN (Below.refl _ _) _)).bel⟩ | exact ⟨y0, y1, y2, y3, y4, y5, y6, y7, y8, y9, hb6⟩ | exact ⟨y0, y1, y2, y3, y4, y5, y6, y7, y8, y9, pw_below_drewN hb6 _⟩) (first
          | (have z_ := hL2; clear z_; go_at_call 11; refine (HFE.out _ _ _ (by first | exact hL2.out | exact hL2.out.below (pw_below_drewN (Below.refl _ _) _))).mono ?_; rintro e w6 ⟨rfl, hb6⟩; have y0 := HQ0.out w6 hb6; have y1 := HQ1.out w6 hb6; have y2 := HQ2.out w6 hb6; have y3 := HQ3.out w6 hb6; have y4 := HQ4.out w6 hb6; have y5 := HQ5.out w6 hb6; have y6 := HQ6.out w6 hb6; have y7 := HQ7.out w6 hb6; have y8 := HQ8.out w6 hb6; have y9 := HQ9.out w6 hb6)
          | (go_at_call 21; refine (HFD.out _ (by first | exact pw_below_drewN (Below.refl _ _) _ | exact Below.refl _ _)).mono ?_; rintro e w5 ⟨g2, gm2, rfl, hl2⟩; have hL2 := Aside0.mk hl2; clear hl2; have x0 := HQ0.out w5 hL2.out.bel; have x1 := HQ1.out w5 hL2.out.bel; have x2 := HQ2.out w5 hL2.out.bel; have x3 := HQ3.out w5 hL2.out.bel; have x4 := HQ4.out w5 hL2.out.bel; have x5 := HQ5.out w5 hL2.out.bel; have x6 := HQ6.out w5 hL2.out.bel; have x7 := HQ7.out w5 hL2.out.bel; have x8 := HQ8.out w5 hL2.out.bel; have x9 := HQ9.out w5 hL2.out.bel))
        all_goals
          go_wp2
          go_roundg (gk - 1)
          case measure => omega
          case rel => exact ⟨13, _, rfl, rfl, by omega, by omega, by omega, by omega, by omega, ⟨by first | exact HXF.out.below hb6 | exact HXF.out.below (pw_below_drewN hb6 _), by have h1 := HCN.out; have h2 := cnt_next X id 9; have h3 : takes X id ((9 + 3 : Nat) : Int) = true := (by unfold takes; show ((feedF X (kev 12 X.last id)).1 == 0) = true; rw [HL.out, HRR.out]; rfl); rw [h3, if_pos rfl] at h2; have h4 : cntF X id ((12 : Int) - 3).toNat = cntF X id 9 := rfl; show ((cntF X id 10 : Nat) : Int) = _; rw [h4] at h1; rw [show (10 : Nat) = 9 + 1 from rfl, h2]; omega⟩⟩
      case neg =>
        have hr1 : (r == 0) = false := by rw [beq_eq_false_iff_ne]; exact hr0
        go_wp2_with (fail)
        go_region_held3 (fun V => V.cell? ⟨q, 0, none⟩ = some (.int .i64 12) ∧ V.cell? ⟨q, 1, none⟩ = some (.int .u64 L) ∧ V.cell? ⟨q, 2, none⟩ = some (.int .u64 id) ∧ V.cell? ⟨q, 3, none⟩ = some (.string ⟨#[97]⟩) ∧ V.cell? ⟨q, 4, none⟩ = some (.string ⟨#[]⟩) ∧ V.cell? ⟨q, 5, none⟩ = some (.string ⟨#[]⟩) ∧ V.cell? ⟨q, 6, none⟩ = some (.string ⟨#[]⟩) ∧ V.cell? ⟨q, 7, none⟩ = some (.int .i64 0) ∧ V.cell? ⟨q, 8, none⟩ = some (.int .i64 0) ∧ V.cell? ⟨q, 9, none⟩ = some (.int .i64 0) ∧ Below Wa1.heap.size Wa1 V) (first | exact ⟨hq0a, hq1a, hq2a, hq3a, hq4a, hq5a, hq6a, hq7a, hq8a, hq9a, pw_below_drewN (Below.refl _ _) _⟩ | exact ⟨hq0a, hq1a, hq2a, hq3a, hq4a, hq5a, hq6a, hq7a, hq8a, hq9a, Below.refl _ _⟩ | exact ⟨x0, x1, x2, x3, x4, x5, x6, x7, x8, x9, hL2.out.bel⟩ | exact ⟨x0, x1, x2, x3, x4, x5, x6, x7, x8, x9, (hL2.out.below (pw_below_drewN (Below.refl _ _) _)).bel⟩ | exact ⟨y0, y1, y2, y3, y4, y5, y6, y7, y8, y9, hb6⟩ | exact ⟨y0, y1, y2, y3, y4, y5, y6, y7, y8, y9, pw_below_drewN hb6 _⟩) (first
          | (have z_ := hL2; clear z_; go_at_call 11; refine (HFE.out _ _ _ (by first | exact hL2.out | exact hL2.out.below (pw_below_drewN (Below.refl _ _) _))).mono ?_; rintro e w6 ⟨rfl, hb6⟩; have y0 := HQ0.out w6 hb6; have y1 := HQ1.out w6 hb6; have y2 := HQ2.out w6 hb6; have y3 := HQ3.out w6 hb6; have y4 := HQ4.out w6 hb6; have y5 := HQ5.out w6 hb6; have y6 := HQ6.out w6 hb6; have y7 := HQ7.out w6 hb6; have y8 := HQ8.out w6 hb6; have y9 := HQ9.out w6 hb6)
          | (go_at_call 21; refine (HFD.out _ (by first | exact pw_below_drewN (Below.refl _ _) _ | exact Below.refl _ _)).mono ?_; rintro e w5 ⟨g2, gm2, rfl, hl2⟩; have hL2 := Aside0.mk hl2; clear hl2; have x0 := HQ0.out w5 hL2.out.bel; have x1 := HQ1.out w5 hL2.out.bel; have x2 := HQ2.out w5 hL2.out.bel; have x3 := HQ3.out w5 hL2.out.bel; have x4 := HQ4.out w5 hL2.out.bel; have x5 := HQ5.out w5 hL2.out.bel; have x6 := HQ6.out w5 hL2.out.bel; have x7 := HQ7.out w5 hL2.out.bel; have x8 := HQ8.out w5 hL2.out.bel; have x9 := HQ9.out w5 hL2.out.bel))
        all_goals
          go_wp2
          go_roundg (gk - 1)
          case measure => omega
          case rel => exact ⟨13, _, rfl, rfl, by omega, by omega, by omega, by omega, by omega, ⟨by first | exact HXF.out.below hb6 | exact HXF.out.below (pw_below_drewN hb6 _), by have h1 := HCN.out; have h2 := cnt_next X id 9; have h3 : takes X id ((9 + 3 : Nat) : Int) = false := (by unfold takes; show ((feedF X (kev 12 X.last id)).1 == 0) = false; rw [HL.out, HRR.out]; exact hr1); rw [h3, if_neg (by decide)] at h2; have h4 : cntF X id ((12 : Int) - 3).toNat = cntF X id 9 := rfl; show ((cntF X id 10 : Nat) : Int) = _; rw [h4] at h1; rw [show (10 : Nat) = 9 + 1 from rfl, h2]; omega⟩⟩
    · obtain ⟨q, hq⟩ : ∃ q, wr.heap.size = q := ⟨_, rfl⟩
      obtain ⟨Wz, hWz⟩ : ∃ W, wr.alloc (.cells #[.int .i64 0, .int .u64 0, .int .u64 0, .string ⟨#[]⟩, .string ⟨#[]⟩, .string ⟨#[]⟩, .string ⟨#[]⟩, .int .i64 0, .int .i64 0, .int .i64 0] 31) = W := ⟨_, rfl⟩
      obtain ⟨Wa0, hWa0⟩ : ∃ W, wr.alloc (.cells #[.int .i64 13, .int .u64 L, .int .u64 id, .string ⟨#[]⟩, .string ⟨#[]⟩, .string ⟨#[]⟩, .string ⟨#[]⟩, .int .i64 0, .int .i64 0, .int .i64 0] 31) = W := ⟨_, rfl⟩
      have hst := store31 wr #[.int .i64 0, .int .u64 0, .int .u64 0, .string ⟨#[]⟩, .string ⟨#[]⟩, .string ⟨#[]⟩, .string ⟨#[]⟩, .int .i64 0, .int .i64 0, .int .i64 0] #[.int .i64 13, .int .u64 L, .int .u64 id, .string ⟨#[]⟩, .string ⟨#[]⟩, .string ⟨#[]⟩, .string ⟨#[]⟩, .int .i64 0, .int .i64 0, .int .i64 0] rfl rfl (by kernel_rfl)
      have hba : Below wr.heap.size wr Wa0 := by rw [← hWa0]; exact below_alloc (Below.refl _ _) _
      have hqa : Wa0.heap[q]? = some (.cells #[.int .i64 13, .int .u64 L, .int .u64 id, .string ⟨#[]⟩, .string ⟨#[]⟩, .string ⟨#[]⟩, .string ⟨#[]⟩, .int .i64 0, .int .i64 0, .int .i64 0] 31 (0, 0)) := by rw [← hWa0, ← hq]; exact blk_new _ _
      rw [hq, hWz, hWa0] at hst
      clear hWa0
      have hce : ∀ V, Below Wa0.heap.size Wa0 V → ∀ i, V.cell? ⟨q, i, none⟩ = Wa0.cell? ⟨q, i, none⟩ := fun V hV i => by
        have hlt : q < Wa0.heap.size := blk_lt hqa
        simp [World.cell?, hV.block q hlt]
      have hq0 : ∀ V, Below Wa0.heap.size Wa0 V → V.cell? ⟨q, 0, none⟩ = _ := fun V hV => (hce V hV 0).trans (blk_cell hqa 0)
      have hq1 : ∀ V, Below Wa0.heap.size Wa0 V → V.cell? ⟨q, 1, none⟩ = _ := fun V hV => (hce V hV 1).trans (blk_cell hqa 1)
      have hq2 : ∀ V, Below Wa0.heap.size Wa0 V → V.cell? ⟨q, 2, none⟩ = _ := fun V hV => (hce V hV 2).trans (blk_cell hqa 2)
      have hq3 : ∀ V, Below Wa0.heap.size Wa0 V → V.cell? ⟨q, 3, none⟩ = _ := fun V hV => (hce V hV 3).trans (blk_cell hqa 3)
      have hq4 : ∀ V, Below Wa0.heap.size Wa0 V → V.cell? ⟨q, 4, none⟩ = _ := fun V hV => (hce V hV 4).trans (blk_cell hqa 4)
      have hq5 : ∀ V, Below Wa0.heap.size Wa0 V → V.cell? ⟨q, 5, none⟩ = _ := fun V hV => (hce V hV 5).trans (blk_cell hqa 5)
      have hq6 : ∀ V, Below Wa0.heap.size Wa0 V → V.cell? ⟨q, 6, none⟩ = _ := fun V hV => (hce V hV 6).trans (blk_cell hqa 6)
      have hq7 : ∀ V, Below Wa0.heap.size Wa0 V → V.cell? ⟨q, 7, none⟩ = _ := fun V hV => (hce V hV 7).trans (blk_cell hqa 7)
      have hq8 : ∀ V, Below Wa0.heap.size Wa0 V → V.cell? ⟨q, 8, none⟩ = _ := fun V hV => (hce V hV 8).trans (blk_cell hqa 8)
      have hq9 : ∀ V, Below Wa0.heap.size Wa0 V → V.cell? ⟨q, 9, none⟩ = _ := fun V hV => (hce V hV 9).trans (blk_cell hqa 9)
      have hq0a := hq0 Wa0 (Below.refl _ _)
      have HQ0 := Aside0.mk hq0
      clear hq0
      have hq1a := hq1 Wa0 (Below.refl _ _)
      have HQ1 := Aside0.mk hq1
      clear hq1
      have hq2a := hq2 Wa0 (Below.refl _ _)
      have HQ2 := Aside0.mk hq2
      clear hq2
      have hq3a := hq3 Wa0 (Below.refl _ _)
      have HQ3 := Aside0.mk hq3
      clear hq3
      have hq4a := hq4 Wa0 (Below.refl _ _)
      have HQ4 := Aside0.mk hq4
      clear hq4
      have hq5a := hq5 Wa0 (Below.refl _ _)
      have HQ5 := Aside0.mk hq5
      clear hq5
      have hq6a := hq6 Wa0 (Below.refl _ _)
      have HQ6 := Aside0.mk hq6
      clear hq6
      have hq7a := hq7 Wa0 (Below.refl _ _)
      have HQ7 := Aside0.mk hq7
      clear hq7
      have hq8a := hq8 Wa0 (Below.refl _ _)
      have HQ8 := Aside0.mk hq8
      clear hq8
      have hq9a := hq9 Wa0 (Below.refl _ _)
      have HQ9 := Aside0.mk hq9
      clear hq9
      clear hce
      obtain ⟨r, hr⟩ : ∃ r, (feedF X (kev 13 L id)).1 = r := ⟨_, rfl⟩
      have HRR := Aside0.mk hr
      have HXF := Aside0.mk (HX.out.below hba)
      have HFD : Aside0 (∀ V, Below Wa0.heap.size Wa0 V → Calls Tryd.prog 21 #[.slice A0 zs.length c0] V fun e w' => ∃ g2 gm2, e = .returned (.pointer (some ⟨g2, 0, none⟩)) ∧ Wl Wa0 w' g2 gm2 X) := ⟨fun V hV => (fed_calls A0 c0 zs V (HG.out.below (HXF.out.below hV).bel) (Kd.C_below HCZ.out (HXF.out.below hV).bel) HZW.out HZL.out).mono (by rintro e w' ⟨g2, gm2, rfl, h⟩; exact ⟨g2, gm2, rfl, by rw [HFX.out] at h; exact Wl.up hV h⟩)⟩
      have HFE : Aside0 (∀ V g2 gm2, Wl Wa0 V g2 gm2 X → Calls Tryd.prog 11 #[.pointer (some ⟨g2, 0, none⟩), .agg #[(.int .i64 13), (.int .u64 L), (.int .u64 id), (.string ⟨#[]⟩), (.string ⟨#[]⟩), (.string ⟨#[]⟩), (.string ⟨#[]⟩), (.int .i64 0), (.int .i64 0), (.int .i64 0)]] V fun e w' => e = .returned (.int .i64 r) ∧ Below Wa0.heap.size Wa0 w') := ⟨fun V g2 gm2 h => (feed_calls (kev 13 L id) (HG.out.below (HXF.out.below h.bel).bel) h.ln HID.out).mono (by rintro e w' ⟨rfl, hl, hm⟩; exact ⟨by rw [HRR.out], (h.feed hl hm).bel⟩)⟩
      clear hr hqa hba
      go_wp2_with (fail)
      refine (last_calls HX.out.ln).mono ?_
      rw [HL.out]
      rintro e w3 ⟨rfl, hw3⟩
      subst w3
      by_cases hr0 : r = 0
      case pos =>
        subst hr0
        go_wp2_with (fail)
        go_region_held3 (fun V => V.cell? ⟨q, 0, none⟩ = some (.int .i64 13) ∧ V.cell? ⟨q, 1, none⟩ = some (.int .u64 L) ∧ V.cell? ⟨q, 2, none⟩ = some (.int .u64 id) ∧ V.cell? ⟨q, 3, none⟩ = some (.string ⟨#[]⟩) ∧ V.cell? ⟨q, 4, none⟩ = some (.string ⟨#[]⟩) ∧ V.cell? ⟨q, 5, none⟩ = some (.string ⟨#[]⟩) ∧ V.cell? ⟨q, 6, none⟩ = some (.string ⟨#[]⟩) ∧ V.cell? ⟨q, 7, none⟩ = some (.int .i64 0) ∧ V.cell? ⟨q, 8, none⟩ = some (.int .i64 0) ∧ V.cell? ⟨q, 9, none⟩ = some (.int .i64 0) ∧ Below Wa0.heap.size Wa0 V) (first | exact ⟨hq0a, hq1a, hq2a, hq3a, hq4a, hq5a, hq6a, hq7a, hq8a, hq9a, pw_below_drewN (Below.refl _ _) _⟩ | exact ⟨hq0a, hq1a, hq2a, hq3a, hq4a, hq5a, hq6a, hq7a, hq8a, hq9a, Below.refl _ _⟩ | exact ⟨x0, x1, x2, x3, x4, x5, x6, x7, x8, x9, hL2.out.bel⟩ | exact ⟨x0, x1, x2, x3, x4, x5, x6, x7, x8, x9, (hL2.out.below (pw_below_drewN (Below.refl _ _) _)).bel⟩ | exact ⟨y0, y1, y2, y3, y4, y5, y6, y7, y8, y9, hb6⟩ | exact ⟨y0, y1, y2, y3, y4, y5, y6, y7, y8, y9, pw_below_drewN hb6 _⟩) (first
          | (have z_ := hL2; clear z_; go_at_call 11; refine (HFE.out _ _ _ (by first | exact hL2.out | exact hL2.out.below (pw_below_drewN (Below.refl _ _) _))).mono ?_; rintro e w6 ⟨rfl, hb6⟩; have y0 := HQ0.out w6 hb6; have y1 := HQ1.out w6 hb6; have y2 := HQ2.out w6 hb6; have y3 := HQ3.out w6 hb6; have y4 := HQ4.out w6 hb6; have y5 := HQ5.out w6 hb6; have y6 := HQ6.out w6 hb6; have y7 := HQ7.out w6 hb6; have y8 := HQ8.out w6 hb6; have y9 := HQ9.out w6 hb6)
          | (go_at_call 21; refine (HFD.out _ (by first | exact pw_below_drewN (Below.refl _ _) _ | exact Below.refl _ _)).mono ?_; rintro e w5 ⟨g2, gm2, rfl, hl2⟩; have hL2 := Aside0.mk hl2; clear hl2; have x0 := HQ0.out w5 hL2.out.bel; have x1 := HQ1.out w5 hL2.out.bel; have x2 := HQ2.out w5 hL2.out.bel; have x3 := HQ3.out w5 hL2.out.bel; have x4 := HQ4.out w5 hL2.out.bel; have x5 := HQ5.out w5 hL2.out.bel; have x6 := HQ6.out w5 hL2.out.bel; have x7 := HQ7.out w5 hL2.out.bel; have x8 := HQ8.out w5 hL2.out.bel; have x9 := HQ9.out w5 hL2.out.bel))
        all_goals
          go_wp2
          go_roundg (gk - 1)
          case measure => omega
          case rel => exact ⟨14, _, rfl, rfl, by omega, by omega, by omega, by omega, by omega, ⟨by first | exact HXF.out.below hb6 | exact HXF.out.below (pw_below_drewN hb6 _), by have h1 := HCN.out; have h2 := cnt_next X id 10; have h3 : takes X id ((10 + 3 : Nat) : Int) = true := (by unfold takes; show ((feedF X (kev 13 X.last id)).1 == 0) = true; rw [HL.out, HRR.out]; rfl); rw [h3, if_pos rfl] at h2; have h4 : cntF X id ((13 : Int) - 3).toNat = cntF X id 10 := rfl; show ((cntF X id 11 : Nat) : Int) = _; rw [h4] at h1; rw [show (11 : Nat) = 10 + 1 from rfl, h2]; omega⟩⟩
      case neg =>
        have hr1 : (r == 0) = false := by rw [beq_eq_false_iff_ne]; exact hr0
        go_wp2_with (fail)
        go_region_held3 (fun V => V.cell? ⟨q, 0, none⟩ = some (.int .i64 13) ∧ V.cell? ⟨q, 1, none⟩ = some (.int .u64 L) ∧ V.cell? ⟨q, 2, none⟩ = some (.int .u64 id) ∧ V.cell? ⟨q, 3, none⟩ = some (.string ⟨#[]⟩) ∧ V.cell? ⟨q, 4, none⟩ = some (.string ⟨#[]⟩) ∧ V.cell? ⟨q, 5, none⟩ = some (.string ⟨#[]⟩) ∧ V.cell? ⟨q, 6, none⟩ = some (.string ⟨#[]⟩) ∧ V.cell? ⟨q, 7, none⟩ = some (.int .i64 0) ∧ V.cell? ⟨q, 8, none⟩ = some (.int .i64 0) ∧ V.cell? ⟨q, 9, none⟩ = some (.int .i64 0) ∧ Below Wa0.heap.size Wa0 V) (first | exact ⟨hq0a, hq1a, hq2a, hq3a, hq4a, hq5a, hq6a, hq7a, hq8a, hq9a, pw_below_drewN (Below.refl _ _) _⟩ | exact ⟨hq0a, hq1a, hq2a, hq3a, hq4a, hq5a, hq6a, hq7a, hq8a, hq9a, Below.refl _ _⟩ | exact ⟨x0, x1, x2, x3, x4, x5, x6, x7, x8, x9, hL2.out.bel⟩ | exact ⟨x0, x1, x2, x3, x4, x5, x6, x7, x8, x9, (hL2.out.below (pw_below_drewN (Below.refl _ _) _)).bel⟩ | exact ⟨y0, y1, y2, y3, y4, y5, y6, y7, y8, y9, hb6⟩ | exact ⟨y0, y1, y2, y3, y4, y5, y6, y7, y8, y9, pw_below_drewN hb6 _⟩) (first
          | (have z_ := hL2; clear z_; go_at_call 11; refine (HFE.out _ _ _ (by first | exact hL2.out | exact hL2.out.below (pw_below_drewN (Below.refl _ _) _))).mono ?_; rintro e w6 ⟨rfl, hb6⟩; have y0 := HQ0.out w6 hb6; have y1 := HQ1.out w6 hb6; have y2 := HQ2.out w6 hb6; have y3 := HQ3.out w6 hb6; have y4 := HQ4.out w6 hb6; have y5 := HQ5.out w6 hb6; have y6 := HQ6.out w6 hb6; have y7 := HQ7.out w6 hb6; have y8 := HQ8.out w6 hb6; have y9 := HQ9.out w6 hb6)
          | (go_at_call 21; refine (HFD.out _ (by first | exact pw_below_drewN (Below.refl _ _) _ | exact Below.refl _ _)).mono ?_; rintro e w5 ⟨g2, gm2, rfl, hl2⟩; have hL2 := Aside0.mk hl2; clear hl2; have x0 := HQ0.out w5 hL2.out.bel; have x1 := HQ1.out w5 hL2.out.bel; have x2 := HQ2.out w5 hL2.out.bel; have x3 := HQ3.out w5 hL2.out.bel; have x4 := HQ4.out w5 hL2.out.bel; have x5 := HQ5.out w5 hL2.out.bel; have x6 := HQ6.out w5 hL2.out.bel; have x7 := HQ7.out w5 hL2.out.bel; have x8 := HQ8.out w5 hL2.out.bel; have x9 := HQ9.out w5 hL2.out.bel))
        all_goals
          go_wp2
          go_roundg (gk - 1)
          case measure => omega
          case rel => exact ⟨14, _, rfl, rfl, by omega, by omega, by omega, by omega, by omega, ⟨by first | exact HXF.out.below hb6 | exact HXF.out.below (pw_below_drewN hb6 _), by have h1 := HCN.out; have h2 := cnt_next X id 10; have h3 : takes X id ((10 + 3 : Nat) : Int) = false := (by unfold takes; show ((feedF X (kev 13 X.last id)).1 == 0) = false; rw [HL.out, HRR.out]; exact hr1); rw [h3, if_neg (by decide)] at h2; have h4 : cntF X id ((13 : Int) - 3).toNat = cntF X id 10 := rfl; show ((cntF X id 11 : Nat) : Int) = _; rw [h4] at h1; rw [show (11 : Nat) = 10 + 1 from rfl, h2]; omega⟩⟩
    · obtain ⟨q, hq⟩ : ∃ q, wr.heap.size = q := ⟨_, rfl⟩
      obtain ⟨Wz, hWz⟩ : ∃ W, wr.alloc (.cells #[.int .i64 0, .int .u64 0, .int .u64 0, .string ⟨#[]⟩, .string ⟨#[]⟩, .string ⟨#[]⟩, .string ⟨#[]⟩, .int .i64 0, .int .i64 0, .int .i64 0] 31) = W := ⟨_, rfl⟩
      obtain ⟨Wa0, hWa0⟩ : ∃ W, wr.alloc (.cells #[.int .i64 14, .int .u64 L, .int .u64 id, .string ⟨#[]⟩, .string ⟨#[]⟩, .string ⟨#[]⟩, .string ⟨#[]⟩, .int .i64 0, .int .i64 0, .int .i64 0] 31) = W := ⟨_, rfl⟩
      have hst := store31 wr #[.int .i64 0, .int .u64 0, .int .u64 0, .string ⟨#[]⟩, .string ⟨#[]⟩, .string ⟨#[]⟩, .string ⟨#[]⟩, .int .i64 0, .int .i64 0, .int .i64 0] #[.int .i64 14, .int .u64 L, .int .u64 id, .string ⟨#[]⟩, .string ⟨#[]⟩, .string ⟨#[]⟩, .string ⟨#[]⟩, .int .i64 0, .int .i64 0, .int .i64 0] rfl rfl (by kernel_rfl)
      have hba : Below wr.heap.size wr Wa0 := by rw [← hWa0]; exact below_alloc (Below.refl _ _) _
      have hqa : Wa0.heap[q]? = some (.cells #[.int .i64 14, .int .u64 L, .int .u64 id, .string ⟨#[]⟩, .string ⟨#[]⟩, .string ⟨#[]⟩, .string ⟨#[]⟩, .int .i64 0, .int .i64 0, .int .i64 0] 31 (0, 0)) := by rw [← hWa0, ← hq]; exact blk_new _ _
      rw [hq, hWz, hWa0] at hst
      clear hWa0
      have hce : ∀ V, Below Wa0.heap.size Wa0 V → ∀ i, V.cell? ⟨q, i, none⟩ = Wa0.cell? ⟨q, i, none⟩ := fun V hV i => by
        have hlt : q < Wa0.heap.size := blk_lt hqa
        simp [World.cell?, hV.block q hlt]
      have hq0 : ∀ V, Below Wa0.heap.size Wa0 V → V.cell? ⟨q, 0, none⟩ = _ := fun V hV => (hce V hV 0).trans (blk_cell hqa 0)
      have hq1 : ∀ V, Below Wa0.heap.size Wa0 V → V.cell? ⟨q, 1, none⟩ = _ := fun V hV => (hce V hV 1).trans (blk_cell hqa 1)
      have hq2 : ∀ V, Below Wa0.heap.size Wa0 V → V.cell? ⟨q, 2, none⟩ = _ := fun V hV => (hce V hV 2).trans (blk_cell hqa 2)
      have hq3 : ∀ V, Below Wa0.heap.size Wa0 V → V.cell? ⟨q, 3, none⟩ = _ := fun V hV => (hce V hV 3).trans (blk_cell hqa 3)
      have hq4 : ∀ V, Below Wa0.heap.size Wa0 V → V.cell? ⟨q, 4, none⟩ = _ := fun V hV => (hce V hV 4).trans (blk_cell hqa 4)
      have hq5 : ∀ V, Below Wa0.heap.size Wa0 V → V.cell? ⟨q, 5, none⟩ = _ := fun V hV => (hce V hV 5).trans (blk_cell hqa 5)
      have hq6 : ∀ V, Below Wa0.heap.size Wa0 V → V.cell? ⟨q, 6, none⟩ = _ := fun V hV => (hce V hV 6).trans (blk_cell hqa 6)
      have hq7 : ∀ V, Below Wa0.heap.size Wa0 V → V.cell? ⟨q, 7, none⟩ = _ := fun V hV => (hce V hV 7).trans (blk_cell hqa 7)
      have hq8 : ∀ V, Below Wa0.heap.size Wa0 V → V.cell? ⟨q, 8, none⟩ = _ := fun V hV => (hce V hV 8).trans (blk_cell hqa 8)
      have hq9 : ∀ V, Below Wa0.heap.size Wa0 V → V.cell? ⟨q, 9, none⟩ = _ := fun V hV => (hce V hV 9).trans (blk_cell hqa 9)
      have hq0a := hq0 Wa0 (Below.refl _ _)
      have HQ0 := Aside0.mk hq0
      clear hq0
      have hq1a := hq1 Wa0 (Below.refl _ _)
      have HQ1 := Aside0.mk hq1
      clear hq1
      have hq2a := hq2 Wa0 (Below.refl _ _)
      have HQ2 := Aside0.mk hq2
      clear hq2
      have hq3a := hq3 Wa0 (Below.refl _ _)
      have HQ3 := Aside0.mk hq3
      clear hq3
      have hq4a := hq4 Wa0 (Below.refl _ _)
      have HQ4 := Aside0.mk hq4
      clear hq4
      have hq5a := hq5 Wa0 (Below.refl _ _)
      have HQ5 := Aside0.mk hq5
      clear hq5
      have hq6a := hq6 Wa0 (Below.refl _ _)
      have HQ6 := Aside0.mk hq6
      clear hq6
      have hq7a := hq7 Wa0 (Below.refl _ _)
      have HQ7 := Aside0.mk hq7
      clear hq7
      have hq8a := hq8 Wa0 (Below.refl _ _)
      have HQ8 := Aside0.mk hq8
      clear hq8
      have hq9a := hq9 Wa0 (Below.refl _ _)
      have HQ9 := Aside0.mk hq9
      clear hq9
      clear hce
      obtain ⟨r, hr⟩ : ∃ r, (feedF X (kev 14 L id)).1 = r := ⟨_, rfl⟩
      have HRR := Aside0.mk hr
      have HXF := Aside0.mk (HX.out.below hba)
      have HFD : Aside0 (∀ V, Below Wa0.heap.size Wa0 V → Calls Tryd.prog 21 #[.slice A0 zs.length c0] V fun e w' => ∃ g2 gm2, e = .returned (.pointer (some ⟨g2, 0, none⟩)) ∧ Wl Wa0 w' g2 gm2 X) := ⟨fun V hV => (fed_calls A0 c0 zs V (HG.out.below (HXF.out.below hV).bel) (Kd.C_below HCZ.out (HXF.out.below hV).bel) HZW.out HZL.out).mono (by rintro e w' ⟨g2, gm2, rfl, h⟩; exact ⟨g2, gm2, rfl, by rw [HFX.out] at h; exact Wl.up hV h⟩)⟩
      have HFE : Aside0 (∀ V g2 gm2, Wl Wa0 V g2 gm2 X → Calls Tryd.prog 11 #[.pointer (some ⟨g2, 0, none⟩), .agg #[(.int .i64 14), (.int .u64 L), (.int .u64 id), (.string ⟨#[]⟩), (.string ⟨#[]⟩), (.string ⟨#[]⟩), (.string ⟨#[]⟩), (.int .i64 0), (.int .i64 0), (.int .i64 0)]] V fun e w' => e = .returned (.int .i64 r) ∧ Below Wa0.heap.size Wa0 w') := ⟨fun V g2 gm2 h => (feed_calls (kev 14 L id) (HG.out.below (HXF.out.below h.bel).bel) h.ln HID.out).mono (by rintro e w' ⟨rfl, hl, hm⟩; exact ⟨by rw [HRR.out], (h.feed hl hm).bel⟩)⟩
      clear hr hqa hba
      go_wp2_with (fail)
      refine (last_calls HX.out.ln).mono ?_
      rw [HL.out]
      rintro e w3 ⟨rfl, hw3⟩
      subst w3
      by_cases hr0 : r = 0
      case pos =>
        subst hr0
        go_wp2_with (fail)
        go_region_held3 (fun V => V.cell? ⟨q, 0, none⟩ = some (.int .i64 14) ∧ V.cell? ⟨q, 1, none⟩ = some (.int .u64 L) ∧ V.cell? ⟨q, 2, none⟩ = some (.int .u64 id) ∧ V.cell? ⟨q, 3, none⟩ = some (.string ⟨#[]⟩) ∧ V.cell? ⟨q, 4, none⟩ = some (.string ⟨#[]⟩) ∧ V.cell? ⟨q, 5, none⟩ = some (.string ⟨#[]⟩) ∧ V.cell? ⟨q, 6, none⟩ = some (.string ⟨#[]⟩) ∧ V.cell? ⟨q, 7, none⟩ = some (.int .i64 0) ∧ V.cell? ⟨q, 8, none⟩ = some (.int .i64 0) ∧ V.cell? ⟨q, 9, none⟩ = some (.int .i64 0) ∧ Below Wa0.heap.size Wa0 V) (first | exact ⟨hq0a, hq1a, hq2a, hq3a, hq4a, hq5a, hq6a, hq7a, hq8a, hq9a, pw_below_drewN (Below.refl _ _) _⟩ | exact ⟨hq0a, hq1a, hq2a, hq3a, hq4a, hq5a, hq6a, hq7a, hq8a, hq9a, Below.refl _ _⟩ | exact ⟨x0, x1, x2, x3, x4, x5, x6, x7, x8, x9, hL2.out.bel⟩ | exact ⟨x0, x1, x2, x3, x4, x5, x6, x7, x8, x9, (hL2.out.below (pw_below_drewN (Below.refl _ _) _)).bel⟩ | exact ⟨y0, y1, y2, y3, y4, y5, y6, y7, y8, y9, hb6⟩ | exact ⟨y0, y1, y2, y3, y4, y5, y6, y7, y8, y9, pw_below_drewN hb6 _⟩) (first
          | (have z_ := hL2; clear z_; go_at_call 11; refine (HFE.out _ _ _ (by first | exact hL2.out | exact hL2.out.below (pw_below_drewN (Below.refl _ _) _))).mono ?_; rintro e w6 ⟨rfl, hb6⟩; have y0 := HQ0.out w6 hb6; have y1 := HQ1.out w6 hb6; have y2 := HQ2.out w6 hb6; have y3 := HQ3.out w6 hb6; have y4 := HQ4.out w6 hb6; have y5 := HQ5.out w6 hb6; have y6 := HQ6.out w6 hb6; have y7 := HQ7.out w6 hb6; have y8 := HQ8.out w6 hb6; have y9 := HQ9.out w6 hb6)
          | (go_at_call 21; refine (HFD.out _ (by first | exact pw_below_drewN (Below.refl _ _) _ | exact Below.refl _ _)).mono ?_; rintro e w5 ⟨g2, gm2, rfl, hl2⟩; have hL2 := Aside0.mk hl2; clear hl2; have x0 := HQ0.out w5 hL2.out.bel; have x1 := HQ1.out w5 hL2.out.bel; have x2 := HQ2.out w5 hL2.out.bel; have x3 := HQ3.out w5 hL2.out.bel; have x4 := HQ4.out w5 hL2.out.bel; have x5 := HQ5.out w5 hL2.out.bel; have x6 := HQ6.out w5 hL2.out.bel; have x7 := HQ7.out w5 hL2.out.bel; have x8 := HQ8.out w5 hL2.out.bel; have x9 := HQ9.out w5 hL2.out.bel))
        all_goals
          go_wp2
          go_roundg (gk - 1)
          case measure => omega
          case rel => exact ⟨15, _, rfl, rfl, by omega, by omega, by omega, by omega, by omega, ⟨by first | exact HXF.out.below hb6 | exact HXF.out.below (pw_below_drewN hb6 _), by have h1 := HCN.out; have h2 := cnt_next X id 11; have h3 : takes X id ((11 + 3 : Nat) : Int) = true := (by unfold takes; show ((feedF X (kev 14 X.last id)).1 == 0) = true; rw [HL.out, HRR.out]; rfl); rw [h3, if_pos rfl] at h2; have h4 : cntF X id ((14 : Int) - 3).toNat = cntF X id 11 := rfl; show ((cntF X id 12 : Nat) : Int) = _; rw [h4] at h1; rw [show (12 : Nat) = 11 + 1 from rfl, h2]; omega⟩⟩
      case neg =>
        have hr1 : (r == 0) = false := by rw [beq_eq_false_iff_ne]; exact hr0
        go_wp2_with (fail)
        go_region_held3 (fun V => V.cell? ⟨q, 0, none⟩ = some (.int .i64 14) ∧ V.cell? ⟨q, 1, none⟩ = some (.int .u64 L) ∧ V.cell? ⟨q, 2, none⟩ = some (.int .u64 id) ∧ V.cell? ⟨q, 3, none⟩ = some (.string ⟨#[]⟩) ∧ V.cell? ⟨q, 4, none⟩ = some (.string ⟨#[]⟩) ∧ V.cell? ⟨q, 5, none⟩ = some (.string ⟨#[]⟩) ∧ V.cell? ⟨q, 6, none⟩ = some (.string ⟨#[]⟩) ∧ V.cell? ⟨q, 7, none⟩ = some (.int .i64 0) ∧ V.cell? ⟨q, 8, none⟩ = some (.int .i64 0) ∧ V.cell? ⟨q, 9, none⟩ = some (.int .i64 0) ∧ Below Wa0.heap.size Wa0 V) (first | exact ⟨hq0a, hq1a, hq2a, hq3a, hq4a, hq5a, hq6a, hq7a, hq8a, hq9a, pw_below_drewN (Below.refl _ _) _⟩ | exact ⟨hq0a, hq1a, hq2a, hq3a, hq4a, hq5a, hq6a, hq7a, hq8a, hq9a, Below.refl _ _⟩ | exact ⟨x0, x1, x2, x3, x4, x5, x6, x7, x8, x9, hL2.out.bel⟩ | exact ⟨x0, x1, x2, x3, x4, x5, x6, x7, x8, x9, (hL2.out.below (pw_below_drewN (Below.refl _ _) _)).bel⟩ | exact ⟨y0, y1, y2, y3, y4, y5, y6, y7, y8, y9, hb6⟩ | exact ⟨y0, y1, y2, y3, y4, y5, y6, y7, y8, y9, pw_below_drewN hb6 _⟩) (first
          | (have z_ := hL2; clear z_; go_at_call 11; refine (HFE.out _ _ _ (by first | exact hL2.out | exact hL2.out.below (pw_below_drewN (Below.refl _ _) _))).mono ?_; rintro e w6 ⟨rfl, hb6⟩; have y0 := HQ0.out w6 hb6; have y1 := HQ1.out w6 hb6; have y2 := HQ2.out w6 hb6; have y3 := HQ3.out w6 hb6; have y4 := HQ4.out w6 hb6; have y5 := HQ5.out w6 hb6; have y6 := HQ6.out w6 hb6; have y7 := HQ7.out w6 hb6; have y8 := HQ8.out w6 hb6; have y9 := HQ9.out w6 hb6)
          | (go_at_call 21; refine (HFD.out _ (by first | exact pw_below_drewN (Below.refl _ _) _ | exact Below.refl _ _)).mono ?_; rintro e w5 ⟨g2, gm2, rfl, hl2⟩; have hL2 := Aside0.mk hl2; clear hl2; have x0 := HQ0.out w5 hL2.out.bel; have x1 := HQ1.out w5 hL2.out.bel; have x2 := HQ2.out w5 hL2.out.bel; have x3 := HQ3.out w5 hL2.out.bel; have x4 := HQ4.out w5 hL2.out.bel; have x5 := HQ5.out w5 hL2.out.bel; have x6 := HQ6.out w5 hL2.out.bel; have x7 := HQ7.out w5 hL2.out.bel; have x8 := HQ8.out w5 hL2.out.bel; have x9 := HQ9.out w5 hL2.out.bel))
        all_goals
          go_wp2
          go_roundg (gk - 1)
          case measure => omega
          case rel => exact ⟨15, _, rfl, rfl, by omega, by omega, by omega, by omega, by omega, ⟨by first | exact HXF.out.below hb6 | exact HXF.out.below (pw_below_drewN hb6 _), by have h1 := HCN.out; have h2 := cnt_next X id 11; have h3 : takes X id ((11 + 3 : Nat) : Int) = false := (by unfold takes; show ((feedF X (kev 14 X.last id)).1 == 0) = false; rw [HL.out, HRR.out]; exact hr1); rw [h3, if_neg (by decide)] at h2; have h4 : cntF X id ((14 : Int) - 3).toNat = cntF X id 11 := rfl; show ((cntF X id 12 : Nat) : Int) = _; rw [h4] at h1; rw [show (12 : Nat) = 11 + 1 from rfl, h2]; omega⟩⟩
end Go.Proofs.YtjflbjlkcifpdaaDoor.Ext
