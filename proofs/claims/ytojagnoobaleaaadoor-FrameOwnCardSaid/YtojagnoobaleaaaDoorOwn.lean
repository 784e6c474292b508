/- FrameOwn by hand. -/
import Derived.Test.YtojagnoobaleaaaDoorFrY
import Derived.Deep.RegionHeld3
namespace Go.Proofs.YtojagnoobaleaaaDoor.Ext
open Go.RowKit Go.Shelf Go.Proofs.YtojagnoobaleaaaDoor.Xp Go.Proofs.YtojagnoobaleaaaDoorW.PrintWords Go.Proofs.YtojagnoobaleaaaDoorW.PrintLast Go.Proofs.YtojagnoobaleaaaDoorW.PrintMore
set_option linter.unusedVariables false
set_option linter.unusedSimpArgs false
attribute [local go_sem] max2_int min2_int max_two min_two
/-- A row of rows of bytes, whatever the bytes, in blocks between two. -/
def MR (W : World) (lo hi : Nat) (A : Option Addr) (a : List (List Int)) : Prop := ∀ j, j < a.length → ∃ go co, A = some ⟨go, 0, none⟩ ∧ W.heap[go]? = some (.cells co 22 (0, 0)) ∧ ∃ Aj cj, co[j]? = some (.slice Aj (rd_L2 a j).length cj) ∧
  (0 < (rd_L2 a j).length → ∃ g cs, Aj = some ⟨g, 0, none⟩ ∧ lo ≤ g ∧ g < hi ∧ W.heap[g]? = some (.cells cs 5 (0, 0)) ∧ ∀ k, k < (rd_L2 a j).length → ∃ x, cs[k]? = some (.int .u8 x))
theorem MR.of {W : World} {lo : Nat} {A : Option Addr} {n c : Nat} {a : List (List Int)} (h : Kd.S KdB 22 W lo (fun _ => True) (.slice A n c) a) : MR W lo W.heap.size A a := by
  intro j hj
  have hR := Kd.S_R h
  obtain ⟨go, cap, e, h1, h2, co, h3⟩ := Kd.R_form hR (by omega)
  injection e with e1 e2 e3
  subst e1; subst e2; subst e3
  obtain ⟨cc, hcl, hM, hcell, _⟩ := Kd.R_elem hR [] (j : Int) (by omega) (by omega)
  obtain ⟨v, rfl, hv⟩ : ∃ v, cc = [v] ∧ Kd.R (Kd.int .u8) 5 W lo (fun k => True ∧ k ≠ go) v (a.getD (j : Int).toNat []) := hM
  have hrd : a.getD (j : Int).toNat [] = rd_L2 a j := rfl
  rw [hrd] at hv
  have h4 := hcell 0 v rfl
  have e0 : (j : Int).toNat * KdB.sz + 0 = j := by show (j : Int).toNat * 1 + 0 = j; omega
  rw [e0, cell_of_row _ _ _ _ _ _ h3] at h4
  obtain ⟨Aj, cj, rfl⟩ := Kd.R_slice hv
  refine ⟨go, co, rfl, h3, Aj, cj, h4, fun hp => ?_⟩
  obtain ⟨g, cap, e, k1, k2, cs, k3⟩ := Kd.R_form hv hp
  injection e with e1 e2 e3
  subst e1; subst e3
  refine ⟨g, cs, rfl, k1, k2, k3, fun k hk => ?_⟩
  obtain ⟨hx, _⟩ := Kd.R_celln 0 hv (k : Int) (by omega) (by omega)
  rw [Int.toNat_natCast, cell_of_row _ _ _ _ _ _ k3] at hx
  exact ⟨_, hx⟩
theorem MR.put {W : World} {lo hi g k : Nat} {A : Option Addr} {a : List (List Int)} {cs : Array Value} (h : MR W lo hi A a) (hg : W.heap[g]? = some (.cells cs 5 (0, 0))) (x : Int) : MR (W.setCell ⟨g, k, none⟩ (.int .u8 x)) lo hi A a := by
  intro j hj
  obtain ⟨go, co, e, h1, Aj, cj, h2, h3⟩ := h j hj
  have hne : go ≠ g := blk_ne h1 hg (by decide)
  refine ⟨go, co, e, blk_far h1 (p := ⟨g, k, none⟩) hne _, Aj, cj, h2, fun hp => ?_⟩
  obtain ⟨g', cs', e', k1, k2, k3, k4⟩ := h3 hp
  by_cases hgg : g' = g
  · subst hgg
    rw [k3] at hg
    injection hg with hg
    injection hg with hg _ _
    subst hg
    refine ⟨g', _, e', k1, k2, blk_set k3 k _, fun i hi => ?_⟩
    obtain ⟨y, hy⟩ := k4 i hi
    by_cases hik : k = i
    · subst hik
      exact ⟨x, by rw [Array.getElem?_setIfInBounds_self_of_lt]; exact (Array.getElem?_eq_some_iff.1 hy).1⟩
    · exact ⟨y, by rw [Array.getElem?_setIfInBounds_ne hik]; exact hy⟩
  · exact ⟨g', cs', e', k1, k2, blk_far k3 (p := ⟨g, k, none⟩) hgg _, k4⟩
/-- What the loops over the bodies hold. -/
structure OwI (w : World) (lo hi : Nat) (v3 : Value) (L : List Int) (v1 : Value) (b : List ByteArray) (v5 : Value) (a : List (List Int)) (A : Option Addr) (W : World) : Prop where
  log : JV W w.heap.size (fun _ => True) v3 L
  loglt : ∀ k, v3.ownBlock = some k → k < lo
  strs : Kd.R Kd.string 9 W w.heap.size (fun _ => True) v1 b
  n : Kd.S KdB 22 W hi (fun _ => True) v5 a
  m : MR W lo hi A a
  below : Below w.heap.size w W
  lo : w.heap.size ≤ lo
theorem OwI.put {w W : World} {lo hi g k : Nat} {v3 v1 v5 : Value} {L : List Int} {b : List ByteArray} {a : List (List Int)} {A : Option Addr} {cs : Array Value} (h : OwI w lo hi v3 L v1 b v5 a A W) (hg : W.heap[g]? = some (.cells cs 5 (0, 0))) (h1 : lo ≤ g) (h2 : g < hi) (x : Int) : OwI w lo hi v3 L v1 b v5 a A (W.setCell ⟨g, k, none⟩ (.int .u8 x)).drew := by
  obtain ⟨i1, i2, i3, i4, i5, i6, i7⟩ := h
  refine ⟨JV.drew (i1.move fun q hq => Below.heap_setCell _ _ _ q (fun e => ?_)), i2, Kd.R_drew (Kd.R_set i3 hg ?_ _ _), Kd.S_drew (Kd.S_mono (Kd.S_far (p := ⟨g, k, none⟩) (Kd.S_bound i4) (fun q hq e => ?_) _) (fun _ hk => hk.1)), i5.put hg x, below_drew (Below.setCell i6 (p := ⟨g, k, none⟩) (by show w.heap.size ≤ g; omega) _), i7⟩
  · have := i2 q hq
    have e' : q = g := e
    omega
  · intro q hq
    have hq9 : q = 9 := by simpa [Kd.string, Kd.scalar] using hq
    omega
  · have := hq.2.1
    have e' : q = g := e
    omega
set_option maxHeartbeats 4000000 in
set_option maxRecDepth 100000 in
theorem own_calls (A : Option Addr) (c : Nat) (l : List (List Int)) (w : World) (hG : Glob w) (hr : Kd.C KdB w A l.length l) (hc : l.length ≤ c) (hl : ∀ b ∈ l, Bytes b) :
    Calls Tryd.prog 12 #[.slice A l.length c] w fun e w' => e = .returned (.bool true) ∧ Below w.heap.size w w' := by
  have hf := few_f l 100 (by omega)
  obtain ⟨hj, hlen⟩ := few_join hl
  obtain ⟨hn, h3⟩ := few_len l
  have hV := few_V hl
  have hB := few_bytes hl
  generalize fewF l = a at *
  obtain ⟨b, hb⟩ : ∃ b, b = a.map strOfNums := ⟨_, rfl⟩
  obtain ⟨L, hL⟩ : ∃ L, L = logE a := ⟨_, rfl⟩
  obtain ⟨S, hS⟩ : ∃ S, S = strOfNums L := ⟨_, rfl⟩
  have F1 := Aside0.mk (show transeptlaw04_few.f 100 l = some (a, b) by rw [hf, hb])
  have F2 := Aside0.mk (show frame_Join.f a = some (L, 0) by rw [join_f hB (by omega), hj, hL])
  have F3 := Aside0.mk (show frame_Split.f L = some (a, (L.length : Int), 0) by rw [hL, split_f (logE_bytes hV) (by omega), split_small (by omega), log_full hV (by omega)])
  have F4 := Aside0.mk (show transeptref04_Join.f 210000 b = some S by rw [hb, ref_join a hV (by omega) _ (by omega), hS, hL])
  have F5 := Aside0.mk (show transeptlaw04_same.f 100 a b = some true by rw [hb, same_f _ _ _ (by omega) (by omega), decide_eq_true rfl])
  have hLl : L.length ≤ 20000 := by rw [hL]; exact hlen
  have HS := Aside0.mk hS
  have H3 := Aside0.mk h3
  have HG := Aside0.mk hG
  have HR := Aside0.mk hr
  have HC := Aside0.mk hc
  clear hf hj hlen hV hB hb hL hS hG hr hc hl h3
  go_enter Tryd.func12, Tryd.ntmps12
  go_wp2_with (fail)
  refine (shown_calls _ HG.out).mono ?_
  rintro e w1 ⟨rfl, hb1⟩
  have HB1 := Aside0.mk hb1
  clear hb1
  go_wp2_with (fail)
  refine (transeptlaw04_few.calls 100 _ _ l a b _ (Kd.C_below HR.out HB1.out) HC.out F1.out).mono ?_
  rintro e w2 ⟨v2, v3, rfl, hv2, hv3, hb2⟩
  have HV2 := Aside0.mk hv2
  have HV3 := Aside0.mk hv3
  have HB2 := Aside0.mk (HB1.out.trans (hb2.mono HB1.out.size))
  have HX2 := Aside0.mk HB1.out.size
  clear hv2 hv3 hb2
  obtain ⟨A2, c2, rfl⟩ := Kd.S_slice HV2.out
  obtain ⟨A3, c3, rfl⟩ := Kd.R_slice HV3.out
  go_wp2_with (fail)
  refine (frame_Join.calls _ _ a L 0 _ (HG.out.below HB2.out) (Kd.S_reads' HV2.out).2.2 (Kd.S_reads' HV2.out).2.1 F2.out).mono ?_
  rintro e w3 ⟨v4, rfl, hv4, hb3⟩
  obtain ⟨A4, c4, rfl⟩ := JV.slice hv4
  have HV4 := Aside0.mk hv4
  have HV3b := Aside0.mk (Kd.R_below HV3.out hb3)
  have HB3 := Aside0.mk (HB2.out.trans (hb3.mono HB2.out.size))
  have HX3 := Aside0.mk (show w2.heap.size ≤ w3.heap.size from hb3.size)
  have hcv := hv4.string
  rw [← HS.out] at hcv
  clear hv4 hb3 HV2 HV3
  go_wp2_with (fail)
  refine (frame_Split.calls _ _ L a L.length 0 _ (HG.out.below HB3.out) (JV.reads' HV4.out).2.2 (JV.reads' HV4.out).2.1 F3.out).mono ?_
  rintro e w4 ⟨v5, rfl, hv5, hb4⟩
  obtain ⟨A5, c5, rfl⟩ := Kd.S_slice hv5
  have HV5 := Aside0.mk hv5
  have HV4b := Aside0.mk (HV4.out.below hb4)
  have HV3c := Aside0.mk (Kd.R_below HV3b.out hb4)
  have HB4 := Aside0.mk (HB3.out.trans (hb4.mono HB3.out.size))
  have HX4 := Aside0.mk (show w3.heap.size ≤ w4.heap.size from hb4.size)
  clear hv5 hb4 hcv
  go_wp2_with (fail)
  refine (frame_Split.calls _ _ L a L.length 0 _ (HG.out.below HB4.out) (JV.reads' HV4b.out).2.2 (JV.reads' HV4b.out).2.1 F3.out).mono ?_
  rintro e w5 ⟨v6, rfl, hv6, hb5⟩
  obtain ⟨A6, c6, rfl⟩ := Kd.S_slice hv6
  have HI := Aside0.mk (show OwI w w3.heap.size w4.heap.size (.slice A4 L.length c4) L (.slice A3 b.length c3) b (.slice A6 a.length c6) a A5 w5 from
    ⟨(HV4b.out.below hb5).lower HB2.out.size, fun k hk => HV4.out.lt k hk, Kd.R_lower (Kd.R_below HV3c.out hb5) HX2.out, hv6, fun j hj => by
      obtain ⟨go, co, e, h1, Aj, cj, h2, h3⟩ := MR.of HV5.out j hj
      refine ⟨go, co, e, blk_below h1 hb5, Aj, cj, h2, fun hp => ?_⟩
      obtain ⟨g, cs, e', k1, k2, k3, k4⟩ := h3 hp
      exact ⟨g, cs, e', k1, k2, blk_below k3 hb5, k4⟩, HB4.out.trans (hb5.mono HB4.out.size), HB3.out.size⟩)
  have HB5 := Aside0.mk (HB4.out.trans (hb5.mono HB4.out.size))
  clear hv6 hb5 HV4 HV4b HV3b HV3c HV5
  go_wp2
  go_loopg [15, 16] a.length (fun gm v15 v16 w' => ∃ i : Nat, v15 = .int .i64 i ∧ i + gm = a.length ∧ Aside0 (OwI w w3.heap.size w4.heap.size (.slice A4 L.length c4) L (.slice A3 b.length c3) b (.slice A6 a.length c6) a A5 w'))
  case atStart => exact ⟨0, rfl, by omega, HI⟩
  case round =>
    obtain ⟨i, rfl, hi, HJ⟩ := hrel
    clear HI
    by_cases hlt : i < a.length
    · have d1 : decide ((i : Int) < (a.length : Int)) = true := by simp only [decide_eq_true_eq]; omega
      obtain ⟨G, hG_⟩ : ∃ n, n = gk := ⟨_, rfl⟩
      have h300 : (rd_L2 a i).length ≤ 300 := H3.out _ (rd_mem2 hlt)
      go_wp2
      go_loopg [16] (rd_L2 a i).length (fun gm v16 w' => ∃ k : Nat, v16 = .int .i64 k ∧ k + gm = (rd_L2 a i).length ∧ Aside0 (OwI w w3.heap.size w4.heap.size (.slice A4 L.length c4) L (.slice A3 b.length c3) b (.slice A6 a.length c6) a A5 w'))
      case atStart => exact ⟨0, rfl, by omega, HJ⟩
      case round =>
        obtain ⟨k, rfl, hk, HK⟩ := hrel
        clear HJ
        obtain ⟨go, co, eA, h1, Aj, cj, h2, h3⟩ := HK.out.m i hlt
        subst eA
        have y1 := (blk_cell h1 i).trans h2
        have f1 : (i : Int) < (a.length : Int) := by omega
        by_cases hk2 : k < (rd_L2 a i).length
        · obtain ⟨g, cs, rfl, k1, k2, k3, k4⟩ := h3 (by omega)
          obtain ⟨x, hx⟩ := k4 k hk2
          have y2 := (blk_cell k3 k).trans hx
          have z2 := blk_frozen k3 k
          have d2 : decide ((k : Int) < ((rd_L2 a i).length : Int)) = true := by simp only [decide_eq_true_eq]; omega
          have f2 : (k : Int) < ((rd_L2 a i).length : Int) := by omega
          have K3 := Aside0.mk k3
          have K1 := Aside0.mk k1
          have K2 := Aside0.mk k2
          clear h3 k4 h1 h2 hx k3 k1 k2
          go_wp2
          go_region
          go_wp2
          go_roundg (gk - 1)
          case measure => omega
          case rel => exact ⟨k + 1, by go_num, by omega, ⟨HK.out.put K3.out K1.out K2.out _⟩⟩
        · obtain rfl : k = (rd_L2 a i).length := by omega
          have d2 : decide (((rd_L2 a i).length : Int) < ((rd_L2 a i).length : Int)) = false := by simp
          clear h3
          go_wp2
          go_roundg (G - 1)
          case measure => omega
          case rel => exact ⟨i + 1, by go_num, by omega, HK⟩
    · obtain rfl : i = a.length := by omega
      have d1 : decide ((a.length : Int) < (a.length : Int)) = false := by simp
      have hcv := HJ.out.log.string
      rw [← HS.out] at hcv
      go_wp2_with (fail)
      refine (transeptref04_Join.calls 210000 _ _ b S _ (Kd.R_reads' HJ.out.strs).2.2 (Kd.R_reads' HJ.out.strs).2.1 F4.out).mono ?_
      rintro e w6 ⟨rfl, hb6⟩
      have HN := Aside0.mk (Kd.S_below HJ.out.n hb6)
      have HR3 := Aside0.mk (Kd.R_below HJ.out.strs hb6)
      have HLG := Aside0.mk (HJ.out.log.below hb6)
      have HB6 := Aside0.mk (HJ.out.below.trans (hb6.mono HJ.out.below.size))
      have HLT := Aside0.mk HJ.out.loglt
      clear hb6 hcv HJ
      go_wp2
      go_loopg [18] L.length (fun gm v18 w' => ∃ (k : Nat) (M : List Int), v18 = .int .i64 k ∧ k + gm = L.length ∧ Aside0 (M.length = L.length) ∧ Aside0 (JV w' w.heap.size (fun _ => True) (.slice A4 L.length c4) M) ∧ Aside0 (Kd.R Kd.string 9 w' w.heap.size (fun _ => True) (.slice A3 b.length c3) b) ∧ Aside0 (Kd.S KdB 22 w' w4.heap.size (fun _ => True) (.slice A6 a.length c6) a) ∧ Aside0 (Below w.heap.size w w'))
      case atStart => exact ⟨0, L, rfl, by omega, ⟨rfl⟩, HLG, HR3, HN, HB6⟩
      case round =>
        obtain ⟨k, M, rfl, hk, HM, HX, HY, HZ, HB⟩ := hrel
        clear HLG HR3 HN HB6
        by_cases hlt : k < L.length
        · have d1 : decide ((k : Int) < (L.length : Int)) = true := by simp only [decide_eq_true_eq]; omega
          obtain ⟨g, cap, e, hg1, hg2, _⟩ := HX.out.form (by rw [HM.out]; omega)
          injection e with e1 e2 e3
          subst e1
          obtain ⟨y1, z1⟩ := JV.celln HX.out (k : Int) (by omega) (by omega)
          obtain ⟨hp1, hp2⟩ := JV.putg HX.out (k : Int) 0
          rw [Int.toNat_natCast] at y1 z1 hp1 hp2
          have hgl := HLT.out g (by simp [Value.ownBlock])
          have HP1 := Aside0.mk hp1
          have HP2 := Aside0.mk (JV.over HY.out HX.out (by simpa [Value.ownBlock] using hp2))
          have HP3 := Aside0.mk (Kd.S_mono (Kd.S_far (p := ⟨g, k, none⟩) (Kd.S_bound HZ.out) (fun q hq e => by have := hq.2.1; have := HX4.out; have e' : q = g := e; omega) (.int .u8 0)) (fun _ hk => hk.1))
          have HP4 := Aside0.mk (Below.setCell HB.out (p := ⟨g, k, none⟩) hg1 (.int .u8 0))
          clear hp1 hp2 e2 e3
          go_wp2
          go_roundg (gk - 1)
          case measure => omega
          case rel => exact ⟨k + 1, M.set k 0, by go_num, by omega, ⟨by rw [List.length_set]; exact HM.out⟩, HP1, HP2, HP3, HP4⟩
        · obtain rfl : k = L.length := by omega
          have d1 : decide ((L.length : Int) < (L.length : Int)) = false := by simp
          go_wp2_with (fail)
          refine (transeptlaw04_same.calls 100 _ _ a _ _ b true _ (Kd.S_reads' HZ.out).2.2 (Kd.S_reads' HZ.out).2.1 (Kd.R_reads' HY.out).2.2 (Kd.R_reads' HY.out).2.1 F5.out).mono ?_
          rintro e w7 ⟨rfl, nd, rfl⟩
          go_wp2
          go_ret
          exact ⟨rfl, pw_below_drewN HB.out nd⟩
end Go.Proofs.YtojagnoobaleaaaDoor.Ext
