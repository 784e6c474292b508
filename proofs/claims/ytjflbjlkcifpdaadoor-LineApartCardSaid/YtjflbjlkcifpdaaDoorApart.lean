/- LineApart: by hand. Written by a program of this session (wip/tools). -/
import Derived.Test.YtjflbjlkcifpdaaDoorLineP
namespace Go.Proofs.YtjflbjlkcifpdaaDoor.Ext
open Go.RowKit Go.Proofs.YtjflbjlkcifpdaaDoor.Xa Go.Proofs.YtjflbjlkcifpdaaDoorW.PrintWords Go.Proofs.YtjflbjlkcifpdaaDoorW.PrintLast Go.Proofs.YtjflbjlkcifpdaaDoorW.PrintMore
open Go.Maps (Tidy)
set_option linter.unusedVariables false
set_option linter.unusedSimpArgs false
/-- A line, and one that got of one fetch alone what the first one took. -/
structure Ap (id : Int) (X Y : LS) : Prop where
  tx : Tidy X.D
  ty : Tidy Y.D
  cle : Y.c ≤ X.c
  c0 : Y.c = 0 → X.c = 0
  last : Y.last ≤ X.last
  size : X.size = 0 → Y.size = 0
  has : Y.has id = X.has id
  st : Y.st id = X.st id
  op : Y.has id = false → Y.op = 0
  xc : X.c ≤ 4096
theorem Ap.start (id : Int) : Ap id L0 L0 := ⟨tidy_L0, tidy_L0, Nat.le_refl _, fun h => h, Int.le_refl _, fun h => h, rfl, rfl, fun _ => rfl, by decide⟩
theorem Taken.time' {X : LS} {e : S31} (h : Taken X e) : X.last ≤ e.f1 := by have := h.time; omega
theorem Ap.skip {id : Int} {X Y : LS} {e : S31} (h : Ap id X Y) (ht : Taken X e) (ha : ¬ alone e) (hi : e.f2 ≠ id) : Ap id (next X e) Y := by
  have hc : X.c ≠ 0 := may_c ht.may (fun h1 => ha (.inl h1))
  refine ⟨next_tidy h.tx, h.ty, by rw [next_c]; have := h.cle; omega, fun h0 => absurd (h.c0 h0) hc, by rw [next_last]; exact Int.le_trans h.last ht.time', ?_, ?_, ?_, h.op, ?_⟩
  · intro h0
    exact absurd h0 (has_size (next_has_same h.tx ha) (next_tidy h.tx))
  · rw [next_has_other (Ne.symm hi)]; exact h.has
  · rw [next_st_other (Ne.symm hi)]; exact h.st
  · rw [next_c]; have := h.xc; have := ht.room; omega
theorem Ap.takes {id : Int} {X Y : LS} {e : S31} (h : Ap id X Y) (ht : Taken X e) (ho : alone e ∨ e.f2 = id) : Taken Y e := by
  have hk := rightS_kind ht.right
  have hm := ht.may
  refine ⟨ht.right, by have := h.cle; have := h.xc; have := ht.room; omega, by have := h.last; have := ht.time; omega, ?_, ?_⟩
  · by_cases h1 : e.f0 = 1
    · rw [h1, may_page] at hm ⊢
      have := h.cle
      have h0 : X.c = 0 := by simpa using hm
      exact decide_eq_true (by omega)
    have hc := may_c hm h1
    have hcy : Y.c ≠ 0 := fun h0 => hc (h.c0 h0)
    by_cases h2 : e.f0 = 2
    · rw [h2, may_pol hc] at hm
      rw [h2, may_pol hcy]
      exact decide_eq_true (h.size (by simpa using hm))
    have hid : e.f2 = id := by rcases ho with (ho | ho) | ho; exact absurd ho h1; exact absurd ho h2; exact ho
    by_cases h3 : e.f0 = 3
    · rw [h3, may_sta hc] at hm
      rw [h3, may_sta hcy, hid, h.has, ← hid]; exact hm
    · rw [may_res hc (by omega)] at hm
      rw [may_res hcy (by omega), hid, h.st, ← hid]; exact hm
  · intro h3
    have ha : ¬ alone e := fun ha => by rcases ha with ha | ha <;> omega
    have hid : e.f2 = id := by rcases ho with ho | ho; exact absurd ho ha; exact ho
    have hc := may_c hm (by omega)
    rw [h3, may_sta hc, hid] at hm
    have : Y.op = 0 := h.op (by rw [h.has]; simpa using hm)
    omega
theorem next_op_alone (X : LS) {e : S31} (h : alone e) : (next X e).op = X.op := by
  unfold next
  have : e.f0 ≠ 3 := by rcases h with h | h <;> omega
  rw [if_neg this, if_pos (show (e.f0 = 1 ∨ e.f0 = 2) from h)]
theorem Ap.both {id : Int} {X Y : LS} {e : S31} (h : Ap id X Y) (ht : Taken X e) (ho : alone e ∨ e.f2 = id) : Ap id (next X e) (next Y e) := by
  refine ⟨next_tidy h.tx, next_tidy h.ty, by rw [next_c, next_c]; have := h.cle; omega, fun h0 => by rw [next_c] at h0; omega, by rw [next_last, next_last]; exact Int.le_refl _, ?_, ?_, ?_, ?_, by rw [next_c]; have := h.xc; have := ht.room; omega⟩
  · intro h0
    by_cases ha : alone e
    · rw [next_size_alone ha] at h0 ⊢; exact h.size h0
    · exact absurd h0 (has_size (next_has_same h.tx ha) (next_tidy h.tx))
  · by_cases ha : alone e
    · rw [next_has_alone ha, next_has_alone ha]; exact h.has
    · have hid : e.f2 = id := by rcases ho with ho | ho; exact absurd ho ha; exact ho
      rw [← hid, next_has_same h.tx ha, next_has_same h.ty ha]
  · by_cases ha : alone e
    · rw [next_st_alone ha, next_st_alone ha]; exact h.st
    · have hid : e.f2 = id := by rcases ho with ho | ho; exact absurd ho ha; exact ho
      rw [← hid, next_st_same h.tx ha, next_st_same h.ty ha]
  · intro h0
    by_cases ha : alone e
    · rw [next_has_alone ha] at h0; rw [next_op_alone _ ha]; exact h.op h0
    · have hid : e.f2 = id := by rcases ho with ho | ho; exact absurd ho ha; exact ho
      rw [← hid, next_has_same h.ty ha] at h0; cases h0
set_option maxHeartbeats 4000000 in
theorem apart_calls (A0 : Option Addr) (c0 : Nat) (l : List S31) (id : Int) (hid : (Lit.int .u64 id).wf = true) (w : World) (hG : Glob w) (hr : Kd.C k31 w A0 l.length l) (hwf : ∀ i, (Lit.int .u64 (rd_T31 l i).f2).wf = true) (hwt : ∀ i, (Lit.int .u64 (rd_T31 l i).f1).wf = true) :
    Calls Tryd.prog 4 #[.slice A0 l.length c0, .int .u64 id] w fun e w' => e = .returned (.bool true) ∧ Below w.heap.size w w' := by
  have HG := Aside0.mk hG
  have HR := Aside0.mk hr
  have HWF := Aside0.mk hwf
  have HWT := Aside0.mk hwt
  obtain ⟨n, hnl⟩ : ∃ n : Int, (l.length : Int) = n := ⟨_, rfl⟩
  have HN := Aside0.mk hnl
  have hn0 : 0 ≤ n := by omega
  have hn1 : n ≤ 9223372036854775807 := by have := hr.2.1; omega
  have HID := Aside0.mk hid
  clear hG hr hwf hwt hid
  go_enter Tryd.func4, Tryd.ntmps4
  go_wp2_with (fail)
  refine (shown_calls w HG.out).mono ?_
  rintro e w0 ⟨rfl, hb0⟩
  have HB0 := Aside0.mk hb0
  clear hb0
  go_wp2_with (fail)
  refine (new_calls w0).mono ?_
  rintro e w1 ⟨g, gm, rfl, hl, hg, hm, hb⟩
  have H1 := Aside0.mk (Wl.mk (below_then HB0.out HB0.out.size hb) hl (Nat.le_trans HB0.out.size hg) (Nat.le_trans HB0.out.size hm))
  clear hl hg hm hb
  go_wp2_with (fail)
  refine (new_calls w1).mono ?_
  rintro e w2 ⟨h, hm, rfl, hl, hh, hhm, hb⟩
  have H2 := Aside0.mk (W2.start H1.out hl hh hhm hb)
  clear hl hh hhm hb H1
  go_wp2_with (fail)
  go_loopg [8] n.toNat (fun m v8 W => ∃ (I : Int) (X Y : LS), v8 = .int .i64 I ∧ 0 ≤ I ∧ I ≤ 150 ∧ I + m = n ∧ Aside0 (W2 w W g gm h hm X Y ∧ Ap id X Y))
  case atStart => exact ⟨0, L0, L0, rfl, Int.le_refl _, by omega, by omega, ⟨H2.out, Ap.start id⟩⟩
  case round =>
    obtain ⟨I, X, Y, rfl, hI0, hI150, hIm, HXT⟩ := hrel
    have HX := Aside0.mk HXT.out.1
    have HP := Aside0.mk HXT.out.2
    clear HXT
    by_cases hi : I < n
    · by_cases hi2 : I < 150
      · obtain ⟨ad, hA, e0, e1, e2, e3, e4, e5, e6, e7, e8, e9⟩ := at_T31 (Kd.C_below HR.out HX.out.a.bel) I hI0 (by have := HN.out; omega)
        subst hA
        go_wp2_with (fail)
        refine (feed_calls (rd_T31 l I) (HG.out.below HX.out.a.bel) HX.out.a.ln (HWF.out I)).mono ?_
        obtain ⟨r, hr⟩ : ∃ r, (feedF X (rd_T31 l I)).1 = r := ⟨_, rfl⟩
        have HRR := Aside0.mk hr
        rw [hr]
        rintro e w3 ⟨rfl, hl, hv⟩
        have HX2 := Aside0.mk (HX.out.feedA hl hv)
        clear hl hv HX hr
        clear e0 e1 e2 e3 e4 e5 e6 e7 e8 e9
        obtain ⟨ad2, hA2, e0, e1, e2, e3, e4, e5, e6, e7, e8, e9⟩ := at_T31 (Kd.C_below HR.out HX2.out.a.bel) I hI0 (by have := HN.out; omega)
        obtain rfl := Option.some.inj hA2
        clear hA2
        obtain ⟨F0, hF0⟩ : ∃ F, (rd_T31 l I).f0 = F := ⟨_, rfl⟩
        obtain ⟨F2, hF2⟩ : ∃ F, (rd_T31 l I).f2 = F := ⟨_, rfl⟩
        rw [hF0] at e0
        rw [hF2] at e2
        have HF0 := Aside0.mk hF0
        have HF2 := Aside0.mk hF2
        clear hF0 hF2
        by_cases hr0 : r = 0
        case neg =>
          have hx : (r == 0) = false := by rw [beq_eq_false_iff_ne]; exact hr0
          have HP2 : Aside0 (Ap id (feedF X (rd_T31 l I)).2 Y) := by rw [feedF_no X _ (by rw [HRR.out]; exact hr0)]; exact HP
        
          go_wp2
          all_goals
            go_roundg (gk - 1)
            case measure => omega
            case rel => exact ⟨I + 1, _, Y, rfl, by omega, by omega, by omega, ⟨HX2.out, HP2.out⟩⟩
        case pos =>
        subst hr0
        have HTK := Aside0.mk ((feedF_ok X _).1 HRR.out)
        have HX3 : Aside0 (W2 w w3 g gm h hm (next X (rd_T31 l I)) Y) := by have t := HX2.out; rw [feedF_next HTK.out] at t; exact ⟨t⟩
        by_cases hsk : 3 ≤ F0 ∧ F2 ≠ id
        case pos =>
          obtain ⟨h3, h4⟩ := hsk
          have h5 : (F2 == id) = false := by rw [beq_eq_false_iff_ne]; exact h4
          have HP2 := Aside0.mk (HP.out.skip HTK.out (fun ha => by have h := HF0.out; rcases ha with ha | ha <;> omega) (by rw [HF2.out]; exact h4))
        
          go_wp2
          all_goals
            go_roundg (gk - 1)
            case measure => omega
            case rel => exact ⟨I + 1, _, Y, rfl, by omega, by omega, by omega, ⟨HX3.out, HP2.out⟩⟩
        case neg =>
        have HO : Aside0 (alone (rd_T31 l I) ∨ (rd_T31 l I).f2 = id) := ⟨by
          have hk := rightS_kind HTK.out.right
          have h1 := HF0.out
          have h2 := HF2.out
          by_cases h3 : 3 ≤ F0
          · right; rw [h2]; exact Classical.byContradiction (fun h => hsk ⟨h3, h⟩)
          · left; show _ ∨ _; omega⟩
        have HTY := Aside0.mk (HP.out.takes HTK.out HO.out)
        have HP2 := Aside0.mk (HP.out.both HTK.out HO.out)
        have hgo : F0 < 3 ∨ F2 = id := by
          by_cases h3 : 3 ≤ F0
          · right; exact Classical.byContradiction (fun h => hsk ⟨h3, h⟩)
          · left; omega
        clear hsk
        clear HX2 HP
        rcases hgo with hgo | hgo
        · go_wp2_with (fail)
          refine Calls.mono (by have t_ := feed_calls (rd_T31 l I) (HG.out.below HX3.out.a.bel) HX3.out.b.ln (HWF.out I); unfold evV at t_; rw [HF0.out, HF2.out] at t_; exact t_) ?_
          rw [feedF_next HTY.out]
          rintro e w4 ⟨rfl, hl, hv⟩
          have HX4 := Aside0.mk (HX3.out.feedB hl hv)
          clear hl hv HX3
          clear e0 e1 e2 e3 e4 e5 e6 e7 e8 e9
          obtain ⟨ad3, hA3, e0, e1, e2, e3, e4, e5, e6, e7, e8, e9⟩ := at_T31 (Kd.C_below HR.out HX4.out.a.bel) I hI0 (by have := HN.out; omega)
          obtain rfl := Option.some.inj hA3
          clear hA3
          rw [HF0.out] at e0
          rw [HF2.out] at e2
          go_wp2
          all_goals
            go_roundg (gk - 1)
            case measure => omega
            case rel => exact ⟨I + 1, _, _, rfl, by omega, by omega, by omega, ⟨HX4.out, HP2.out⟩⟩
        · subst hgo
          by_cases h3 : 3 ≤ F0
          · go_wp2_with (fail)
            refine Calls.mono (by have t_ := feed_calls (rd_T31 l I) (HG.out.below HX3.out.a.bel) HX3.out.b.ln (HWF.out I); unfold evV at t_; rw [HF0.out, HF2.out] at t_; exact t_) ?_
            rw [feedF_next HTY.out]
            rintro e w4 ⟨rfl, hl, hv⟩
            have HX4 := Aside0.mk (HX3.out.feedB hl hv)
            clear hl hv HX3
            clear e0 e1 e2 e3 e4 e5 e6 e7 e8 e9
            obtain ⟨ad3, hA3, e0, e1, e2, e3, e4, e5, e6, e7, e8, e9⟩ := at_T31 (Kd.C_below HR.out HX4.out.a.bel) I hI0 (by have := HN.out; omega)
            obtain rfl := Option.some.inj hA3
            clear hA3
            rw [HF0.out] at e0
            rw [HF2.out] at e2
            go_wp2_with (fail)
            refine (state_calls HX4.out.b.ln HID.out).mono ?_
            rintro e w5 ⟨rfl, hw5⟩
            subst w5
            go_wp2_with (fail)
            refine (state_calls HX4.out.a.ln HID.out).mono ?_
            rintro e w5 ⟨rfl, hw5⟩
            subst w5
            rw [HP2.out.st]
            go_wp2
            all_goals
              go_roundg (gk - 1)
              case measure => omega
              case rel => exact ⟨I + 1, _, _, rfl, by omega, by omega, by omega, ⟨HX4.out, HP2.out⟩⟩
          · have hgo : F0 < 3 := by omega
            clear h3
            go_wp2_with (fail)
            refine Calls.mono (by have t_ := feed_calls (rd_T31 l I) (HG.out.below HX3.out.a.bel) HX3.out.b.ln (HWF.out I); unfold evV at t_; rw [HF0.out, HF2.out] at t_; exact t_) ?_
            rw [feedF_next HTY.out]
            rintro e w4 ⟨rfl, hl, hv⟩
            have HX4 := Aside0.mk (HX3.out.feedB hl hv)
            clear hl hv HX3
            clear e0 e1 e2 e3 e4 e5 e6 e7 e8 e9
            obtain ⟨ad3, hA3, e0, e1, e2, e3, e4, e5, e6, e7, e8, e9⟩ := at_T31 (Kd.C_below HR.out HX4.out.a.bel) I hI0 (by have := HN.out; omega)
            obtain rfl := Option.some.inj hA3
            clear hA3
            rw [HF0.out] at e0
            rw [HF2.out] at e2
            go_wp2
            all_goals
              go_roundg (gk - 1)
              case measure => omega
              case rel => exact ⟨I + 1, _, _, rfl, by omega, by omega, by omega, ⟨HX4.out, HP2.out⟩⟩
      · go_wp2
        go_ret
        exact ⟨rfl, HX.out.a.bel⟩
    · go_wp2
      go_ret
      exact ⟨rfl, HX.out.a.bel⟩
end Go.Proofs.YtjflbjlkcifpdaaDoor.Ext
