/- LineAgain: by hand. Written by a program of this session (wip/tools). -/
import Derived.Test.YtjflbjlkcifpdaaDoorLineP
import Derived.OwnWalk
namespace Go.Proofs.YtjflbjlkcifpdaaDoor.Ext
open Go.RowKit Go.Proofs.YtjflbjlkcifpdaaDoor.Xa Go.Proofs.YtjflbjlkcifpdaaDoorW.PrintWords Go.Proofs.YtjflbjlkcifpdaaDoorW.PrintLast Go.Proofs.YtjflbjlkcifpdaaDoorW.PrintMore
open Go.Maps (Tidy)
set_option linter.unusedVariables false
set_option linter.unusedSimpArgs false
theorem info31 : (Tryd.prog.info? 31).map (fun i => (i.zero, i.size, i.bytes)) = some (some (.agg #[.int .i64 0, .int .u64 0, .int .u64 0, .string ⟨#[]⟩, .string ⟨#[]⟩, .string ⟨#[]⟩, .string ⟨#[]⟩, .int .i64 0, .int .i64 0, .int .i64 0]), 10, 112) := by kernel_rfl
/-- All of a row are taken, one behind the other. -/
def plays : LS → List S31 → LS → Prop
  | X, [], Y => Y = X
  | X, e :: es, Y => Taken X e ∧ plays (next X e) es Y
theorem plays_snoc {e : S31} : ∀ {ys : List S31} {X Y : LS}, plays X ys Y → Taken Y e → plays X (ys ++ [e]) (next Y e)
  | [], X, Y, h, ht => by have h' : Y = X := h; subst h'; exact ⟨ht, rfl⟩
  | _ :: _, X, Y, h, ht => ⟨h.1, plays_snoc h.2 ht⟩
theorem plays_at {X : LS} {ys : List S31} {Y : LS} (j : Int) (h0 : 0 ≤ j) (h1 : j < ys.length) (h : plays X (ys.drop j.toNat) Y) : Taken X (rd_T31 ys j) ∧ plays (next X (rd_T31 ys j)) (ys.drop (j + 1).toNat) Y := by
  have hj : j.toNat < ys.length := by omega
  have e : ys.drop j.toNat = rd_T31 ys j :: ys.drop (j + 1).toNat := by
    rw [show (j + 1).toNat = j.toNat + 1 by omega, List.drop_eq_getElem_cons hj]
    simp [rd_T31, List.getD_eq_getElem?_getD, List.getElem?_eq_getElem hj]
  rw [e] at h
  exact h
theorem rd_snoc (ys : List S31) (e : S31) (P : S31 → Prop) (h : ∀ i, P (rd_T31 ys i)) (he : P e) (hz : P z31) : ∀ i, P (rd_T31 (ys ++ [e]) i) := by
  intro i
  by_cases h1 : i.toNat < ys.length
  · have := h i
    simp only [rd_T31, List.getD_eq_getElem?_getD, List.getElem?_append_left h1] at this ⊢
    exact this
  · by_cases h2 : i.toNat = ys.length
    · simpa [rd_T31, List.getD_eq_getElem?_getD, h2] using he
    · have h3 : (ys ++ [e])[i.toNat]? = none := List.getElem?_eq_none (by simp; omega)
      simpa [rd_T31, List.getD_eq_getElem?_getD, h3] using hz
/-- The line and what it took. -/
structure Ag (w W : World) (g gm : Nat) (v : Value) (X : LS) (ys : List S31) : Prop where
  ln : Wl w W g gm X
  rt : Kd.R k31 31 W w.heap.size (fun k => k ≠ g ∧ k ≠ gm) v ys
section
variable {w W W1 : World} {g gm : Nat} {v v1 : Value} {X X1 : LS} {ys zs : List S31}
theorem Ag.start (h : Wl w W g gm X) : Ag w W g gm (.slice none 0 0) X [] := ⟨h, Kd.R_nil _ _ _ _ _⟩
theorem Ag.feed (h : Ag w W g gm v X ys) (hl : Ln W1 g gm X1) (hv : Mv W W1 g gm) : Ag w W1 g gm v X1 ys :=
  ⟨h.ln.feed hl hv, Kd.R_step h.rt (fun k hk hlt => hv.block k hlt hk.1 hk.2)⟩
theorem Ag.fresh (h : Ag w W g gm v X ys) : ∀ k, W.heap.size ≤ k → (k ≠ g ∧ k ≠ gm) := fun k hk => ⟨by have := h.ln.ln.lt; omega, by have := h.ln.ln.ltm; omega⟩
theorem ln_grown {row : Option Nat} (h : Ln W g gm X) (hg : W.grownBy W1 row) (h1 : some g ≠ row) (h2 : some gm ≠ row) : Ln W1 g gm X := h.step (hg.block g h.lt h1) (hg.block gm h.ltm h2)
theorem Ag.push (h : Ag w W g gm v X ys) (hR : Kd.R k31 31 W1 w.heap.size (fun k => k ≠ g ∧ k ≠ gm) v1 zs) (hb : Below w.heap.size w W1) (hg : W.grownBy W1 v.ownBlock) : Ag w W1 g gm v1 X zs :=
  ⟨⟨hb, ln_grown h.ln.ln hg (fun he => (h.rt.1 g he.symm).1 rfl) (fun he => (h.rt.1 gm he.symm).2 rfl), h.ln.lo, h.ln.lom⟩, hR⟩
end
/-- The two lines and what the first one took. -/
structure Ag2 (w W : World) (g gm h hm : Nat) (v : Value) (X Y : LS) (ys : List S31) : Prop where
  ln : W2 w W g gm h hm X Y
  rt : Kd.R k31 31 W w.heap.size (fun k => k ≠ h ∧ k ≠ hm) v ys
section
variable {w W W1 : World} {g gm h hm : Nat} {v v1 : Value} {X Y Y1 : LS} {ys zs : List S31}
theorem Ag2.start (H : Ag w W g gm v X ys) (hl : Ln W1 h hm Y) (h1 : W.heap.size ≤ h) (h2 : W.heap.size ≤ hm) (hb : Below W.heap.size W W1) : Ag2 w W1 g gm h hm v X Y ys :=
  ⟨W2.start H.ln hl h1 h2 hb, Kd.R_mono (Kd.R_below (Kd.R_bound H.rt) hb) (fun k hk => by have := hk.2.2.1; exact ⟨by omega, by omega⟩)⟩
theorem Ag2.below (H : Ag2 w W g gm h hm v X Y ys) (hb : Below W.heap.size W W1) : Ag2 w W1 g gm h hm v X Y ys := ⟨H.ln.below hb, Kd.R_below H.rt hb⟩
theorem Ag2.feed (H : Ag2 w W g gm h hm v X Y ys) (hl : Ln W1 h hm Y1) (hv : Mv W W1 h hm) : Ag2 w W1 g gm h hm v X Y1 ys :=
  ⟨H.ln.feedB hl hv, Kd.R_step H.rt (fun k hk hlt => hv.block k hlt hk.1 hk.2)⟩
end
set_option maxHeartbeats 8000000 in
set_option maxRecDepth 100000 in
theorem again_calls (A0 : Option Addr) (c0 : Nat) (l : List S31) (w : World) (hG : Glob w) (hr : Kd.C k31 w A0 l.length l) (hwf : ∀ i, (Lit.int .u64 (rd_T31 l i).f2).wf = true) (hwt : ∀ i, (Lit.int .u64 (rd_T31 l i).f1).wf = true) :
    Calls Tryd.prog 6 #[.slice A0 l.length c0] w fun e w' => e = .returned (.bool true) ∧ Below w.heap.size w w' := by
  have HG := Aside0.mk hG
  have HR := Aside0.mk hr
  have HWF := Aside0.mk hwf
  have HWT := Aside0.mk hwt
  obtain ⟨n, hnl⟩ : ∃ n : Int, (l.length : Int) = n := ⟨_, rfl⟩
  have HN := Aside0.mk hnl
  have hn0 : 0 ≤ n := by omega
  have hn1 : n ≤ 9223372036854775807 := by have := hr.2.1; omega
  clear hG hr hwf hwt
  go_enter Tryd.func6, Tryd.ntmps6
  go_wp2_with (fail)
  refine (shown_calls w HG.out).mono ?_
  rintro e w0 ⟨rfl, hb0⟩
  have HB0 := Aside0.mk hb0
  clear hb0
  go_wp2_with (fail)
  refine (new_calls w0).mono ?_
  rintro e w1 ⟨g, gm, rfl, hl, hg, hm, hb⟩
  have H1 := Aside0.mk (Wl.mk (below_then HB0.out HB0.out.size hb) hl (Nat.le_trans HB0.out.size hg) (Nat.le_trans HB0.out.size hm))
  clear hl hg hm hb
  go_wp2_with (fail)
  go_loopg [5, 6] n.toNat (fun m v5 v6 W => ∃ (I : Int) (X : LS) (ys : List S31) (vt : Value), v5 = vt ∧ v6 = .int .i64 I ∧ 0 ≤ I ∧ I ≤ 200 ∧ I + m = n ∧ Aside0 (Ag w W g gm vt X ys ∧ plays L0 ys X ∧ (ys.length : Int) ≤ I ∧ ∀ i, (Lit.int .u64 (rd_T31 ys i).f2).wf = true))
  case atStart => exact ⟨0, L0, [], _, rfl, rfl, Int.le_refl _, by omega, by omega, ⟨Ag.start H1.out, rfl, by simp, fun i => by simp [rd_T31, z31]; decide⟩⟩
  case round =>
    obtain ⟨I, X, ys, vt, rfl, rfl, hI0, hI200, hIm, HXT⟩ := hrel
    have HX := Aside0.mk HXT.out.1
    have HP := Aside0.mk HXT.out.2.1
    have HLL := Aside0.mk HXT.out.2.2.1
    have HYW := Aside0.mk HXT.out.2.2.2
    clear HXT
    obtain ⟨At, ct, hvt, hct, hCt⟩ := Kd.R_reads HX.out.rt
    subst hvt
    clear hct hCt
    by_cases hi : I < n
    · by_cases hi2 : I < 200
      · obtain ⟨ad, hA, e0, e1, e2, e3, e4, e5, e6, e7, e8, e9⟩ := at_T31 (Kd.C_below HR.out HX.out.ln.bel) I hI0 (by have := HN.out; omega)
        subst hA
        go_wp2_with (fail)
        refine (feed_calls (rd_T31 l I) (HG.out.below HX.out.ln.bel) HX.out.ln.ln (HWF.out I)).mono ?_
        obtain ⟨r, hr⟩ : ∃ r, (feedF X (rd_T31 l I)).1 = r := ⟨_, rfl⟩
        have HRR := Aside0.mk hr
        rw [hr]
        rintro e w3 ⟨rfl, hl, hv⟩
        have HX2 := Aside0.mk (HX.out.feed hl hv)
        clear hl hv HX hr
        clear e0 e1 e2 e3 e4 e5 e6 e7 e8 e9
        obtain ⟨ad2, hA2, e0, e1, e2, e3, e4, e5, e6, e7, e8, e9⟩ := at_T31 (Kd.C_below HR.out HX2.out.ln.bel) I hI0 (by have := HN.out; omega)
        obtain rfl := Option.some.inj hA2
        clear hA2
        by_cases hr0 : r = 0
        case neg =>
          have hx : (r == 0) = false := by rw [beq_eq_false_iff_ne]; exact hr0
          have HX3 : Aside0 (Ag w w3 g gm (.slice At ys.length ct) X ys) := by have t := HX2.out; rw [feedF_no X _ (by rw [HRR.out]; exact hr0)] at t; exact ⟨t⟩
          go_wp2
          all_goals
            go_roundg (gk - 1)
            case measure => omega
            case rel => exact ⟨I + 1, X, ys, _, rfl, rfl, by omega, by omega, by omega, ⟨HX3.out, HP.out, by have h := HLL.out; omega, HYW.out⟩⟩
        case pos =>
        subst hr0
        have HTK := Aside0.mk ((feedF_ok X _).1 HRR.out)
        have HX3 : Aside0 (Ag w w3 g gm (.slice At ys.length ct) (next X (rd_T31 l I)) ys) := by have t := HX2.out; rw [feedF_next HTK.out] at t; exact ⟨t⟩
        clear HX2
        have HP2 := Aside0.mk (plays_snoc HP.out HTK.out)
        have HYW2 := Aside0.mk (rd_snoc ys (rd_T31 l I) (fun e => (Lit.int .u64 e.f2).wf = true) HYW.out (HWF.out I) (by decide))
        go_wp2_with (first
          | ((with_reducible refine gate_dst (N := 37) rfl ?_); refine Kd.R_append k31 (w0 := w) w.heap.size ?hgd_m (.tmp 31) (.tmp 36) 22 31 (.agg #[.int .i64 0, .int .u64 0, .int .u64 0, .string ⟨#[]⟩, .string ⟨#[]⟩, .string ⟨#[]⟩, .string ⟨#[]⟩, .int .i64 0, .int .i64 0, .int .i64 0]) 112 ?ho_m Tryd.underlying22 info31 rfl (by decide) (by decide) (.slice At ys.length ct) ys (rd_T31 l I) [.int .i64 (rd_T31 l I).f0, .int .u64 (rd_T31 l I).f1, .int .u64 (rd_T31 l I).f2, .string (rd_T31 l I).f3, .string (rd_T31 l I).f4, .string (rd_T31 l I).f5, .string (rd_T31 l I).f6, .int .i64 (rd_T31 l I).f7, .int .i64 (rd_T31 l I).f8, .int .i64 (rd_T31 l I).f9] (fun k => k ≠ g ∧ k ≠ gm) (fun _ => False) ?hs_m ?hx_m (k31_mkM _ _ _ _) (fun _ h => h.elim) HX3.out.fresh HX3.out.rt HX3.out.ln.bel HX3.out.ln.bel.size ?hl_m ?_; (case hgd_m => rfl); (case ho_m => rfl); (case hs_m => rfl); (case hx_m => rfl); (case hl_m => have h_ := HLL.out; omega); intro v1 w4 hR2 hb2 hg2 hat2; have HX4 := Aside0.mk (HX3.out.push hR2 hb2 hg2); clear hR2 hb2 hg2 hat2 HX3))
        all_goals
          go_roundg (gk - 1)
          case measure => omega
          case rel => exact ⟨I + 1, _, _, _, rfl, rfl, by omega, by omega, by omega, ⟨HX4.out, HP2.out, by have h := HLL.out; rw [List.length_append, List.length_singleton]; omega, HYW2.out⟩⟩
      · obtain ⟨m2, hm2⟩ : ∃ m : Int, (ys.length : Int) = m := ⟨_, rfl⟩
        have HM2 := Aside0.mk hm2
        have hm20 : 0 ≤ m2 := by omega
        have hm21 : m2 ≤ 200 := by have h := HLL.out; omega
        
        go_wp2_with (fail)
        refine (new_calls _).mono ?_
        rintro e w5 ⟨h, hm, rfl, hl, hh, hhm, hb⟩
        have H2 := Aside0.mk (Ag2.start HX.out hl hh hhm hb)
        clear hl hh hhm hb HX
        go_wp2_with (fail)
        go_loopg [8] m2.toNat (fun m v8 W => ∃ (J : Int) (Y : LS), v8 = .int .i64 J ∧ 0 ≤ J ∧ J + m = m2 ∧ Aside0 (Ag2 w W g gm h hm (.slice At ys.length ct) X Y ys ∧ plays Y (ys.drop J.toNat) X))
        case atStart => exact ⟨0, L0, rfl, Int.le_refl _, by omega, ⟨H2.out, HP.out⟩⟩
        case round =>
          obtain ⟨J, Y, rfl, hJ0, hJm, HXT⟩ := hrel
          have HX := Aside0.mk HXT.out.1
          have HQ := Aside0.mk HXT.out.2
          clear HXT
          by_cases hj : J < m2
          · obtain ⟨ad, hA, e0, e1, e2, e3, e4, e5, e6, e7, e8, e9⟩ := at_T31 (Kd.R_reads' HX.out.rt).2.2 J hJ0 (by have := HM2.out; omega)
            subst hA
            have HPA := Aside0.mk (plays_at J hJ0 (by have := HM2.out; omega) HQ.out)
            go_wp2_with (fail)
            refine (right_calls _ _ _ _ _ _ _ _ _ _ _ (HG.out.below HX.out.ln.a.bel)).mono ?_
            rw [show rightF (rd_T31 ys J).f0 (rd_T31 ys J).f2 (rd_T31 ys J).f3 (rd_T31 ys J).f4 (rd_T31 ys J).f5 (rd_T31 ys J).f6 (rd_T31 ys J).f7 (rd_T31 ys J).f8 (rd_T31 ys J).f9 = true from HPA.out.1.right]
            rintro e w6 ⟨rfl, hb6⟩
            have HX2 := Aside0.mk (HX.out.below hb6)
            clear hb6 HX e0 e1 e2 e3 e4 e5 e6 e7 e8 e9
            obtain ⟨ad3, hA3, e0, e1, e2, e3, e4, e5, e6, e7, e8, e9⟩ := at_T31 (Kd.R_reads' HX2.out.rt).2.2 J hJ0 (by have := HM2.out; omega)
            obtain rfl := Option.some.inj hA3
            clear hA3
            go_wp2_with (fail)
            refine (feed_calls (rd_T31 ys J) (HG.out.below HX2.out.ln.a.bel) HX2.out.ln.b.ln (HYW.out J)).mono ?_
            rw [feedF_next HPA.out.1]
            rintro e w7 ⟨rfl, hl, hv⟩
            have HX3 := Aside0.mk (HX2.out.feed hl hv)
            clear hl hv HX2 e0 e1 e2 e3 e4 e5 e6 e7 e8 e9
            go_wp2
            go_roundg (gk - 1)
            case measure => omega
            case rel => exact ⟨J + 1, _, by go_num, by omega, by omega, ⟨HX3.out, HPA.out.2⟩⟩
          · have hXY : X = Y := by
              have h := HQ.out
              rw [List.drop_eq_nil_of_le (by have := HM2.out; omega)] at h
              exact h
            subst hXY
            go_wp2_with (fail)
            refine (count_calls HX.out.ln.b.ln).mono ?_
            rintro e w8 ⟨rfl, hw8⟩
            subst w8
            go_wp2_with (fail)
            refine (count_calls HX.out.ln.a.ln).mono ?_
            rintro e w8 ⟨rfl, hw8⟩
            subst w8
            go_wp2_with (fail)
            refine (open_calls HX.out.ln.b.ln).mono ?_
            rintro e w8 ⟨rfl, hw8⟩
            subst w8
            go_wp2_with (fail)
            refine (open_calls HX.out.ln.a.ln).mono ?_
            rintro e w8 ⟨rfl, hw8⟩
            subst w8
            go_wp2_with (fail)
            refine (last_calls HX.out.ln.b.ln).mono ?_
            rintro e w8 ⟨rfl, hw8⟩
            subst w8
            go_wp2_with (fail)
            refine (last_calls HX.out.ln.a.ln).mono ?_
            rintro e w8 ⟨rfl, hw8⟩
            subst w8
            go_wp2
            go_ret
            exact ⟨rfl, HX.out.ln.a.bel⟩
    · obtain ⟨m2, hm2⟩ : ∃ m : Int, (ys.length : Int) = m := ⟨_, rfl⟩
      have HM2 := Aside0.mk hm2
      have hm20 : 0 ≤ m2 := by omega
      have hm21 : m2 ≤ 200 := by have h := HLL.out; omega
      
      go_wp2_with (fail)
      refine (new_calls _).mono ?_
      rintro e w5 ⟨h, hm, rfl, hl, hh, hhm, hb⟩
      have H2 := Aside0.mk (Ag2.start HX.out hl hh hhm hb)
      clear hl hh hhm hb HX
      go_wp2_with (fail)
      go_loopg [8] m2.toNat (fun m v8 W => ∃ (J : Int) (Y : LS), v8 = .int .i64 J ∧ 0 ≤ J ∧ J + m = m2 ∧ Aside0 (Ag2 w W g gm h hm (.slice At ys.length ct) X Y ys ∧ plays Y (ys.drop J.toNat) X))
      case atStart => exact ⟨0, L0, rfl, Int.le_refl _, by omega, ⟨H2.out, HP.out⟩⟩
      case round =>
        obtain ⟨J, Y, rfl, hJ0, hJm, HXT⟩ := hrel
        have HX := Aside0.mk HXT.out.1
        have HQ := Aside0.mk HXT.out.2
        clear HXT
        by_cases hj : J < m2
        · obtain ⟨ad, hA, e0, e1, e2, e3, e4, e5, e6, e7, e8, e9⟩ := at_T31 (Kd.R_reads' HX.out.rt).2.2 J hJ0 (by have := HM2.out; omega)
          subst hA
          have HPA := Aside0.mk (plays_at J hJ0 (by have := HM2.out; omega) HQ.out)
          go_wp2_with (fail)
          refine (right_calls _ _ _ _ _ _ _ _ _ _ _ (HG.out.below HX.out.ln.a.bel)).mono ?_
          rw [show rightF (rd_T31 ys J).f0 (rd_T31 ys J).f2 (rd_T31 ys J).f3 (rd_T31 ys J).f4 (rd_T31 ys J).f5 (rd_T31 ys J).f6 (rd_T31 ys J).f7 (rd_T31 ys J).f8 (rd_T31 ys J).f9 = true from HPA.out.1.right]
          rintro e w6 ⟨rfl, hb6⟩
          have HX2 := Aside0.mk (HX.out.below hb6)
          clear hb6 HX e0 e1 e2 e3 e4 e5 e6 e7 e8 e9
          obtain ⟨ad3, hA3, e0, e1, e2, e3, e4, e5, e6, e7, e8, e9⟩ := at_T31 (Kd.R_reads' HX2.out.rt).2.2 J hJ0 (by have := HM2.out; omega)
          obtain rfl := Option.some.inj hA3
          clear hA3
          go_wp2_with (fail)
          refine (feed_calls (rd_T31 ys J) (HG.out.below HX2.out.ln.a.bel) HX2.out.ln.b.ln (HYW.out J)).mono ?_
          rw [feedF_next HPA.out.1]
          rintro e w7 ⟨rfl, hl, hv⟩
          have HX3 := Aside0.mk (HX2.out.feed hl hv)
          clear hl hv HX2 e0 e1 e2 e3 e4 e5 e6 e7 e8 e9
          go_wp2
          go_roundg (gk - 1)
          case measure => omega
          case rel => exact ⟨J + 1, _, by go_num, by omega, by omega, ⟨HX3.out, HPA.out.2⟩⟩
        · have hXY : X = Y := by
            have h := HQ.out
            rw [List.drop_eq_nil_of_le (by have := HM2.out; omega)] at h
            exact h
          subst hXY
          go_wp2_with (fail)
          refine (count_calls HX.out.ln.b.ln).mono ?_
          rintro e w8 ⟨rfl, hw8⟩
          subst w8
          go_wp2_with (fail)
          refine (count_calls HX.out.ln.a.ln).mono ?_
          rintro e w8 ⟨rfl, hw8⟩
          subst w8
          go_wp2_with (fail)
          refine (open_calls HX.out.ln.b.ln).mono ?_
          rintro e w8 ⟨rfl, hw8⟩
          subst w8
          go_wp2_with (fail)
          refine (open_calls HX.out.ln.a.ln).mono ?_
          rintro e w8 ⟨rfl, hw8⟩
          subst w8
          go_wp2_with (fail)
          refine (last_calls HX.out.ln.b.ln).mono ?_
          rintro e w8 ⟨rfl, hw8⟩
          subst w8
          go_wp2_with (fail)
          refine (last_calls HX.out.ln.a.ln).mono ?_
          rintro e w8 ⟨rfl, hw8⟩
          subst w8
          go_wp2
          go_ret
          exact ⟨rfl, HX.out.ln.a.bel⟩
end Go.Proofs.YtjflbjlkcifpdaaDoor.Ext
