/- A line that took what it takes of a row: by hand. Written by wip/tools/lineg.py. -/
import Derived.Test.YtjflbjlkcifpdaaDoorLineF
namespace Go.Proofs.YtjflbjlkcifpdaaDoor.Ext
open Go.RowKit Go.Proofs.YtjflbjlkcifpdaaDoor.Xa Go.Proofs.YtjflbjlkcifpdaaDoorW.PrintWords Go.Proofs.YtjflbjlkcifpdaaDoorW.PrintLast Go.Proofs.YtjflbjlkcifpdaaDoorW.PrintMore
open Go.Maps (Keyed)
set_option linter.unusedVariables false
set_option linter.unusedSimpArgs false
/-- A line behind events. -/
def feeds (X : LS) (l : List S31) : LS := l.foldl (fun X e => (feedF X e).2) X
theorem take_next (l : List S31) (I : Int) (h0 : 0 ≤ I) (h1 : I < l.length) : l.take (I + 1).toNat = l.take I.toNat ++ [rd_T31 l I] := by
  have hi : I.toNat < l.length := by omega
  rw [show (I + 1).toNat = I.toNat + 1 by omega, List.take_succ_eq_append_getElem hi]
  simp [rd_T31, List.getD_eq_getElem?_getD, List.getElem?_eq_getElem hi]
theorem feeds_next (X : LS) (l : List S31) (I : Int) (h0 : 0 ≤ I) (h1 : I < l.length) : feeds X (l.take (I + 1).toNat) = (feedF (feeds X (l.take I.toNat)) (rd_T31 l I)).2 := by
  rw [take_next l I h0 h1]; simp [feeds]
theorem take_end (l : List S31) (I : Int) (h : ¬ I < l.length) : l.take I.toNat = l := List.take_of_length_le (by omega)
set_option maxHeartbeats 4000000 in
theorem fed_calls (A0 : Option Addr) (c0 : Nat) (l : List S31) (w : World) (hG : Glob w) (hr : Kd.C k31 w A0 l.length l) (hwf : ∀ i, (Lit.int .u64 (rd_T31 l i).f2).wf = true) (hn : l.length ≤ 4000) :
    Calls Tryd.prog 21 #[.slice A0 l.length c0] w fun e w' => ∃ g gm, e = .returned (.pointer (some ⟨g, 0, none⟩)) ∧ Wl w w' g gm (feeds L0 l) := by
  have HG := Aside0.mk hG
  have HR := Aside0.mk hr
  have HWF := Aside0.mk hwf
  obtain ⟨n, hnl⟩ : ∃ n : Int, (l.length : Int) = n := ⟨_, rfl⟩
  have HN := Aside0.mk hnl
  have hn1 : n ≤ 4000 := by omega
  have hn0 : 0 ≤ n := by omega
  clear hG hr hwf hn
  go_enter Tryd.func21, Tryd.ntmps21
  go_wp2_with (fail)
  refine (new_calls w).mono ?_
  rintro e w0 ⟨g, gm, rfl, hl, hg, hm, hb⟩
  have H0 := Aside0.mk (Wl.mk hb hl hg hm)
  clear hb hl hg hm
  go_wp2_with (fail)
  go_loopg [4] n.toNat (fun m v4 W => ∃ I : Int, v4 = .int .i64 I ∧ 0 ≤ I ∧ I + m = n ∧ Aside0 (Wl w W g gm (feeds L0 (l.take I.toNat))))
  case atStart => exact ⟨0, rfl, Int.le_refl _, by omega, H0⟩
  case round =>
    obtain ⟨I, rfl, hI0, hIm, HX⟩ := hrel
    by_cases hi : I < n
    · obtain ⟨ad, hA, e0, e1, e2, e3, e4, e5, e6, e7, e8, e9⟩ := at_T31 (Kd.C_below HR.out HX.out.bel) I hI0 (by have := HN.out; omega)
      subst hA
      go_wp2_with (fail)
      refine (feed_calls (rd_T31 l I) (HG.out.below HX.out.bel) HX.out.ln (HWF.out I)).mono ?_
      rintro e w2 ⟨rfl, hl, hm⟩
      have HX2 := Aside0.mk (HX.out.feed hl hm)
      clear hl hm e0 e1 e2 e3 e4 e5 e6 e7 e8 e9 HX
      go_wp2
      go_roundg (gk - 1)
      case measure => omega
      case rel => exact ⟨I + 1, by go_num, by omega, by omega, by rw [feeds_next L0 l I hI0 (by have := HN.out; omega)]; exact HX2⟩
    · go_wp2
      go_ret
      exact ⟨g, rfl, gm, by have h := HX.out; rw [take_end l I (by have := HN.out; omega)] at h; exact h⟩
/-- Was a fetch ever, on a line that takes what it takes? -/
def begF (id : Int) (p : LS × Bool) (e : S31) : LS × Bool := ((feedF p.1 e).2, p.2 || ((feedF p.1 e).1 == 0 && e.f0 == 3 && e.f2 == id))
def begs (id : Int) (p : LS × Bool) (l : List S31) : LS × Bool := l.foldl (begF id) p
theorem begs_next (id : Int) (p : LS × Bool) (l : List S31) (I : Int) (h0 : 0 ≤ I) (h1 : I < l.length) : begs id p (l.take (I + 1).toNat) = begF id (begs id p (l.take I.toNat)) (rd_T31 l I) := by
  rw [take_next l I h0 h1]; simp [begs]
set_option maxHeartbeats 4000000 in
theorem started_calls (A0 : Option Addr) (c0 : Nat) (l : List S31) (id : Int) (w : World) (hG : Glob w) (hr : Kd.C k31 w A0 l.length l) (hwf : ∀ i, (Lit.int .u64 (rd_T31 l i).f2).wf = true) (hn : l.length ≤ 4000) :
    Calls Tryd.prog 22 #[.slice A0 l.length c0, .int .u64 id] w fun e w' => e = .returned (.bool (begs id (L0, false) l).2) ∧ Below w.heap.size w w' := by
  have HG := Aside0.mk hG
  have HR := Aside0.mk hr
  have HWF := Aside0.mk hwf
  obtain ⟨n, hnl⟩ : ∃ n : Int, (l.length : Int) = n := ⟨_, rfl⟩
  have HN := Aside0.mk hnl
  have hn1 : n ≤ 4000 := by omega
  have hn0 : 0 ≤ n := by omega
  clear hG hr hwf hn
  go_enter Tryd.func22, Tryd.ntmps22
  go_wp2_with (fail)
  refine (new_calls w).mono ?_
  rintro e w0 ⟨g, gm, rfl, hl, hg, hm, hb⟩
  have H0 := Aside0.mk (Wl.mk hb hl hg hm)
  clear hb hl hg hm
  go_wp2_with (fail)
  go_loopg [6, 7] n.toNat (fun m v6 v7 W => ∃ (I : Int) (b : Bool), v6 = .bool b ∧ v7 = .int .i64 I ∧ 0 ≤ I ∧ I + m = n ∧ Aside0 (Wl w W g gm (begs id (L0, false) (l.take I.toNat)).1 ∧ b = (begs id (L0, false) (l.take I.toNat)).2))
  case atStart => exact ⟨0, false, rfl, rfl, Int.le_refl _, by omega, ⟨H0.out, rfl⟩⟩
  case round =>
    obtain ⟨I, b, rfl, rfl, hI0, hIm, HXB⟩ := hrel
    have HX := Aside0.mk HXB.out.1
    have HBB := Aside0.mk HXB.out.2
    clear HXB
    by_cases hi : I < n
    · obtain ⟨ad, hA, e0, e1, e2, e3, e4, e5, e6, e7, e8, e9⟩ := at_T31 (Kd.C_below HR.out HX.out.bel) I hI0 (by have := HN.out; omega)
      subst hA
      go_wp2_with (fail)
      have HE := Aside0.mk (begs_next id (L0, false) l I hI0 (by have := HN.out; omega))
      obtain ⟨X, hX⟩ : ∃ X, (begs id (L0, false) (l.take I.toNat)).1 = X := ⟨_, rfl⟩
      refine (feed_calls (rd_T31 l I) (HG.out.below HX.out.bel) HX.out.ln (HWF.out I)).mono ?_
      obtain ⟨r, hr⟩ : ∃ r, (feedF (begs id (L0, false) (l.take I.toNat)).1 (rd_T31 l I)).1 = r := ⟨_, rfl⟩
      have HRR := Aside0.mk hr
      rw [hr]
      rintro e w2 ⟨rfl, hl, hm⟩
      have HX2 := Aside0.mk (HX.out.feed hl hm)
      clear hX hl hm e0 e1 e2 e3 e4 e5 e6 e7 e8 e9 HX hr
      obtain ⟨ad', hA', e0, e1, e2, e3, e4, e5, e6, e7, e8, e9⟩ := at_T31 (Kd.C_below HR.out HX2.out.bel) I hI0 (by have := HN.out; omega)
      obtain rfl := Option.some.inj hA'
      clear hA'
      obtain ⟨F0, hF0⟩ : ∃ F, (rd_T31 l I).f0 = F := ⟨_, rfl⟩
      obtain ⟨F2, hF2⟩ : ∃ F, (rd_T31 l I).f2 = F := ⟨_, rfl⟩
      rw [hF0] at e0
      rw [hF2] at e2
      have HF0 := Aside0.mk hF0
      have HF2 := Aside0.mk hF2
      clear hF0 hF2
      go_wp2
      all_goals
        go_roundg (gk - 1)
        case measure => omega
        case rel =>
          refine ⟨I + 1, _, rfl, by go_num, by omega, by omega, ⟨?_, ?_⟩⟩
          · rw [HE.out]; exact HX2.out
          · rw [HE.out]; unfold begF; rw [← HBB.out, HRR.out, HF0.out, HF2.out]; first | rfl | (simp_all; done) | (simp_all; rfl)
    · go_wp2
      go_ret
      exact ⟨by rw [HBB.out, take_end l I (by have := HN.out; omega)]; rfl, HX.out.bel⟩
end Go.Proofs.YtjflbjlkcifpdaaDoor.Ext
