/- ShaPieces, by hand. -/
import Derived.Test.YtanafhccflmdkaaDoorPieB
import Derived.Test.YtanafhccflmdkaaDoorNothing
import Derived.Deep.RegionHeld3
namespace Go.Proofs.YtanafhccflmdkaaDoor.Ext
open Go.RowKit Go.Proofs.YtanafhccflmdkaaDoorW.PrintWords Go.Proofs.YtanafhccflmdkaaDoorW.PrintLast Go.Proofs.YtanafhccflmdkaaDoorW.PrintMore
set_option linter.unusedVariables false
set_option linter.unusedSimpArgs false
attribute [local go_sem] min2_mn max_two min_two
attribute [-go_sem] Builtin.append_
theorem ld22 (W : World) (a : Addr) (v : Value) (h : W.cell? a = some v) : (loadVar 22 a).run Tryd.prog W = .ok v W := by
  go_simp
theorem ld5 (W : World) (a : Addr) (v : Value) (h : W.cell? a = some v) : (loadVar 5 a).run Tryd.prog W = .ok v W := by
  go_simp
attribute [-go_sem] loadVar
/-- An element of a row of many cells. -/
theorem raw_at {sz : Nat} {W : World} {A : Option Addr} {n : Nat} {xs : List (List Value)} (h : (Kd.raw sz).C W A n xs) (i : Nat) (c : List Value) (hc : xs[i]? = some c) (hn : 0 < n) :
    ∃ ad, A = some ad ∧ ∀ W', Below W.heap.size W W' → ∀ j v, c[j]? = some v → W'.cell? (ad.add (i * sz + j)) = some v := by
  obtain ⟨ad, rfl, hh⟩ := h.2.2 hn
  obtain ⟨c', hl, ⟨rfl, _, _⟩, h3⟩ := hh i c hc
  refine ⟨ad, rfl, fun W' hB j v hv => ?_⟩
  have h_ := h3 j v hv
  exact (World.cell?_of_block (hB.block _ (World.block_lt_of_cell? W _ h_))).trans h_
theorem region_to {c : Code} {Q : Exit → Act → World → Prop} {a A : Act} {w W : World} (h : c.wp Tryd.prog (fun e a' w' => e = .normal ∧ a' = A ∧ w' = W) a w) (hq : Q .normal A W) : c.wp Tryd.prog Q a w :=
  Code.wp_mono (fun e a' w' ⟨h1, h2, h3⟩ => by subst h1; subst h2; subst h3; exact hq) h
def sC (p : List Int) : List Value := (sv (St p)).toList
def dC (p : List Int) : List Value := (dv (DW p)).toList
theorem sC_M (p : List Int) (w : World) (base : Nat) (ok : Nat → Prop) : (Kd.raw 73).M w base ok (sC p) (sC p) :=
  ⟨rfl, by unfold sC; rw [Array.length_toList]; exact sv_size _ (St_r _), fun u hu => (Array.all_eq_true_iff_forall_mem.1 (sv_one (St p))) u (by unfold sC at hu; simpa using hu)⟩
theorem dC_M (p : List Int) (w : World) (base : Nat) (ok : Nat → Prop) : (Kd.raw 32).M w base ok (dC p) (dC p) :=
  ⟨rfl, by unfold dC; rw [Array.length_toList]; exact dv_size _, fun u hu => (Array.all_eq_true_iff_forall_mem.1 (dv_one (DW p))) u (by unfold dC at hu; simpa using hu)⟩
set_option maxHeartbeats 4000000 in
set_option maxRecDepth 100000 in
theorem pieces_calls (A0 : Option Addr) (c0 : Nat) (l : List (List Int)) (w : World) (hG : Glob w)
    (hC0 : Kd.C KdB w A0 l.length l) (hc0 : l.length ≤ c0) (hb0 : ∀ b ∈ l, Bytes b) :
    Calls Tryd.prog 5 #[.slice A0 l.length c0] w fun e w' => e = .returned (.bool true) ∧ Below w.heap.size w w' := by
  have HG := Aside0.mk hG
  have HC0 := Aside0.mk hC0
  have HB0 := Aside0.mk hb0
  have HLE0 := Aside0.mk hc0
  have HNL := Aside0.mk hC0.2.1
  clear hG hC0 hb0 hc0
  obtain ⟨z40, hz40, hs40⟩ := info40
  have HZ40 := Aside0.mk hz40
  have HS40 := Aside0.mk hs40
  obtain ⟨z25, hz25, hs25⟩ := info25
  have HZ25 := Aside0.mk hz25
  have HS25 := Aside0.mk hs25
  clear hz40 hs40 hz25 hs25
  have hz := zero40
  obtain ⟨Z, hZ⟩ : ∃ Z, Z = Z40 := ⟨_, rfl⟩
  rw [← hZ] at hz
  have HZ := Aside0.mk (show Z.size = 73 by rw [hZ]; rfl)
  clear hZ
  have heq : ∀ (x : D8) (W : World), (Op.equalIn 10000 25 (.agg (dv x)) (.agg (dv x))).run Tryd.prog W = .ok true W := fun x W => eq_dv 9998 x W
  go_enter Tryd.func5, Tryd.ntmps5
  go_wp2_with (fail)
  refine (shown_calls w HG.out).mono ?_
  rintro e wz ⟨rfl, hb⟩
  have HBw1 := Aside0.mk (hb)
  clear hb
  go_wp2_with (fail)
  refine (start_calls _).mono ?_
  rintro e wz ⟨rfl, hb⟩
  have HBw2 := Aside0.mk (below_step HBw1.out hb)
  clear hb HBw1
  go_upto_region 3 with (first
    | ((with_reducible refine gate_store (p := 4) rfl ?_); refine st_row ?hgd_s4_13 40 (.tmp 4) (.tmp 13) ?ho_s4_13 wz.heap.size (sv st0) ?hx_s4_13 ?hy_s4_13 40 (Z) ?hg_s4_13 ?hi_s4_13 ?hold_s4_13 (sv_one _) ?_; (case hgd_s4_13 => rfl); (case ho_s4_13 => rfl); (case hx_s4_13 => rfl); (case hy_s4_13 => rfl); (case hg_s4_13 => exact blk_new _ _); (case hi_s4_13 => rw [sv_size st0 rfl]; exact size40); (case hold_s4_13 => rw [HZ.out, sv_size st0 rfl]); intro w4 hb4 hg4)
    | fail)
  have HS4 := hb4
  have HBw3 := Aside0.mk ((below_alloc HBw2.out _).trans (gr_below hg4.out HBw2.out.size (below_alloc HBw2.out (.cells Z 40)).size))
  obtain ⟨ga, hga⟩ : ∃ g, g = wz.heap.size := ⟨_, rfl⟩
  rw [← hga] at HS4 ⊢
  have HGL := Aside0.mk (show w.heap.size ≤ ga by have h_ := HBw2.out.size; omega)
  clear hga hb4 hg4 HBw2
  obtain ⟨wz, hwz⟩ : ∃ W_ : World, W_ = w4 := ⟨_, rfl⟩
  subst hwz
  have HPI : Aside0 (PI w (wz.alloc (.cells #[] 5)) (fun k => k ≠ ga) (fun _ => False) ga (.slice none 0 0) (.slice none 0 0) (.slice (some ⟨wz.heap.size, 0, none⟩) 0 0) (.slice none 0 0) (St []) [] [] [] []) := ⟨by
    have h4 := blk_lt HS4.out
    have hsz : (wz.alloc (.cells #[] 5)).heap.size = wz.heap.size + 1 := by simp
    exact ⟨below_alloc HBw3.out _, blk_alloc HS4.out _, Kd.R_nil _ _ _ _ _, Kd.R_nil _ _ _ _ _, Kd.R_of_own (Kd.own_of_R (R_new wz w.heap.size HBw3.out.size)) (fun k hk => by simp [Value.ownBlock] at hk; omega), Kd.R_nil _ _ _ _ _, fun h => h rfl, fun h => h, fun k _ h => h, fun k hk => by omega, HGL.out⟩⟩
  clear HS4
  go_wp2_with (fail)
  go_loopg [5, 6, 7, 8, 9, 10] 20 (fun gm v5 v6 v7 v8 v9 v10 w' => ∃ (j : Nat) (ps : List (List Int)) (al : List Int), v8 = .int .i64 j ∧ Aside0 (j + gm = 20) ∧ Aside0 (PI w w' (fun k => k ≠ ga) (fun _ => False) ga v6 v7 v5 (.slice none 0 0) (St al) (ps.map sC) (ps.map dC) al []) ∧ Aside0 (Bytes al ∧ al.length ≤ j * 200 ∧ ps.length = j ∧ ∀ p ∈ ps, Bytes p ∧ p.length ≤ 4000))
  case atStart => exact ⟨0, [], [], rfl, ⟨rfl⟩, HPI, ⟨fun x hx => by simp at hx, by simp, rfl, fun p hp => by simp at hp⟩⟩
  case round =>
    obtain ⟨j, ps, al, rfl, HJ, HP, HA⟩ := hrel
    clear HPI HBw3
    obtain ⟨G, HGk⟩ : ∃ G, Aside0 (G = gk) := ⟨_, ⟨rfl⟩⟩
    have HJG : Aside0 (j + G = 20) := ⟨by rw [HGk.out]; exact HJ.out⟩
    clear HJ
    by_cases hgo : (j : Int) < l.length ∧ (j : Int) < 20
    · obtain ⟨hlt, h20⟩ := hgo
      obtain ⟨b, hb⟩ : ∃ b, l[j]? = some b := ⟨l[j]'(by omega), List.getElem?_eq_getElem _⟩
      obtain ⟨ad, Ab, cb, rfl, hcell, hlb, hCb⟩ := rows_at (Kd.C_below HC0.out HP.out.bel) j b hb
      have HBb := Aside0.mk (HB0.out b (List.mem_of_getElem? hb))
      obtain ⟨m, hm, hmn, hcut⟩ := cut_at Ab b.length cb 200 200 rfl hlb
      obtain ⟨p, hp⟩ : ∃ p, p = b.take m := ⟨_, rfl⟩
      have hpl : p.length = m := by rw [hp, List.length_take]; omega
      have HCp := Aside0.mk (show Kd.C (Kd.int .u8) wr Ab p.length p by rw [hp]; exact Kd.C_take hCb (by omega))
      have HBp := Aside0.mk (show Bytes p by rw [hp]; exact fun x hx => HBb.out x (List.mem_of_mem_take hx))
      have HPL := Aside0.mk (show p.length ≤ cb ∧ p.length ≤ 200 by omega)
      rw [← hpl] at hmn hcut
      obtain ⟨v1, w1, hr1, hR1, hg1, hat1⟩ := runs_app ((wr.alloc (.cells #[] 5)).drew) wr.heap.size (fun _ => True) (.slice (some ⟨wr.heap.size, 0, none⟩) 0 0) [] p Ab cb 22 (Kd.R_drew (R_new wr wr.heap.size (Nat.le_refl _))) (Kd.C_drew (Kd.C_alloc HCp.out _)) (by have h_ := HPL.out; simp; omega) (by simp) (fun _ _ => trivial)
      rw [List.nil_append] at hR1
      have HB1 := Aside0.mk (grown_below hg1 (Kd.R_drew (R_new wr wr.heap.size (Nat.le_refl _))) (below_drew (below_alloc (Below.refl _ wr) _)))
      obtain ⟨gp, hgp, hle⟩ : ∃ gp, v1.ownBlock = some gp ∧ wr.heap.size ≤ gp := by
        rcases hat1 with h_ | h_
        · exact ⟨wr.heap.size, by rw [h_]; rfl, Nat.le_refl _⟩
        · exact ⟨_, h_, by simp⟩
      have HP1 := Aside0.mk (HP.out.newP HB1.out hle (Kd.R_lt hR1 gp hgp) hgp (Kd.R_lower hR1 HP.out.bel.size))
      have HGP := Aside0.mk (show w.heap.size ≤ gp by have h_ := HP.out.bel.size; omega)
      obtain ⟨Ap, cp, rfl, hcp, hCp⟩ := Kd.R_reads hR1
      have HLp := Aside0.mk hcp
      have hj0 : (0 : Int) ≤ (j : Int) := by omega
      have hl22 := ld22
      have hcw1 : w1.cell? (ad.add j) = some (.slice Ab b.length cb) := (World.cell?_of_block (HB1.out.block _ (World.block_lt_of_cell? wr _ hcell))).trans hcell
      clear hp hpl hm hb hCb hlb hR1 hg1 hat1 hgp hle hcp hCp HP HBb
      go_upto_region 9 with (fail)
      refine' region_to (W := w1) ?hreg ?hrest
      case' hreg =>
        go_region_held3 (fun W => W.cell? (ad.add j) = some (.slice Ab b.length cb)) (first | assumption | go_keep) (fail)
        all_goals exact ⟨rfl, rfl, rfl⟩
      clear hcw1 hcell hr1 hcut hmn hl22 HCp HB1
      go_upto_region 11 with (first
        | ((with_reducible refine gate_dst (N := 39) rfl ?_); refine wpList_load_row ?hgd_39 40 (.tmp 4) ?ho_39 ga ?hx_39 40 (sv (St al)) (0, 0) ?d_39 ?hg_39 ?hu_39 ?hd_39 ?hi_39 ?_; (case hgd_39 => rfl); (case ho_39 => rfl); (case hx_39 => rfl); (case hg_39 => exact HP1.out.blk); (case hu_39 => exact Tryd.underlying40); (case hd_39 => rfl); (case hi_39 => rw [sv_size _ (St_r _)]; exact size40))
        | ((with_reducible refine gate_dst (N := 40) rfl ?_); refine lit_big ?hgd_l 42 40 73 (.tmp 39) ?ho_l Tryd.underlying42 104 info40 (by decide) (by decide) (sv (St al)) ?hx_l (sv_size _ (St_r _)) ?_; (case hgd_l => rfl); (case ho_l => rfl); (case hx_l => rfl))
        | ((with_reducible refine gate_dst (N := 41) rfl ?_); refine Kd.R_append (Kd.raw 73) (w0 := w) w.heap.size ?hgd_m (.tmp 38) (.tmp 40) 42 40 z40 104 ?ho_m Tryd.underlying42 HZ40.out HS40.out (by decide) (by decide) u6 (ps.map sC) (sC al) (sC al) (fun k => k ≠ ga ∧ k ≠ gp) (fun _ => False) ?hs_m ?hx_m (sC_M _ _ _ _) (fun _ h => h.elim) HP1.out.fresh HP1.out.rs HP1.out.bel HP1.out.bel.size ?hl_m ?_; (case hgd_m => rfl); (case ho_m => rfl); (case hs_m => rfl); (case hx_m => rfl); (case hl_m => have h_ := HA.out.2.2.1; rw [List.length_map]; omega); intro vs2 w2 hR2 hb2 hg2 _; have HP2 := Aside0.mk (HP1.out.appS hR2 hb2 hg2); clear hR2 hb2 hg2 HP1)
        | fail)
      go_wp2_with (first
          | ((with_reducible refine gate_dst (N := 43) rfl ?_); refine wpList_load_row ?hgd_43 40 (.tmp 4) ?ho_43 ga ?hx_43 40 (sv (St al)) (0, 0) ?d_43 ?hg_43 ?hu_43 ?hd_43 ?hi_43 ?_; (case hgd_43 => rfl); (case ho_43 => rfl); (case hx_43 => rfl); (case hg_43 => exact HP2.out.blk); (case hu_43 => exact Tryd.underlying40); (case hd_43 => rfl); (case hi_43 => rw [sv_size _ (St_r _)]; exact size40))
          | fail)
      refine (sum_calls al _ (HG.out.below HP2.out.bel) HA.out.1 (by have h_ := HA.out; omega)).mono ?_
      rintro e w3 ⟨rfl, hb⟩
      have HP3 := Aside0.mk (HP2.out.then_ hb)
      clear hb HP2
      go_upto_region 12 with (first
        | ((with_reducible refine gate_dst (N := 45) rfl ?_); refine lit_big ?hgd_l2 43 25 32 (.tmp 44) ?ho_l2 Tryd.underlying43 32 info25 (by decide) (by decide) (dv (DW al)) ?hx_l2 (dv_size _) ?_; (case hgd_l2 => rfl); (case ho_l2 => rfl); (case hx_l2 => rfl))
        | ((with_reducible refine gate_dst (N := 46) rfl ?_); refine Kd.R_append (Kd.raw 32) (w0 := w) w.heap.size ?hgd_m2 (.tmp 42) (.tmp 45) 43 25 z25 32 ?ho_m2 Tryd.underlying43 HZ25.out HS25.out (by decide) (by decide) u7 (ps.map dC) (dC al) (dC al) (fun k => k ≠ ga ∧ k ≠ gp) (fun _ => False) ?hs_m2 ?hx_m2 (dC_M _ _ _ _) (fun _ h => h.elim) HP3.out.fresh HP3.out.ru HP3.out.bel HP3.out.bel.size ?hl_m2 ?_; (case hgd_m2 => rfl); (case ho_m2 => rfl); (case hs_m2 => rfl); (case hx_m2 => rfl); (case hl_m2 => have h_ := HA.out.2.2.1; rw [List.length_map]; omega); intro vu2 w4 hR3 hb3 hg3 _; have HP4 := Aside0.mk (HP3.out.appU hR3 hb3 hg3); clear hR3 hb3 hg3 HP3)
        | fail)
      go_wp2_with (first
          | ((with_reducible refine gate_dst (N := 47) rfl ?_); refine wpList_load_row ?hgd_47 40 (.tmp 4) ?ho_47 ga ?hx_47 40 (sv (St al)) (0, 0) ?d_47 ?hg_47 ?hu_47 ?hd_47 ?hi_47 ?_; (case hgd_47 => rfl); (case ho_47 => rfl); (case hx_47 => rfl); (case hg_47 => exact HP4.out.blk); (case hu_47 => exact Tryd.underlying40); (case hd_47 => rfl); (case hi_47 => rw [sv_size _ (St_r _)]; exact size40))
          | fail)
      refine (moreS al Ap cp p _ (HG.out.below HP4.out.bel) (Kd.R_reads' HP4.out.rp).2.2 HLp.out HA.out.1 HBp.out (by have h_ := HA.out; have h1_ := HPL.out; omega)).mono ?_
      rintro e w5 ⟨rfl, hb⟩
      have HP5 := Aside0.mk (HP4.out.then_ hb)
      clear hb HP4
      go_upto_region 13 with (first
        | ((with_reducible refine gate_store (p := 4) rfl ?_); refine st_row ?hgd_s4_49 40 (.tmp 4) (.tmp 49) ?ho_s4_49 ga (sv (St (al ++ p))) ?hx_s4_49 ?hy_s4_49 40 (sv (St al)) ?hg_s4_49 ?hi_s4_49 ?hold_s4_49 (sv_one _) ?_; (case hgd_s4_49 => rfl); (case ho_s4_49 => rfl); (case hx_s4_49 => rfl); (case hy_s4_49 => rfl); (case hg_s4_49 => exact HP5.out.blk); (case hi_s4_49 => rw [sv_size _ (St_r _)]; exact size40); (case hold_s4_49 => rw [sv_size _ (St_r _), sv_size _ (St_r _)]); intro w6 hb6 hg6)
        | fail)
      have HP6 := Aside0.mk (HP5.out.setS hb6.out hg6.out)
      clear hb6 hg6 HP5
      go_upto_region 14 with (first
        | ((with_reducible refine gate_dst (N := 52) rfl ?_); refine Kd.R_append_row (Value.int .u8) (0 : Int) (w0 := w) w.heap.size ?hg_a (.tmp 50) (.tmp 51) 22 5 (.int .u8 0) 1 ?ho_a Tryd.underlying22 info5 rfl (by decide) u5 al p Ap p.length cp (fun k => k ≠ ga ∧ k ≠ gp) ?hs_a ?hx_a HP6.out.fresh HP6.out.ra (Kd.R_reads' HP6.out.rp).2.2 HP6.out.bel HP6.out.bel.size ?hl_a ?_; (case hg_a => rfl); (case ho_a => rfl); (case hs_a => rfl); (case hx_a => rfl); (case hl_a => have h_ := HA.out; have h1_ := HPL.out; omega); intro va2 w7 hR4 hb4 hg4 _; have HP7 := Aside0.mk (HP6.out.appA hR4 hb4 hg4); clear hR4 hb4 hg4 HP6)
        | fail)
      obtain ⟨Aa, ca, rfl, hca, hCa⟩ := Kd.R_reads HP7.out.ra
      have HCA := Aside0.mk hca
      clear hca hCa
      obtain ⟨al2, hal2⟩ : ∃ x, x = al ++ p := ⟨_, rfl⟩
      rw [← hal2] at HP7 HCA ⊢
      have HAL := Aside0.mk (show Bytes al2 ∧ al2.length ≤ (j + 1) * 200 by rw [hal2]; exact ⟨fun x hx => (List.mem_append.1 hx).elim (HA.out.1 x) (HBp.out x), by have h_ := HA.out; have h1_ := HPL.out; rw [List.length_append]; omega⟩)
      clear hal2
      have hlen5 : ∀ (B : Option Addr) (n c : Nat), True := fun _ _ _ => trivial
      clear hlen5
      go_wp2_with (fail)
      go_loopg [10] (p.length) (fun gm v10 w' => ∃ (k : Nat) (ql : List Int), v10 = .int .i64 k ∧ Aside0 (k + gm = p.length ∧ ql.length = p.length) ∧ Aside0 (PI w w' (fun k => k ≠ ga ∧ k ≠ gp) (fun k => k = gp) ga vs2 vu2 (.slice Aa al2.length ca) (.slice Ap p.length cp) (St al2) (ps.map sC ++ [sC al]) (ps.map dC ++ [dC al]) al2 ql))
      case atStart => exact ⟨0, p, rfl, ⟨⟨by omega, rfl⟩⟩, HP7⟩
      case round =>
        obtain ⟨k, ql, rfl, HK, HI⟩ := hrel
        clear HP7
        by_cases hkp : (k : Int) < p.length
        · have hk0 : (0 : Int) ≤ (k : Int) := by omega
          have hpn : p.length ≤ 200 := HPL.out.2
          obtain ⟨g, cap, he, _, _, _⟩ := Kd.R_form HI.out.rp (by have h_ := HK.out; omega)
          injection he with he1 he2 he3
          subst he1
          have hgg : gp = g := (HI.out.rp.1 g rfl).symm
          subst hgg
          obtain ⟨c1, f1⟩ := Kd.R_celln 0 HI.out.rp (k : Int) hk0 hkp
          rw [Int.toNat_natCast] at c1 f1
          obtain ⟨y, hy⟩ : ∃ y, y = rdOf (0 : Int) ql (k : Int) := ⟨_, rfl⟩
          rw [← hy] at c1
          clear he2 he3 hy
          have hl5 := ld5
          go_wp2_with (fail)
          go_roundg (gk - 1)
          case measure => have h_ := HK.out; omega
          case rel =>
            have h_ := fun x => Kd.R_putg HI.out.rp (k : Int) x
            simp only [Int.toNat_natCast] at h_
            exact ⟨k + 1, ql.set k _, by go_num, ⟨⟨by have h_ := HK.out; omega, by rw [List.length_set]; exact HK.out.2⟩⟩, ⟨HI.out.setP rfl HGP.out (h_ _).1 (h_ _).2⟩⟩
        · have HG8 := Aside0.mk (HG.out.below HI.out.bel)
          have hl4 : ∀ W : World, Below wr.heap.size wr W → (loadVar 40 ⟨ga, 0, none⟩).run Tryd.prog W = .ok (.agg (sv (St al2))) W := fun W hB => ld40 (blk_below HI.out.blk hB) (St_r _)
          have hsum : ∀ W : World, Below wr.heap.size wr W → Calls Tryd.prog 16 #[.agg (sv (St al2))] W fun e w' => e = .returned (.agg (dv (DW al2))) ∧ Below wr.heap.size wr w' := fun W hB => (sum_calls al2 W (HG8.out.below hB) HAL.out.1 (by have h_ := HAL.out; omega)).mono fun e w' h => ⟨h.1, below_step hB h.2⟩
          have hdig : ∀ W : World, Below wr.heap.size wr W → Calls Tryd.prog 11 #[.slice Aa al2.length ca] W fun e w' => e = .returned (.agg (dv (DW al2))) ∧ Below wr.heap.size wr w' := fun W hB => (digest_calls Aa ca al2 W (HG8.out.below hB) (Kd.C_below (Kd.R_reads' HI.out.ra).2.2 hB) HCA.out HAL.out.1 (by have h_ := HAL.out; omega)).mono fun e w' h => ⟨h.1, below_step hB h.2⟩
          have HS := Aside0.mk (And.intro hsum hdig)
          clear hsum hdig
          go_upto_region 18 with (fail)
          go_region_held3 (fun W => Below wr.heap.size wr W) (first | assumption | exact pw_below_drewN (Below.refl _ _) 1) (first
            | (go_at_call 16; refine (HS.out.1 _ (by assumption)).mono ?_; rintro e w' ⟨rfl, hb⟩)
            | (go_at_call 11; refine (HS.out.2 _ (by assumption)).mono ?_; rintro e w' ⟨rfl, hb⟩))
          clear hl4
          go_wp2_with (fail)
          go_roundg (G - 1)
          case measure => have h_ := HJG.out; have h1_ := HGk.out; omega
          case rel =>
            refine ⟨j + 1, ps ++ [al], al2, by go_num, ⟨by have h_ := HJG.out; omega⟩, ⟨by rw [List.map_append, List.map_append]; exact HI.out.noP.then_ (by assumption)⟩, ⟨HAL.out.1, HAL.out.2, by rw [List.length_append, HA.out.2.2.1]; rfl, fun q hq => ?_⟩⟩
            rcases List.mem_append.1 hq with h | h
            · exact HA.out.2.2.2 q h
            · rw [List.mem_singleton.1 h]; exact ⟨HA.out.1, by have h_ := HA.out; omega⟩
    · -- the end
      by_cases hlt : (j : Int) < l.length
      · have h20 : ¬ (j : Int) < 20 := fun h => hgo ⟨hlt, h⟩
        clear hgo
        obtain ⟨wo, hwo⟩ : ∃ W_ : World, W_ = wr := ⟨_, rfl⟩
        subst hwo
        obtain ⟨Av, cv, hv, hcv, hCv⟩ := Kd.R_reads HP.out.rs
        obtain ⟨Au, cu, hu, hcu, hCu⟩ := Kd.R_reads HP.out.ru
        obtain ⟨Aa, ca, hva, hca, hCa⟩ := Kd.R_reads HP.out.ra
        subst hv hu hva
        rw [List.length_map] at hcv hcu
        simp only [List.length_map] at HP ⊢
        have HRS := Aside0.mk HP.out.rs
        have HRU := Aside0.mk HP.out.ru
        have HCV := Aside0.mk (Kd.R_reads' HP.out.rs).2.2
        have HCU := Aside0.mk (Kd.R_reads' HP.out.ru).2.2
        have HCA := Aside0.mk hCa
        have HLA := Aside0.mk hca
        have HBLK := Aside0.mk HP.out.blk
        have HBEL := Aside0.mk HP.out.bel
        have HNP := Aside0.mk (show ps.length ≤ 20 by have h_ := HA.out; have h1_ := HJG.out; omega)
        clear HP hcv hcu hCv hCu hCa hca HJG HGk
        go_wp2_with (fail)
        go_loopg [11] (ps.length) (fun gm v11 w' => ∃ i : Nat, v11 = .int .i64 i ∧ Aside0 (i + gm = ps.length) ∧ Aside0 (Below wo.heap.size wo w'))
        case atStart => exact ⟨0, rfl, ⟨by omega⟩, ⟨Below.refl _ _⟩⟩
        case round =>
          obtain ⟨i, rfl, HK, HB⟩ := hrel
          have hi20 : (ps.length : Int) ≤ 20 := by have h_ := HNP.out; omega
          by_cases hip : (i : Int) < ps.length
          · have hi0 : (0 : Int) ≤ (i : Int) := by omega
            obtain ⟨q, hq⟩ : ∃ q, ps[i]? = some q := ⟨ps[i]'(by omega), List.getElem?_eq_getElem _⟩
            have HQ := Aside0.mk (HA.out.2.2.2 q (List.mem_of_getElem? hq))
            have hml : ∀ f : List Int → List Value, (ps.map f).length = ps.length := fun f => List.length_map _
            obtain ⟨gs, cap, he, _, _, _⟩ := Kd.R_form HRS.out (by rw [hml]; omega)
            injection he with he1 he2 he3
            subst he1
            obtain ⟨gu, capu, hf, _, _, _⟩ := Kd.R_form HRU.out (by rw [hml]; omega)
            injection hf with hf1 hf2 hf3
            subst hf1
            obtain ⟨ad1, h1_, RS⟩ := raw_at HCV.out i (sC q) (by rw [List.getElem?_map, hq]; rfl) (by rw [hml]; omega)
            injection h1_ with h1_
            subst h1_
            obtain ⟨ad2, h2_, RU⟩ := raw_at HCU.out i (dC q) (by rw [List.getElem?_map, hq]; rfl) (by rw [hml]; omega)
            injection h2_ with h2_
            subst h2_
            simp only [Addr.add_mid, Nat.zero_add] at RS RU
            have HRa := Aside0.mk RS
            have HRb := Aside0.mk RU
            clear RS RU he2 he3 hf2 hf3 hml
            have HG8 := Aside0.mk (HG.out.below (below_step HBEL.out HB.out))
            have hl40 : ∀ W : World, Below wr.heap.size wr W → (loadVar 40 ⟨gs, i * 73, none⟩).run Tryd.prog W = .ok (.agg (sv (St q))) W := fun W hB => by
              have h_ := run_loadVar_mid (P := Tryd.prog) W gs (i * 73) 40 (sC q) _ (fun j v hv => HRa.out W (below_step HB.out hB) j v hv) Tryd.underlying40 rfl (by unfold sC; rw [Array.length_toList, sv_size _ (St_r _)]; exact size40)
              simpa [sC] using h_
            have hl40' := hl40 wr (Below.refl _ _)
            have kc := fun (w : World) (C : Array Value) (n c : Nat) => Lib.run_convert_bytes_const (P := Tryd.prog) w 22 5 C n c Tryd.underlying22 Tryd.underlying5
            go_wp2_with (fail)
            refine (moreS q (some ⟨wr.heap.size, 0, none⟩) 6 [98, 101, 104, 105, 110, 100] _ (HG8.out.alloc _) (reads_lit wr [98, 101, 104, 105, 110, 100] (6, 7) (by decide)) (by decide) HQ.out.1 (by unfold Bytes; decide) (by have h_ := HQ.out.2; simp; omega)).mono ?_
            rintro e wx ⟨rfl, hb⟩
            have HBX := Aside0.mk (below_then (below_alloc (Below.refl wr.heap.size wr) _) (by simp) hb)
            clear hb hl40' kc
            have HB9 := Aside0.mk (below_step HB.out HBX.out)
            have hl40' : ∀ W : World, Below wx.heap.size wx W → (loadVar 40 ⟨gs, i * 73, none⟩).run Tryd.prog W = .ok (.agg (sv (St q))) W := fun W hB => hl40 W (HBX.out.trans (hB.mono HBX.out.size))
            have HG9 := Aside0.mk (HG8.out.below HBX.out)
            have hsum : ∀ W : World, (Below wx.heap.size wx W ∧ W.rangeAt gu (i * 32) (dC q)) → Calls Tryd.prog 16 #[.agg (sv (St q))] W fun e w' => e = .returned (.agg (dv (DW q))) ∧ (Below wx.heap.size wx w' ∧ w'.rangeAt gu (i * 32) (dC q)) := fun W hB => (sum_calls q W (HG9.out.below hB.1) HQ.out.1 (by have h_ := HQ.out; omega)).mono fun e w' h => ⟨h.1, below_step hB.1 h.2, fun j v hv => HRb.out w' (below_step HB9.out (below_step hB.1 h.2)) j v hv⟩
            have HS := Aside0.mk hsum
            have hr0 : ∀ n, (wx.drewN n).rangeAt gu (i * 32) (dC q) := fun n j v hv => HRb.out _ (below_step HB9.out (pw_below_drewN (Below.refl _ _) n)) j v hv
            have hu25 := Tryd.underlying25
            have hi25 : (Tryd.prog.info? 25).map (·.size) = some (dC q).length := by unfold dC; rw [Array.length_toList, dv_size]; exact size25
            have heq2 : ∀ W : World, (Op.equalIn 10000 25 (.agg (dv (DW q))) (.agg (dC q).toArray)).run Tryd.prog W = .ok true W := fun W => by
              have h_ : (dC q).toArray = dv (DW q) := by unfold dC; simp
              rw [h_]; exact heq _ W
            clear hsum hl40
            go_upto_region 24 with (fail)
            go_region_held3 (fun W => Below wx.heap.size wx W ∧ W.rangeAt gu (i * 32) (dC q)) (first | exact ⟨pw_below_drewN (Below.refl _ _) 1, hr0 1⟩ | assumption) (first
              | (go_at_call 16; refine (HS.out _ (by assumption)).mono ?_; rintro e w' ⟨rfl, hb⟩))
            clear hl40' hr0 hu25 hi25 heq2
            go_wp2_with (fail)
            go_roundg (gk - 1)
            case measure => have h_ := HK.out; omega
            case rel => exact ⟨i + 1, by go_num, ⟨by have h_ := HK.out; omega⟩, ⟨below_step HB9.out (And.left (b := World.rangeAt _ gu (i * 32) (dC q)) (by assumption))⟩⟩
          · have HBW := Aside0.mk (below_step HBEL.out HB.out)
            have HG8 := Aside0.mk (HG.out.below HBW.out)
            have HAB := Aside0.mk (show Bytes al ∧ al.length ≤ 4000 by have h_ := HA.out; have h1_ := HNP.out; exact ⟨h_.1, by omega⟩)
            have hl4 : ∀ W : World, Below wr.heap.size wr W → (loadVar 40 ⟨ga, 0, none⟩).run Tryd.prog W = .ok (.agg (sv (St al))) W := fun W hB => ld40 (blk_below HBLK.out (below_step HB.out hB)) (St_r _)
            have hsum : ∀ W : World, Below wr.heap.size wr W → Calls Tryd.prog 16 #[.agg (sv (St al))] W fun e w' => e = .returned (.agg (dv (DW al))) ∧ Below wr.heap.size wr w' := fun W hB => (sum_calls al W (HG8.out.below hB) HAB.out.1 (by have h_ := HAB.out; omega)).mono fun e w' h => ⟨h.1, below_step hB h.2⟩
            have hdig : ∀ W : World, Below wr.heap.size wr W → Calls Tryd.prog 11 #[.slice Aa al.length ca] W fun e w' => e = .returned (.agg (dv (DW al))) ∧ Below wr.heap.size wr w' := fun W hB => (digest_calls Aa ca al W (HG8.out.below hB) (Kd.C_below HCA.out (below_step HB.out hB)) HLA.out HAB.out.1 (by have h_ := HAB.out; omega)).mono fun e w' h => ⟨h.1, below_step hB h.2⟩
            have HS := Aside0.mk (And.intro hsum hdig)
            clear hsum hdig
            have hl4r := hl4 wr (Below.refl _ _)
            go_wp2_with (fail)
            refine (HS.out.1 _ (Below.refl _ _)).mono ?_
            rintro e wx ⟨rfl, hb⟩
            go_wp2_with (fail)
            refine (HS.out.2 _ hb).mono ?_
            rintro e wy ⟨rfl, hb2⟩
            go_wp2_with (fail)
            go_ret
            exact ⟨rfl, below_step HBW.out hb2⟩
      · clear hgo
        obtain ⟨wo, hwo⟩ : ∃ W_ : World, W_ = wr := ⟨_, rfl⟩
        subst hwo
        obtain ⟨Av, cv, hv, hcv, hCv⟩ := Kd.R_reads HP.out.rs
        obtain ⟨Au, cu, hu, hcu, hCu⟩ := Kd.R_reads HP.out.ru
        obtain ⟨Aa, ca, hva, hca, hCa⟩ := Kd.R_reads HP.out.ra
        subst hv hu hva
        rw [List.length_map] at hcv hcu
        simp only [List.length_map] at HP ⊢
        have HRS := Aside0.mk HP.out.rs
        have HRU := Aside0.mk HP.out.ru
        have HCV := Aside0.mk (Kd.R_reads' HP.out.rs).2.2
        have HCU := Aside0.mk (Kd.R_reads' HP.out.ru).2.2
        have HCA := Aside0.mk hCa
        have HLA := Aside0.mk hca
        have HBLK := Aside0.mk HP.out.blk
        have HBEL := Aside0.mk HP.out.bel
        have HNP := Aside0.mk (show ps.length ≤ 20 by have h_ := HA.out; have h1_ := HJG.out; omega)
        clear HP hcv hcu hCv hCu hCa hca HJG HGk
        go_wp2_with (fail)
        go_loopg [11] (ps.length) (fun gm v11 w' => ∃ i : Nat, v11 = .int .i64 i ∧ Aside0 (i + gm = ps.length) ∧ Aside0 (Below wo.heap.size wo w'))
        case atStart => exact ⟨0, rfl, ⟨by omega⟩, ⟨Below.refl _ _⟩⟩
        case round =>
          obtain ⟨i, rfl, HK, HB⟩ := hrel
          have hi20 : (ps.length : Int) ≤ 20 := by have h_ := HNP.out; omega
          by_cases hip : (i : Int) < ps.length
          · have hi0 : (0 : Int) ≤ (i : Int) := by omega
            obtain ⟨q, hq⟩ : ∃ q, ps[i]? = some q := ⟨ps[i]'(by omega), List.getElem?_eq_getElem _⟩
            have HQ := Aside0.mk (HA.out.2.2.2 q (List.mem_of_getElem? hq))
            have hml : ∀ f : List Int → List Value, (ps.map f).length = ps.length := fun f => List.length_map _
            obtain ⟨gs, cap, he, _, _, _⟩ := Kd.R_form HRS.out (by rw [hml]; omega)
            injection he with he1 he2 he3
            subst he1
            obtain ⟨gu, capu, hf, _, _, _⟩ := Kd.R_form HRU.out (by rw [hml]; omega)
            injection hf with hf1 hf2 hf3
            subst hf1
            obtain ⟨ad1, h1_, RS⟩ := raw_at HCV.out i (sC q) (by rw [List.getElem?_map, hq]; rfl) (by rw [hml]; omega)
            injection h1_ with h1_
            subst h1_
            obtain ⟨ad2, h2_, RU⟩ := raw_at HCU.out i (dC q) (by rw [List.getElem?_map, hq]; rfl) (by rw [hml]; omega)
            injection h2_ with h2_
            subst h2_
            simp only [Addr.add_mid, Nat.zero_add] at RS RU
            have HRa := Aside0.mk RS
            have HRb := Aside0.mk RU
            clear RS RU he2 he3 hf2 hf3 hml
            have HG8 := Aside0.mk (HG.out.below (below_step HBEL.out HB.out))
            have hl40 : ∀ W : World, Below wr.heap.size wr W → (loadVar 40 ⟨gs, i * 73, none⟩).run Tryd.prog W = .ok (.agg (sv (St q))) W := fun W hB => by
              have h_ := run_loadVar_mid (P := Tryd.prog) W gs (i * 73) 40 (sC q) _ (fun j v hv => HRa.out W (below_step HB.out hB) j v hv) Tryd.underlying40 rfl (by unfold sC; rw [Array.length_toList, sv_size _ (St_r _)]; exact size40)
              simpa [sC] using h_
            have hl40' := hl40 wr (Below.refl _ _)
            have kc := fun (w : World) (C : Array Value) (n c : Nat) => Lib.run_convert_bytes_const (P := Tryd.prog) w 22 5 C n c Tryd.underlying22 Tryd.underlying5
            go_wp2_with (fail)
            refine (moreS q (some ⟨wr.heap.size, 0, none⟩) 6 [98, 101, 104, 105, 110, 100] _ (HG8.out.alloc _) (reads_lit wr [98, 101, 104, 105, 110, 100] (6, 7) (by decide)) (by decide) HQ.out.1 (by unfold Bytes; decide) (by have h_ := HQ.out.2; simp; omega)).mono ?_
            rintro e wx ⟨rfl, hb⟩
            have HBX := Aside0.mk (below_then (below_alloc (Below.refl wr.heap.size wr) _) (by simp) hb)
            clear hb hl40' kc
            have HB9 := Aside0.mk (below_step HB.out HBX.out)
            have hl40' : ∀ W : World, Below wx.heap.size wx W → (loadVar 40 ⟨gs, i * 73, none⟩).run Tryd.prog W = .ok (.agg (sv (St q))) W := fun W hB => hl40 W (HBX.out.trans (hB.mono HBX.out.size))
            have HG9 := Aside0.mk (HG8.out.below HBX.out)
            have hsum : ∀ W : World, (Below wx.heap.size wx W ∧ W.rangeAt gu (i * 32) (dC q)) → Calls Tryd.prog 16 #[.agg (sv (St q))] W fun e w' => e = .returned (.agg (dv (DW q))) ∧ (Below wx.heap.size wx w' ∧ w'.rangeAt gu (i * 32) (dC q)) := fun W hB => (sum_calls q W (HG9.out.below hB.1) HQ.out.1 (by have h_ := HQ.out; omega)).mono fun e w' h => ⟨h.1, below_step hB.1 h.2, fun j v hv => HRb.out w' (below_step HB9.out (below_step hB.1 h.2)) j v hv⟩
            have HS := Aside0.mk hsum
            have hr0 : ∀ n, (wx.drewN n).rangeAt gu (i * 32) (dC q) := fun n j v hv => HRb.out _ (below_step HB9.out (pw_below_drewN (Below.refl _ _) n)) j v hv
            have hu25 := Tryd.underlying25
            have hi25 : (Tryd.prog.info? 25).map (·.size) = some (dC q).length := by unfold dC; rw [Array.length_toList, dv_size]; exact size25
            have heq2 : ∀ W : World, (Op.equalIn 10000 25 (.agg (dv (DW q))) (.agg (dC q).toArray)).run Tryd.prog W = .ok true W := fun W => by
              have h_ : (dC q).toArray = dv (DW q) := by unfold dC; simp
              rw [h_]; exact heq _ W
            clear hsum hl40
            go_upto_region 24 with (fail)
            go_region_held3 (fun W => Below wx.heap.size wx W ∧ W.rangeAt gu (i * 32) (dC q)) (first | exact ⟨pw_below_drewN (Below.refl _ _) 1, hr0 1⟩ | assumption) (first
              | (go_at_call 16; refine (HS.out _ (by assumption)).mono ?_; rintro e w' ⟨rfl, hb⟩))
            clear hl40' hr0 hu25 hi25 heq2
            go_wp2_with (fail)
            go_roundg (gk - 1)
            case measure => have h_ := HK.out; omega
            case rel => exact ⟨i + 1, by go_num, ⟨by have h_ := HK.out; omega⟩, ⟨below_step HB9.out (And.left (b := World.rangeAt _ gu (i * 32) (dC q)) (by assumption))⟩⟩
          · have HBW := Aside0.mk (below_step HBEL.out HB.out)
            have HG8 := Aside0.mk (HG.out.below HBW.out)
            have HAB := Aside0.mk (show Bytes al ∧ al.length ≤ 4000 by have h_ := HA.out; have h1_ := HNP.out; exact ⟨h_.1, by omega⟩)
            have hl4 : ∀ W : World, Below wr.heap.size wr W → (loadVar 40 ⟨ga, 0, none⟩).run Tryd.prog W = .ok (.agg (sv (St al))) W := fun W hB => ld40 (blk_below HBLK.out (below_step HB.out hB)) (St_r _)
            have hsum : ∀ W : World, Below wr.heap.size wr W → Calls Tryd.prog 16 #[.agg (sv (St al))] W fun e w' => e = .returned (.agg (dv (DW al))) ∧ Below wr.heap.size wr w' := fun W hB => (sum_calls al W (HG8.out.below hB) HAB.out.1 (by have h_ := HAB.out; omega)).mono fun e w' h => ⟨h.1, below_step hB h.2⟩
            have hdig : ∀ W : World, Below wr.heap.size wr W → Calls Tryd.prog 11 #[.slice Aa al.length ca] W fun e w' => e = .returned (.agg (dv (DW al))) ∧ Below wr.heap.size wr w' := fun W hB => (digest_calls Aa ca al W (HG8.out.below hB) (Kd.C_below HCA.out (below_step HB.out hB)) HLA.out HAB.out.1 (by have h_ := HAB.out; omega)).mono fun e w' h => ⟨h.1, below_step hB h.2⟩
            have HS := Aside0.mk (And.intro hsum hdig)
            clear hsum hdig
            have hl4r := hl4 wr (Below.refl _ _)
            go_wp2_with (fail)
            refine (HS.out.1 _ (Below.refl _ _)).mono ?_
            rintro e wx ⟨rfl, hb⟩
            go_wp2_with (fail)
            refine (HS.out.2 _ hb).mono ?_
            rintro e wy ⟨rfl, hb2⟩
            go_wp2_with (fail)
            go_ret
            exact ⟨rfl, below_step HBW.out hb2⟩
end Go.Proofs.YtanafhccflmdkaaDoor.Ext
