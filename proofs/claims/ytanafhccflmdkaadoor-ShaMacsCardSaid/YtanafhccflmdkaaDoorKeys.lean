/- ShaKeys, by hand. -/
import Derived.Test.YtanafhccflmdkaaDoorForks
import Derived.Test.YtanafhccflmdkaaDoorZeros
import Derived.Deep.RegionHeld3
namespace Go.Proofs.YtanafhccflmdkaaDoor.Ext
open Go.RowKit Go.Proofs.YtanafhccflmdkaaDoorW.PrintWords Go.Proofs.YtanafhccflmdkaaDoorW.PrintLast Go.Proofs.YtanafhccflmdkaaDoorW.PrintMore
set_option linter.unusedVariables false
set_option linter.unusedSimpArgs false
attribute [local go_sem] min2_mn max_two min_two
theorem and16 (a : Int) : ∃ x : Nat, x ≤ 65535 ∧ Go.bits .and .i64 a 65535 = (x : Int) := by
  simp only [bits]
  have h : ((BitVec.ofInt IntKind.i64.bits a &&& BitVec.ofInt IntKind.i64.bits 65535).toNat) ≤ 65535 := by
    rw [BitVec.toNat_and]
    exact Nat.le_trans Nat.and_le_right (by decide +kernel)
  generalize (BitVec.ofInt IntKind.i64.bits a &&& BitVec.ofInt IntKind.i64.bits 65535).toNat = n at *
  refine ⟨n, h, ?_⟩
  rw [IntKind.wrap_i64]; omega
theorem wpl_zeros {ops : Array Oper} {rest : List Oper} {o : Oper} {a : Act} {Q : Exit → Act → World → Prop} (w0 W : World) (hgd : o.guard = none) (s x : Operand)
    (ho : o.op = .call { callee := .builtin .append, args := #[s, x], argTypes := #[22, 3] }) (v : Value) (xs : List Int) (m : Nat) (hs : a.eval s = v) (hx : a.eval x = .int .i64 (m : Int))
    (HO : Kd.R (Kd.int .u8) 5 W w0.heap.size (fun _ => True) v xs) (HB : Below w0.heap.size w0 W) (hl : xs.length + m ≤ 1000000)
    (h : ∀ v1 w1, Kd.R (Kd.int .u8) 5 w1 w0.heap.size (fun _ => True) v1 (xs ++ List.replicate m 0) → Below w0.heap.size w0 w1 → wpList Tryd.prog ops Q rest (a.put o.dst v1) w1) : wpList Tryd.prog ops Q (o :: rest) a W := by
  obtain ⟨v1, w1, hr, hR, hg, _⟩ := runs_zeros W w0.heap.size (fun _ => True) v xs m o.type HO hl HB.size (fun _ _ => trivial)
  exact Lib.wpList_append_run W hgd s x 22 3 ho v _ hs hx v1 w1 hr (h v1 w1 hR (grown_below hg HO HB))
attribute [-go_sem] Builtin.append_
set_option maxHeartbeats 4000000 in
set_option maxRecDepth 100000 in
theorem keys_calls (A0 : Option Addr) (c0 : Nat) (l0 : List Int) (A1 : Option Addr) (c1 : Nat) (l1 : List Int) (n : Int) (w : World) (hG : Glob w)
    (hC0 : Kd.C (Kd.int .u8) w A0 l0.length l0) (hc0 : l0.length ≤ c0) (hb0 : Bytes l0) (hC1 : Kd.C (Kd.int .u8) w A1 l1.length l1) (hc1 : l1.length ≤ c1) (hb1 : Bytes l1) :
    Calls Tryd.prog 7 #[.slice A0 l0.length c0, .slice A1 l1.length c1, .int .i64 n] w fun e w' => e = .returned (.bool true) ∧ Below w.heap.size w w' := by
  obtain ⟨m1, hm1, hmn1, hcut1⟩ := cut_at A1 l1.length c1 200 200 rfl hc1
  obtain ⟨m0, hm0, hmn0, hcut0⟩ := cut_at A0 l0.length c0 64 64 rfl hc0
  obtain ⟨m3, hm3, hmn3, hcut3⟩ := cut_at A0 l0.length c0 200 200 rfl hc0
  obtain ⟨L1, hL1⟩ : ∃ L, L = l1.take m1 := ⟨_, rfl⟩
  have hLl1 : L1.length = m1 := by rw [hL1, List.length_take]; omega
  have HC1 := Aside0.mk (show Kd.C (Kd.int .u8) w A1 L1.length L1 by rw [hL1]; exact Kd.C_take hC1 (by omega))
  have HB1 := Aside0.mk (show Bytes L1 by rw [hL1]; exact fun x hx => hb1 x (List.mem_of_mem_take hx))
  have HLE1 := Aside0.mk (show L1.length ≤ c1 ∧ L1.length ≤ 300 by omega)
  rw [← hLl1] at hmn1 hcut1
  clear hL1 hLl1 hC1 hb1 hc1 hm1
  have hC3 := hC0
  have hb3 := hb0
  obtain ⟨L0, hL0⟩ : ∃ L, L = l0.take m0 := ⟨_, rfl⟩
  have hLl0 : L0.length = m0 := by rw [hL0, List.length_take]; omega
  have HC0 := Aside0.mk (show Kd.C (Kd.int .u8) w A0 L0.length L0 by rw [hL0]; exact Kd.C_take hC0 (by omega))
  have HB0 := Aside0.mk (show Bytes L0 by rw [hL0]; exact fun x hx => hb0 x (List.mem_of_mem_take hx))
  have HLE0 := Aside0.mk (show L0.length ≤ c0 ∧ L0.length ≤ 64 by omega)
  rw [← hLl0] at hmn0 hcut0
  obtain ⟨L3, hL3⟩ : ∃ L, L = l0.take m3 := ⟨_, rfl⟩
  have hLl3 : L3.length = m3 := by rw [hL3, List.length_take]; omega
  have HC3 := Aside0.mk (show Kd.C (Kd.int .u8) w A0 L3.length L3 by rw [hL3]; exact Kd.C_take hC0 (by omega))
  have HB3 := Aside0.mk (show Bytes L3 by rw [hL3]; exact fun x hx => hb0 x (List.mem_of_mem_take hx))
  have HLE3 := Aside0.mk (show L3.length ≤ c0 ∧ L3.length ≤ 200 by omega)
  rw [← hLl3] at hmn3 hcut3
  clear hL0 hLl0 hL3 hLl3 hC0 hb0 hC3 hb3 hc0 hm0 hm3
  have HG := Aside0.mk hG
  clear hG
  obtain ⟨B, hB16, hand⟩ := and16 n
  obtain ⟨D, hD⟩ : ∃ D : Nat, D = 65 - L0.length := ⟨_, rfl⟩
  have hDw : IntKind.i64.wrap (D : Int) = (D : Int) := by have h_ := HLE0.out; rw [IntKind.wrap_i64]; omega
  have hDs : 65 - (L0.length : Int) = (D : Int) := by have h_ := HLE0.out; omega
  have hD0 : ¬ ((D : Int) = 0) := by have h_ := HLE0.out; omega
  have hD1 : ¬ (D = 0) := by have h_ := HLE0.out; omega
  obtain ⟨I, hI⟩ : ∃ I : Nat, I = B % D := ⟨_, rfl⟩
  have hIm : Int.tmod (B : Int) (D : Int) = (I : Int) := by rw [hI]; rfl
  have HI := Aside0.mk (show L0.length + I ≤ 64 by have h_ := HLE0.out; have h1_ := Nat.mod_lt B (Nat.pos_of_ne_zero hD1); omega)
  clear hI hD hB16
  have hz := zero25
  obtain ⟨Z, hZ⟩ : ∃ Z, Z = Z25 := ⟨_, rfl⟩
  rw [← hZ] at hz
  have HZ := Aside0.mk (show Z.size = 32 by rw [hZ]; rfl)
  clear hZ
  have heq : ∀ (x : D8) (W : World), (Op.equalIn 10000 25 (.agg (dv x)) (.agg (dv x))).run Tryd.prog W = .ok true W := fun x W => eq_dv 9998 x W
  go_enter Tryd.func7, Tryd.ntmps7
  go_wp2_with (fail)
  refine (shown_calls w HG.out).mono ?_
  rintro e wz ⟨rfl, hb⟩
  have HBw1 := Aside0.mk (hb)
  clear hb
  go_upto_region 4 with (first
    | ((with_reducible refine gate_dst (N := 18) rfl ?_); refine Kd.R_lit (Kd.int .u8) (w0 := w) w.heap.size 5 ?hg_l18 (N := 18) ?hd_l18 (xs := ([] : List Int)) (inner := []) (ok := fun _ => True) (okp := fun _ => True) ?hr_l18 ?hp_l18 (fun _ hk => hk) trivial HBw1.out HBw1.out.size (by simp) ?_; (case hd_l18 => rfl); (case hg_l18 => rfl); (case hr_l18 => first | (go_simp; done) | (go_simp; rfl)); (case hp_l18 => exact (Reps.none _ _)); intro va wa hva hba _ _; have HVa := Aside0.mk hva; have HBa := Aside0.mk hba; clear hva hba)
    | ((with_reducible refine gate_dst (N := 24) rfl ?_); refine Kd.R_append_row (Value.int .u8) (0 : Int) (w0 := w) w.heap.size ?hg_a24 (.tmp 18) (.tmp 23) 22 5 (.int .u8 0) 1 ?ho_a24 Tryd.underlying22 info5 rfl (by decide) (va) ([]) (L0) (A0) (L0.length) (c0) (fun _ => True) ?hs_a24 ?hx_a24 (fun _ _ => trivial) (HVa.out) ((Kd.C_below HC0.out HBa.out)) (HBa.out) (HBa.out).size ?hl_a24 ?_; (case hg_a24 => rfl); (case ho_a24 => rfl); (case hs_a24 => rfl); (case hx_a24 => rfl); (case hl_a24 => simp; have h_ := HLE0.out; omega); intro vb wb hvb hbb _ _; rw [List.nil_append] at hvb; obtain ⟨As, cs, rfl, hcs, hCs⟩ := Kd.R_reads hvb; have HCs := Aside0.mk hCs; have HLs := Aside0.mk hcs; have HBb := Aside0.mk hbb; clear hvb hbb hcs hCs)
    | fail)
  clear HVa HBa HBw1
  obtain ⟨v1, w1, hr1, hR1, hg1, hat1⟩ := runs_app ((wb.alloc (.cells #[] 5)).drew) wb.heap.size (fun _ => True) (.slice (some ⟨wb.heap.size, 0, none⟩) 0 0) [] L0 As cs 22 (Kd.R_drew (R_new wb wb.heap.size (Nat.le_refl _))) (Kd.C_drew (Kd.C_alloc HCs.out _)) (by have h_ := HLE0.out; simp; omega) (by simp) (fun _ _ => trivial)
  have HB1 := Aside0.mk (grown_below hg1 (Kd.R_drew (R_new wb wb.heap.size (Nat.le_refl _))) (below_drew (below_alloc (Below.refl _ wb) _)))
  rw [List.nil_append] at hR1
  obtain ⟨v2, w2, hr2, hR2, hg2, hat2⟩ := runs_zeros w1 wb.heap.size (fun _ => True) v1 L0 I 22 hR1 (by have h_ := HI.out; omega) HB1.out.size (fun _ _ => trivial)
  have HB2 := Aside0.mk (grown_below hg2 hR1 HB1.out)
  obtain ⟨LZ, hLZ⟩ : ∃ L, L = L0 ++ List.replicate I 0 := ⟨_, rfl⟩
  rw [← hLZ] at hR2
  have HLZ := Aside0.mk hLZ
  have HLL := Aside0.mk (show LZ.length ≤ 64 ∧ Bytes LZ by rw [hLZ]; exact ⟨by have h_ := HI.out; simp; omega, fun x hx => (List.mem_append.1 hx).elim (HB0.out x) (fun h => by rw [List.eq_of_mem_replicate h]; decide)⟩)
  obtain ⟨Al, cl, rfl, hcl, hCl⟩ := Kd.R_reads hR2
  have HCl := Aside0.mk hCl
  have HLl := Aside0.mk hcl
  clear hR1 hR2 hg1 hg2 hat1 hat2 hCl hcl hLZ HB1 HI
  go_region_held3 (fun _ => True) (trivial) (fail)
  have HBw_ := Aside0.mk (below_step HBb.out HB2.out)
  have HCs2 := Aside0.mk (Kd.C_below HCs.out HB2.out)
  clear HBb HB2 HCs
  go_wp2_with (fail)
  refine (mac_calls As cs L0 A1 c1 L1 _ (HG.out.below HBw_.out) HCs2.out HLs.out HB0.out (by have h_ := HLE0.out; omega) (Kd.C_below HC1.out HBw_.out) HLE1.out.1 HB1.out (by have h_ := HLE1.out; omega)).mono ?_
  rintro e wz ⟨X1, hX1, rfl, hb⟩
  have HX1 := Aside0.mk hX1
  have HBy := Aside0.mk (below_step HBw_.out hb)
  have HCl2 := Aside0.mk (Kd.C_below HCl.out hb)
  clear hb hX1 HBw_ HCl HCs2
  go_wp2_with (fail)
  refine (mac_calls Al cl LZ A1 c1 L1 _ (HG.out.below HBy.out) HCl2.out HLl.out HLL.out.2 (by have h_ := HLL.out; omega) (Kd.C_below HC1.out HBy.out) HLE1.out.1 HB1.out (by have h_ := HLE1.out; omega)).mono ?_
  rintro e wz ⟨X2, hX2, rfl, hb⟩
  have HBw := Aside0.mk (below_step HBy.out hb)
  have e_ : dv X2 = dv X1 := by unfold dv; rw [hX2, HX1.out, HLZ.out, mac_zeros _ _ _ (by have h_ := HLL.out.1; rw [HLZ.out] at h_; simpa using h_)]
  rw [e_]
  clear hb hX2 e_ HX1 HBy HCl2 HLZ HLL HLl
  obtain ⟨L5, hL5⟩ : ∃ L, L = L3 ++ List.replicate 65 0 := ⟨_, rfl⟩
  have HL5 := Aside0.mk hL5
  have HN5 := Aside0.mk (show 64 < L5.length ∧ L5.length ≤ 300 ∧ Bytes L5 by rw [hL5]; exact ⟨by rw [List.length_append, List.length_replicate]; omega, by have h_ := HLE3.out; rw [List.length_append, List.length_replicate]; omega, fun x hx => (List.mem_append.1 hx).elim (HB3.out x) (fun h => by rw [List.eq_of_mem_replicate h]; decide)⟩)
  clear hL5
  go_upto_region 8 with (first
    | ((with_reducible refine gate_dst (N := 42) rfl ?_); refine Kd.R_lit (Kd.int .u8) (w0 := w) w.heap.size 5 ?hg_l42 (N := 42) ?hd_l42 (xs := ([] : List Int)) (inner := []) (ok := fun _ => True) (okp := fun _ => True) ?hr_l42 ?hp_l42 (fun _ hk => hk) trivial HBw.out HBw.out.size (by simp) ?_; (case hd_l42 => rfl); (case hg_l42 => rfl); (case hr_l42 => first | (go_simp; done) | (go_simp; rfl)); (case hp_l42 => exact (Reps.none _ _)); intro va wa hva hba _ _; have HVa := Aside0.mk hva; have HBa := Aside0.mk hba; clear hva hba)
    | ((with_reducible refine gate_dst (N := 48) rfl ?_); refine Kd.R_append_row (Value.int .u8) (0 : Int) (w0 := w) w.heap.size ?hg_a48 (.tmp 42) (.tmp 47) 22 5 (.int .u8 0) 1 ?ho_a48 Tryd.underlying22 info5 rfl (by decide) (va) ([]) (L3) (A0) (L3.length) (c0) (fun _ => True) ?hs_a48 ?hx_a48 (fun _ _ => trivial) (HVa.out) ((Kd.C_below HC3.out HBa.out)) (HBa.out) (HBa.out).size ?hl_a48 ?_; (case hg_a48 => rfl); (case ho_a48 => rfl); (case hs_a48 => rfl); (case hx_a48 => rfl); (case hl_a48 => simp; have h_ := HLE3.out; omega); intro vb wb' hvb hbb _ _; rw [List.nil_append] at hvb; have HVb := Aside0.mk hvb; have HBb := Aside0.mk hbb; clear hvb hbb)
    | ((with_reducible refine gate_dst (N := 49) rfl ?_); refine wpl_zeros w _ ?hgd_z (.tmp 48) (.const (.int .i64 65)) ?ho_z vb L3 65 ?hs_z ?hx_z HVb.out HBb.out ?hl_z ?_; (case hgd_z => rfl); (case ho_z => rfl); (case hs_z => rfl); (case hx_z => rfl); (case hl_z => have h_ := HLE3.out; omega); intro vc wc_ hvc hbc; rw [← HL5.out] at hvc; obtain ⟨Am, cm, rfl, hcm, hCm⟩ := Kd.R_reads hvc; have HCm := Aside0.mk hCm; have HLm := Aside0.mk hcm; have HBc := Aside0.mk hbc; clear hvc hbc hcm hCm)
    | fail)
  clear HVa HVb HBa HBb HBw
  go_wp2_with (fail)
  refine (digest_calls Am cm L5 _ (HG.out.below HBc.out) HCm.out HLm.out HN5.out.2.2 (by have h_ := HN5.out; omega)).mono ?_
  rintro e wz ⟨rfl, hb⟩
  have HB6 := Aside0.mk (below_step HBc.out hb)
  have HCm2 := Aside0.mk (Kd.C_below HCm.out hb)
  obtain ⟨X, hX⟩ : ∃ X, X = DW L5 := ⟨_, rfl⟩
  have HX := Aside0.mk (show outs X = digest L5 by rw [hX]; rfl)
  rw [← hX]
  clear hX hb HBc HCm
  go_upto_region 9 with (first
    | ((with_reducible refine gate_store (p := 11) rfl ?_); refine st_row ?hgd_s11_51 25 (.tmp 11) (.tmp 51) ?ho_s11_51 wz.heap.size (dv X) ?hx_s11_51 ?hy_s11_51 25 (Z) ?hg_s11_51 ?hi_s11_51 ?hold_s11_51 (dv_one _) ?_; (case hgd_s11_51 => rfl); (case ho_s11_51 => rfl); (case hx_s11_51 => rfl); (case hy_s11_51 => rfl); (case hg_s11_51 => exact blk_new _ _); (case hi_s11_51 => rw [dv_size _]; exact size25); (case hold_s11_51 => rw [HZ.out, dv_size _]); intro w11 hb11 hg11)
    | fail)
  have HB7 := Aside0.mk ((below_alloc HB6.out _).trans (gr_below hg11.out HB6.out.size (below_alloc HB6.out (.cells Z 25)).size))
  have HCm3 := Aside0.mk (Kd.C_below HCm2.out ((below_alloc (Below.refl _ wz) (.cells Z 25)).trans (gr_below hg11.out (Nat.le_refl _) (below_alloc (Below.refl _ wz) (.cells Z 25)).size)))
  obtain ⟨gd, hgd⟩ : ∃ g, g = wz.heap.size := ⟨_, rfl⟩
  rw [← hgd] at hb11 ⊢
  clear hgd hg11 HB6 HCm2
  have HG8 := Aside0.mk (HG.out.below HB7.out)
  have HC8 := Aside0.mk (Kd.C_below HC1.out HB7.out)
  obtain ⟨Y, hY⟩ : ∃ Y : D8, outs Y = mac L5 L1 := ⟨_, rfl⟩
  have hm1 : ∀ W : World, Below w11.heap.size w11 W → Calls Tryd.prog 13 #[.slice Am L5.length cm, .slice A1 L1.length c1] W fun e w' => e = .returned (.agg (dv Y)) ∧ Below w11.heap.size w11 w' := fun W hB => (mac_calls Am cm L5 A1 c1 L1 W (HG8.out.below hB) (Kd.C_below HCm3.out hB) HLm.out HN5.out.2.2 (by have h_ := HN5.out; omega) (Kd.C_below HC8.out hB) HLE1.out.1 HB1.out (by have h_ := HLE1.out; omega)).mono fun e w' ⟨x, h1, h2, h3⟩ => ⟨by rw [h2]; unfold dv; rw [h1, hY], below_step hB h3⟩
  have hm2 : ∀ W : World, Below w11.heap.size w11 W → Calls Tryd.prog 13 #[.slice (some ⟨gd, 0, none⟩) 32 32, .slice A1 L1.length c1] W fun e w' => e = .returned (.agg (dv Y)) ∧ Below w11.heap.size w11 w' := fun W hB => by
    have hd := dv_C X (blk_below hb11.out hB)
    rw [HX.out] at hd
    have hl : (digest L5).length = 32 := digest_len L5
    have h_ := mac_calls (some ⟨gd, 0, none⟩) 32 (digest L5) A1 c1 L1 W (HG8.out.below hB) hd (by omega) (by rw [← HX.out]; exact outs_bytes X) (by omega) (Kd.C_below HC8.out hB) HLE1.out.1 HB1.out (by have h_ := HLE1.out; omega)
    rw [hl, ← mac_long L5 L1 HN5.out.1] at h_
    exact h_.mono fun e w' ⟨x, h1, h2, h3⟩ => ⟨by rw [h2]; unfold dv; rw [h1, hY], below_step hB h3⟩
  have HS : Aside0 (∀ (v : Value) (W : World), (v = .slice Am L5.length cm ∨ v = .slice (some ⟨gd, 0, none⟩) 32 32) → Below w11.heap.size w11 W → Calls Tryd.prog 13 #[v, .slice A1 L1.length c1] W fun e w' => e = .returned (.agg (dv Y)) ∧ Below w11.heap.size w11 w') := ⟨fun v W hv hB => by rcases hv with rfl | rfl; exact hm1 W hB; exact hm2 W hB⟩
  clear hm1 hm2 hY HCm3 HC8 HG8 hb11
  go_region_held3 (fun W => Below w11.heap.size w11 W) (first | assumption | exact pw_below_drewN (Below.refl _ _) 1) (first
    | (go_at_call 13; refine (HS.out _ _ (by first | exact Or.inl rfl | exact Or.inr rfl) (by assumption)).mono ?_; rintro e w' ⟨rfl, hb⟩))
  go_wp2_with (fail)
  go_ret
  exact ⟨rfl, below_step HB7.out (by assumption)⟩
end Go.Proofs.YtanafhccflmdkaaDoor.Ext
