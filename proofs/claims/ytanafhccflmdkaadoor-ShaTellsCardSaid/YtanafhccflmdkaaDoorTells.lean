/- ShaTells, by hand. -/
import Derived.Test.YtanafhccflmdkaaDoorKeys
import Derived.Test.YtanafhccflmdkaaDoorRefB
namespace Go.Proofs.YtanafhccflmdkaaDoor.Ext
open Go.RowKit Go.Proofs.YtanafhccflmdkaaDoorW.PrintWords Go.Proofs.YtanafhccflmdkaaDoorW.PrintLast Go.Proofs.YtanafhccflmdkaaDoorW.PrintMore
set_option linter.unusedVariables false
set_option linter.unusedSimpArgs false
attribute [local go_sem] min2_mn max_two min_two
set_option maxHeartbeats 4000000 in
set_option maxRecDepth 100000 in
theorem tells_calls (A0 : Option Addr) (c0 : Nat) (l0 : List Int) (n : Int) (w : World) (hG : Glob w)
    (hC0 : Kd.C (Kd.int .u8) w A0 l0.length l0) (hc0 : l0.length ≤ c0) (hb0 : Bytes l0) :
    Calls Tryd.prog 3 #[.slice A0 l0.length c0, .int .i64 n] w fun e w' => e = .returned (.bool true) ∧ Below w.heap.size w w' := by
  obtain ⟨m0, hm0, hmn0, hcut0⟩ := cut_at A0 l0.length c0 300 300 rfl hc0
  obtain ⟨L0, hL0⟩ : ∃ L, L = l0.take m0 := ⟨_, rfl⟩
  have hLl0 : L0.length = m0 := by rw [hL0, List.length_take]; omega
  have HC0 := Aside0.mk (show Kd.C (Kd.int .u8) w A0 L0.length L0 by rw [hL0]; exact Kd.C_take hC0 (by omega))
  have HB0 := Aside0.mk (show Bytes L0 by rw [hL0]; exact fun x hx => hb0 x (List.mem_of_mem_take hx))
  have HLE0 := Aside0.mk (show L0.length ≤ c0 ∧ L0.length ≤ 300 by omega)
  rw [← hLl0] at hmn0 hcut0
  clear hL0 hLl0 hC0 hb0 hc0 hm0
  have HG := Aside0.mk hG
  clear hG
  obtain ⟨B, hB16, hand⟩ := and16 n
  obtain ⟨I, hI⟩ : ∃ I : Nat, I = B % 71 := ⟨_, rfl⟩
  have hIm : Int.tmod (B : Int) 71 = (I : Int) := by rw [hI]; rfl
  have HI := Aside0.mk (show I ≤ 70 by omega)
  clear hI hB16
  obtain ⟨L1, hL1⟩ : ∃ L, L = L0 ++ List.replicate I 0 := ⟨_, rfl⟩
  have HL1 := Aside0.mk hL1
  have HN1 := Aside0.mk (show L1.length ≤ 400 ∧ Bytes L1 by rw [hL1]; exact ⟨by have h_ := HLE0.out; have h1_ := HI.out; rw [List.length_append, List.length_replicate]; omega, fun x hx => (List.mem_append.1 hx).elim (HB0.out x) (fun h => by rw [List.eq_of_mem_replicate h]; decide)⟩)
  clear hL1
  go_enter Tryd.func3, Tryd.ntmps3
  go_wp2_with (fail)
  refine (shown_calls w HG.out).mono ?_
  rintro e wz ⟨rfl, hb⟩
  have HBw1 := Aside0.mk (hb)
  clear hb
  go_upto_region 5 with (first
    | ((with_reducible refine gate_dst (N := 14) rfl ?_); refine Kd.R_lit (Kd.int .u8) (w0 := w) w.heap.size 5 ?hg_l14 (N := 14) ?hd_l14 (xs := ([] : List Int)) (inner := []) (ok := fun _ => True) (okp := fun _ => True) ?hr_l14 ?hp_l14 (fun _ hk => hk) trivial HBw1.out HBw1.out.size (by simp) ?_; (case hd_l14 => rfl); (case hg_l14 => rfl); (case hr_l14 => first | (go_simp; done) | (go_simp; rfl)); (case hp_l14 => exact (Reps.none _ _)); intro va wa hva hba _ _; have HVa := Aside0.mk hva; have HBa := Aside0.mk hba; clear hva hba)
    | ((with_reducible refine gate_dst (N := 16) rfl ?_); refine Kd.R_append_row (Value.int .u8) (0 : Int) (w0 := w) w.heap.size ?hg_a16 (.tmp 14) (.tmp 15) 22 5 (.int .u8 0) 1 ?ho_a16 Tryd.underlying22 info5 rfl (by decide) (va) ([]) (L0) (A0) (L0.length) (c0) (fun _ => True) ?hs_a16 ?hx_a16 (fun _ _ => trivial) (HVa.out) ((Kd.C_below HC0.out HBa.out)) (HBa.out) (HBa.out).size ?hl_a16 ?_; (case hg_a16 => rfl); (case ho_a16 => rfl); (case hs_a16 => rfl); (case hx_a16 => rfl); (case hl_a16 => simp; have h_ := HLE0.out; omega); intro vb wb' hvb hbb _ _; rw [List.nil_append] at hvb; have HVb := Aside0.mk hvb; have HBb := Aside0.mk hbb; clear hvb hbb)
    | ((with_reducible refine gate_dst (N := 21) rfl ?_); refine wpl_zeros w _ ?hgd_z (.tmp 17) (.tmp 20) ?ho_z vb L0 I ?hs_z ?hx_z HVb.out HBb.out ?hl_z ?_; (case hgd_z => rfl); (case ho_z => rfl); (case hs_z => rfl); (case hx_z => rfl); (case hl_z => have h_ := HLE0.out; have h1_ := HI.out; omega); intro vc wc_ hvc hbc; rw [← HL1.out] at hvc; obtain ⟨Am, cm, rfl, hcm, hCm⟩ := Kd.R_reads hvc; have HCm := Aside0.mk hCm; have HLm := Aside0.mk hcm; have HBc := Aside0.mk hbc; clear hvc hbc hcm hCm)
    | fail)
  clear HVa HVb HBa HBb HBw1
  obtain ⟨wo, hwo⟩ : ∃ W_ : World, W_ = wc_ := ⟨_, rfl⟩
  subst hwo
  obtain ⟨S, hS⟩ : ∃ S, S = strOfNums L1 := ⟨_, rfl⟩
  obtain ⟨O, hO⟩ : ∃ O, O = strOuts (DW L1) := ⟨_, rfl⟩
  have HSR := Aside0.mk (show Xa.transeptref03_Sum.f 30000 S = some O by rw [hS, hO]; exact Ref.sum_ref L1 HN1.out.2 (by have h_ := HN1.out; omega) 30000 (Nat.le_refl _))
  have HTX := Aside0.mk (show ∀ W : World, Calls Tryd.prog 10 #[.agg (dv (DW L1))] W fun e w' => e = .returned (.string O) ∧ Below W.heap.size W w' by rw [hO]; exact text_calls (DW L1))
  have HCV := Aside0.mk (show ∀ W : World, Below wo.heap.size wo W → (convert 22 9 (.slice Am L1.length cm)).run Tryd.prog W = .ok (.string S) W by
    rw [hS]; intro W hB; exact Kd.C_string Tryd.underlying22 Tryd.underlying5 Tryd.underlying9 (Kd.C_below HCm.out hB))
  clear hS hO
  have hcv := HCV.out wo (Below.refl _ _)
  go_wp2_with (fail)
  refine (digest_calls Am cm L1 _ (HG.out.below HBc.out) HCm.out HLm.out HN1.out.2 (by have h_ := HN1.out; omega)).mono ?_
  rintro e wz ⟨rfl, hb⟩
  have HB2 := Aside0.mk hb
  clear hb hcv
  go_wp2_with (fail)
  refine (HTX.out _).mono ?_
  rintro e wz ⟨rfl, hb⟩
  have HB3 := Aside0.mk (below_step HB2.out hb)
  clear hb HB2
  go_wp2_with (fail)
  refine (Xa.transeptref03_Sum.calls 30000 S O _ HSR.out).mono ?_
  rintro e wz ⟨rfl, hb⟩
  have HB4 := Aside0.mk (below_step HB3.out hb)
  clear hb HB3
  have hcv := HCV.out _ HB4.out
  go_wp2_with (fail)
  go_ret
  exact ⟨rfl, below_step HBc.out HB4.out⟩
end Go.Proofs.YtanafhccflmdkaaDoor.Ext
