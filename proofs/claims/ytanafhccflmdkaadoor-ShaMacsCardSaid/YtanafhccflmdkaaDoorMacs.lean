/- The reference's tag is ours (plain law); ShaMacs, by hand. -/
import Derived.Test.YtanafhccflmdkaaDoorXax19
import Derived.Test.YtanafhccflmdkaaDoorRefB
import Derived.Test.YtanafhccflmdkaaDoorKeys
import Derived.Deep.RegionHeld3
namespace Go.Proofs.YtanafhccflmdkaaDoor.Ref
open Go.RowKit Go.Proofs.YtanafhccflmdkaaDoorW.PrintWords Go.Proofs.YtanafhccflmdkaaDoorW.PrintLast Go.Proofs.YtanafhccflmdkaaDoorW.PrintMore
open Go.Proofs.YtanafhccflmdkaaDoor.Xa
open Go.Proofs.YtanafhccflmdkaaDoor.Ext (Bytes outs outs_len digest digest_len xorI padK keyOf64 mac outB)
set_option linter.unusedVariables false
set_option linter.unusedSimpArgs false
theorem xor_comm8 (a c : Int) : Go.bits .xor .u8 c a = xorI a c := by
  unfold xorI
  simp only [bits]
  rw [BitVec.xor_comm]
theorem xor_zero8 (c : Int) (h0 : 0 ≤ c) (h1 : c < 256) : xorI 0 c = c := by
  unfold xorI
  simp only [bits]
  rw [show BitVec.ofInt IntKind.u8.bits 0 = 0#_ from rfl, BitVec.zero_xor, IntKind.wrap_u8]
  obtain ⟨m, rfl⟩ := Int.eq_ofNat_of_zero_le h0
  simp [show IntKind.u8.bits = 8 from rfl]; omega
theorem with_run (key : List Int) (hb : Bytes key) (c : Int) (h0 : 0 ≤ c) (h1 : c < 256) (k : Nat) :
    ∀ m i, i + m = 64 → transeptref03_with.l0 (k + 1 + m) (strOfNums key) c ((padK key c).take i) (i : Int) = some (strOfNums (padK key c))
  | 0, i, h => by
    obtain rfl : i = 64 := by omega
    show transeptref03_with.l0 (k + 1) _ _ _ _ = _
    rw [transeptref03_with.l0, if_neg (by omega), List.take_of_length_le (by unfold padK; simp)]
  | m + 1, i, h => by
    show transeptref03_with.l0 (k + 1 + m + 1) _ _ _ _ = _
    have e8 : wrap64 ((i : Int) + 1) = ((i + 1 : Nat) : Int) := by rw [w64 _ (by omega) (by omega)]; rfl
    have hpl : (padK key c).length = 64 := by unfold padK; simp
    have hg : (padK key c)[i]'(by omega) = xorI (key.getD i 0) c := by unfold padK; simp
    have ht : (padK key c).take (i + 1) = (padK key c).take i ++ [xorI (key.getD i 0) c] := by
      rw [List.take_succ_eq_append_getElem (by omega), hg]
    have hln : ((padK key c).take i).length < 140737488355328 := by rw [List.length_take]; omega
    rw [transeptref03_with.l0, if_pos (by omega), strOf_size, e8]
    by_cases hi : i < key.length
    · rw [if_pos (by omega), if_pos (by omega), if_pos hln, bt_str key hb i hi, xor_comm8,
        show key[i] = key.getD i 0 by rw [List.getD_eq_getElem?_getD, List.getElem?_eq_getElem hi, Option.getD_some], ← ht]
      exact with_run key hb c h0 h1 k m (i + 1) (by omega)
    · have hz : key.getD i 0 = 0 := by rw [List.getD_eq_getElem?_getD, List.getElem?_eq_none (by omega)]; rfl
      rw [if_neg (by omega), if_pos hln]
      have hc : (padK key c).take i ++ [c] = (padK key c).take (i + 1) := by rw [ht, hz, xor_zero8 c h0 h1]
      rw [hc]
      exact with_run key hb c h0 h1 k m (i + 1) (by omega)
theorem with_ref (key : List Int) (hb : Bytes key) (c : Int) (h0 : 0 ≤ c) (h1 : c < 256) (k : Nat) (hk : 65 ≤ k) : transeptref03_with.f k (strOfNums key) c = some (strOfNums (padK key c)) := by
  obtain ⟨k, rfl⟩ : ∃ m, k = m + 1 + 64 := ⟨k - 65, by omega⟩
  exact with_run key hb c h0 h1 k 64 0 rfl
theorem padK_bytes' (k : List Int) (c : Int) : Bytes (padK k c) := by
  intro y hy
  unfold padK xorI at hy
  obtain ⟨i, _, rfl⟩ := List.mem_map.1 hy
  simp only [bits]
  have : (BitVec.ofInt IntKind.u8.bits (k.getD i 0) ^^^ BitVec.ofInt IntKind.u8.bits c).toNat < 256 := BitVec.isLt _
  rw [IntKind.wrap_u8]; omega
theorem digest_bytes (l : List Int) : Bytes (digest l) := by
  intro y hy
  unfold digest outs at hy
  obtain ⟨i, _, rfl⟩ := List.mem_map.1 hy
  unfold outB; omega
theorem padK_len' (k : List Int) (c : Int) : (padK k c).length = 64 := by unfold padK; simp
theorem app_bytes {a b : List Int} (ha : Bytes a) (hb : Bytes b) : Bytes (a ++ b) := fun x hx => (List.mem_append.1 hx).elim (ha x) (hb x)
theorem mac_j0 (key l : List Int) (hk : Bytes key) (hl : Bytes l) (hn : l.length ≤ 1000) (k : Nat) (hK : 30001 ≤ k) :
    transeptref03_Mac.j0 k (strOfNums key) (strOfNums l) = some (strOfNums (digest (padK key 92 ++ digest (padK key 54 ++ l)))) := by
  obtain ⟨k, rfl⟩ : ∃ m, k = m + 1 := ⟨k - 1, by omega⟩
  rw [transeptref03_Mac.j0, with_ref key hk 54 (by decide) (by decide) k (by omega), Option.bind_some, strOf_size, strOf_size, padK_len', if_pos (by omega), ← strOf_append,
    sum_ref _ (app_bytes (padK_bytes' _ _) hl) (by rw [List.length_append, padK_len']; omega) k (by omega), Option.bind_some, with_ref key hk 92 (by decide) (by decide) k (by omega), Option.bind_some, strOf_size, strOf_size, padK_len', digest_len,
    if_pos (by omega), ← strOf_append, sum_ref _ (app_bytes (padK_bytes' _ _) (digest_bytes _)) (by rw [List.length_append, padK_len', digest_len]; omega) k (by omega)]
  rfl
/-- The reference's tag. -/
theorem mac_ref (key l : List Int) (hk : Bytes key) (hkn : key.length ≤ 1000) (hl : Bytes l) (hn : l.length ≤ 1000) (k : Nat) (hK : 30001 ≤ k) : transeptref03_Mac.f k (strOfNums key) (strOfNums l) = some (strOfNums (mac key l)) := by
  unfold transeptref03_Mac.f mac keyOf64
  rw [strOf_size]
  by_cases h : 64 < key.length
  · rw [if_pos (by omega), if_pos h, sum_ref key hk (by omega) k (by omega), Option.bind_some]
    exact mac_j0 (digest key) l (digest_bytes _) hl hn k hK
  · rw [if_neg (by omega), if_neg h]
    exact mac_j0 key l hk hl hn k hK
end Go.Proofs.YtanafhccflmdkaaDoor.Ref
namespace Go.Proofs.YtanafhccflmdkaaDoor.Ext
open Go.RowKit Go.Proofs.YtanafhccflmdkaaDoorW.PrintWords Go.Proofs.YtanafhccflmdkaaDoorW.PrintLast Go.Proofs.YtanafhccflmdkaaDoorW.PrintMore
set_option linter.unusedVariables false
set_option linter.unusedSimpArgs false
attribute [local go_sem] min2_mn max_two min_two
set_option maxHeartbeats 4000000 in
set_option maxRecDepth 100000 in
theorem macs_calls (A0 : Option Addr) (c0 : Nat) (l0 : List Int) (A1 : Option Addr) (c1 : Nat) (l1 : List Int) (w : World) (hG : Glob w)
    (hC0 : Kd.C (Kd.int .u8) w A0 l0.length l0) (hc0 : l0.length ≤ c0) (hb0 : Bytes l0) (hC1 : Kd.C (Kd.int .u8) w A1 l1.length l1) (hc1 : l1.length ≤ c1) (hb1 : Bytes l1) :
    Calls Tryd.prog 4 #[.slice A0 l0.length c0, .slice A1 l1.length c1] w fun e w' => e = .returned (.bool true) ∧ Below w.heap.size w w' := by
  obtain ⟨m0, hm0, hmn0, hcut0⟩ := cut_at A0 l0.length c0 200 200 rfl hc0
  obtain ⟨m1, hm1, hmn1, hcut1⟩ := cut_at A1 l1.length c1 200 200 rfl hc1
  obtain ⟨L0, hL0⟩ : ∃ L, L = l0.take m0 := ⟨_, rfl⟩
  have hLl0 : L0.length = m0 := by rw [hL0, List.length_take]; omega
  have HC0 := Aside0.mk (show Kd.C (Kd.int .u8) w A0 L0.length L0 by rw [hL0]; exact Kd.C_take hC0 (by omega))
  have HB0 := Aside0.mk (show Bytes L0 by rw [hL0]; exact fun x hx => hb0 x (List.mem_of_mem_take hx))
  have HLE0 := Aside0.mk (show L0.length ≤ c0 ∧ L0.length ≤ 200 by omega)
  rw [← hLl0] at hmn0 hcut0
  clear hL0 hLl0 hC0 hb0 hc0 hm0
  obtain ⟨L1, hL1⟩ : ∃ L, L = l1.take m1 := ⟨_, rfl⟩
  have hLl1 : L1.length = m1 := by rw [hL1, List.length_take]; omega
  have HC1 := Aside0.mk (show Kd.C (Kd.int .u8) w A1 L1.length L1 by rw [hL1]; exact Kd.C_take hC1 (by omega))
  have HB1 := Aside0.mk (show Bytes L1 by rw [hL1]; exact fun x hx => hb1 x (List.mem_of_mem_take hx))
  have HLE1 := Aside0.mk (show L1.length ≤ c1 ∧ L1.length ≤ 200 by omega)
  rw [← hLl1] at hmn1 hcut1
  clear hL1 hLl1 hC1 hb1 hc1 hm1
  have HG := Aside0.mk hG
  clear hG
  go_enter Tryd.func4, Tryd.ntmps4
  go_wp2_with (fail)
  refine (shown_calls w HG.out).mono ?_
  rintro e wz ⟨rfl, hb⟩
  have HBw1 := Aside0.mk (hb)
  clear hb
  go_upto_region 5 with (first
    | ((with_reducible refine gate_dst (N := 19) rfl ?_); refine Kd.R_lit (Kd.int .u8) (w0 := w) w.heap.size 5 ?hg_l19 (N := 19) ?hd_l19 (xs := ([] : List Int)) (inner := []) (ok := fun _ => True) (okp := fun _ => True) ?hr_l19 ?hp_l19 (fun _ hk => hk) trivial HBw1.out HBw1.out.size (by simp) ?_; (case hd_l19 => rfl); (case hg_l19 => rfl); (case hr_l19 => first | (go_simp; done) | (go_simp; rfl)); (case hp_l19 => exact (Reps.none _ _)); intro va wa hva hba _ _; have HVa := Aside0.mk hva; have HBa := Aside0.mk hba; clear hva hba)
    | ((with_reducible refine gate_dst (N := 21) rfl ?_); refine Kd.R_append_row (Value.int .u8) (0 : Int) (w0 := w) w.heap.size ?hg_a21 (.tmp 19) (.tmp 20) 22 5 (.int .u8 0) 1 ?ho_a21 Tryd.underlying22 info5 rfl (by decide) (va) ([]) (L0) (A0) (L0.length) (c0) (fun _ => True) ?hs_a21 ?hx_a21 (fun _ _ => trivial) (HVa.out) ((Kd.C_below HC0.out HBa.out)) (HBa.out) (HBa.out).size ?hl_a21 ?_; (case hg_a21 => rfl); (case ho_a21 => rfl); (case hs_a21 => rfl); (case hx_a21 => rfl); (case hl_a21 => simp; have h_ := HLE0.out; omega); intro vb wb' hvb hbb _ _; rw [List.nil_append] at hvb; obtain ⟨Ax, cx, rfl, hcx, hCx⟩ := Kd.R_reads hvb; have HCx := Aside0.mk hCx; have HLx := Aside0.mk hcx; have HBb := Aside0.mk hbb; clear hvb hbb hcx hCx HVa HBa)
    | fail)
  clear HBw1
  obtain ⟨w1, hw1⟩ : ∃ W_ : World, W_ = wb' := ⟨_, rfl⟩
  subst hw1
  have HB1 := Aside0.mk HBb.out
  clear HBb
  go_upto_region 6 with (first
    | ((with_reducible refine gate_dst (N := 22) rfl ?_); refine Kd.R_lit (Kd.int .u8) (w0 := w1) w1.heap.size 5 ?hg_l22 (N := 22) ?hd_l22 (xs := ([] : List Int)) (inner := []) (ok := fun _ => True) (okp := fun _ => True) ?hr_l22 ?hp_l22 (fun _ hk => hk) trivial (Below.refl w1.heap.size w1) (Nat.le_refl _) (by simp) ?_; (case hd_l22 => rfl); (case hg_l22 => rfl); (case hr_l22 => first | (go_simp; done) | (go_simp; rfl)); (case hp_l22 => exact (Reps.none _ _)); intro va wa hva hba _ _; have HVa := Aside0.mk hva; have HBa := Aside0.mk hba; clear hva hba)
    | ((with_reducible refine gate_dst (N := 24) rfl ?_); refine Kd.R_append_row (Value.int .u8) (0 : Int) (w0 := w1) w1.heap.size ?hg_a24 (.tmp 22) (.tmp 23) 22 5 (.int .u8 0) 1 ?ho_a24 Tryd.underlying22 info5 rfl (by decide) (va) ([]) (L1) (A1) (L1.length) (c1) (fun _ => True) ?hs_a24 ?hx_a24 (fun _ _ => trivial) (HVa.out) ((Kd.C_below HC1.out (below_step HB1.out HBa.out))) (HBa.out) (HBa.out).size ?hl_a24 ?_; (case hg_a24 => rfl); (case ho_a24 => rfl); (case hs_a24 => rfl); (case hx_a24 => rfl); (case hl_a24 => simp; have h_ := HLE1.out; omega); intro vb wb' hvb hbb _ _; rw [List.nil_append] at hvb; obtain ⟨Ay, cy, rfl, hcx, hCx⟩ := Kd.R_reads hvb; have HCy := Aside0.mk hCx; have HLy := Aside0.mk hcx; have HBb := Aside0.mk hbb; clear hvb hbb hcx hCx HVa HBa)
    | fail)
  obtain ⟨wo, hwo⟩ : ∃ W_ : World, W_ = wb' := ⟨_, rfl⟩
  subst hwo
  have HCx2 := Aside0.mk (Kd.C_below HCx.out HBb.out)
  have HBo := Aside0.mk (below_step HB1.out HBb.out)
  have HC02 := Aside0.mk (Kd.C_below HC0.out HBo.out)
  have HC12 := Aside0.mk (Kd.C_below HC1.out HBo.out)
  clear HCx HBb HB1
  have HG8 := Aside0.mk (HG.out.below HBo.out)
  obtain ⟨S0, hS0⟩ : ∃ S, S = strOfNums L0 := ⟨_, rfl⟩
  obtain ⟨S1, hS1⟩ : ∃ S, S = strOfNums L1 := ⟨_, rfl⟩
  obtain ⟨Y, hY⟩ : ∃ Y : D8, outs Y = mac L0 L1 := ⟨_, rfl⟩
  obtain ⟨O, hO⟩ : ∃ O, O = strOuts Y := ⟨_, rfl⟩
  have hmr : Xa.transeptref03_Mac.f 30001 S0 S1 = some O := by
    rw [hS0, hS1, hO, Ref.mac_ref L0 L1 HB0.out (by have h_ := HLE0.out; omega) HB1.out (by have h_ := HLE1.out; omega) 30001 (Nat.le_refl _), ← hY]; rfl
  have cv : ∀ (A : Option Addr) (c : Nat) (L : List Int) (S : ByteArray), S = strOfNums L → Kd.C (Kd.int .u8) wo A L.length L → ∀ W : World, Below wo.heap.size wo W → (convert 22 9 (.slice A L.length c)).run Tryd.prog W = .ok (.string S) W := by
    rintro A c L S rfl hC W hB; exact Kd.C_string Tryd.underlying22 Tryd.underlying5 Tryd.underlying9 (Kd.C_below hC hB)
  have cv1 := cv A0 c0 L0 S0 hS0 HC02.out
  have cv2 := cv A1 c1 L1 S1 hS1 HC12.out
  have cv3 := cv Ax cx L0 S0 hS0 HCx2.out
  have cv4 := cv Ay cy L1 S1 hS1 HCy.out
  have hm1 : ∀ W : World, Below wo.heap.size wo W → Calls Tryd.prog 13 #[.slice Ax L0.length cx, .slice Ay L1.length cy] W fun e w' => e = .returned (.agg (dv Y)) ∧ Below wo.heap.size wo w' := fun W hB => (mac_calls Ax cx L0 Ay cy L1 W (HG8.out.below hB) (Kd.C_below HCx2.out hB) HLx.out HB0.out (by have h_ := HLE0.out; omega) (Kd.C_below HCy.out hB) HLy.out HB1.out (by have h_ := HLE1.out; omega)).mono fun e w' ⟨x, h1, h2, h3⟩ => ⟨by rw [h2]; unfold dv; rw [h1, hY], below_step hB h3⟩
  have hm2 : ∀ W : World, Below wo.heap.size wo W → Calls Tryd.prog 10 #[.agg (dv Y)] W fun e w' => e = .returned (.string O) ∧ Below wo.heap.size wo w' := fun W hB => by rw [hO]; exact (text_calls Y W).mono fun e w' h => ⟨h.1, below_step hB h.2⟩
  have hm3 : ∀ W : World, Below wo.heap.size wo W → Calls Tryd.prog 14 #[.string S0, .string S1] W fun e w' => e = .returned (.string O) ∧ Below wo.heap.size wo w' := fun W hB => (Xa.transeptref03_Mac.calls 30001 S0 S1 O W hmr).mono fun e w' h => ⟨h.1, below_step hB h.2⟩
  have HS := Aside0.mk (And.intro hm1 (And.intro hm2 hm3))
  clear hm1 hm2 hm3 hmr hS0 hS1 hO hY cv HC02 HC12 HCx2 HCy HG8
  go_region_held3 (fun W => Below wo.heap.size wo W) (first | assumption | exact pw_below_drewN (Below.refl _ _) 1) (first
    | (go_at_call 13; refine (HS.out.1 _ (by assumption)).mono ?_; rintro e w' ⟨rfl, hb⟩)
    | (go_at_call 10; refine (HS.out.2.1 _ (by assumption)).mono ?_; rintro e w' ⟨rfl, hb⟩)
    | (go_at_call 14; refine (HS.out.2.2 _ (by assumption)).mono ?_; rintro e w' ⟨rfl, hb⟩))
  clear cv1 cv2 cv3 cv4
  go_wp2_with (fail)
  go_ret
  exact ⟨rfl, below_step HBo.out (by assumption)⟩
end Go.Proofs.YtanafhccflmdkaaDoor.Ext
