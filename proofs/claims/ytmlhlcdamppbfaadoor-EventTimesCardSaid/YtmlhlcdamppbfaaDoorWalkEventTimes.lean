/- The law EventTimes: what its walk asks, out of the plain words on events. No condition. -/
import Derived.Test.YtmlhlcdamppbfaaDoorHwT
namespace Go.Proofs.YtmlhlcdamppbfaaDoor.Xa
open Go.RowKit Go.Proofs.YtmlhlcdamppbfaaDoor.Ext Go.Proofs.YtmlhlcdamppbfaaDoor.Pure Go.Proofs.YtmlhlcdamppbfaaDoorW.PrintWords Go.Proofs.YtmlhlcdamppbfaaDoorW.PrintLast Go.Proofs.YtmlhlcdamppbfaaDoorW.PrintMore
set_option linter.unusedVariables false
set_option linter.unusedSimpArgs false
theorem mn_nat' (a : Nat) (n : Nat) : (if (n : Int) < (a : Int) then (n : Int) else (a : Int)) = ((min a n : Nat) : Int) := by split <;> omega
theorem dec_full' (n : Ev) (h : evV n) : event_Decode.f (evE n) = some (n.1, n.2.1, n.2.2.1, n.2.2.2.1, n.2.2.2.2.1, n.2.2.2.2.2.1, n.2.2.2.2.2.2.1, n.2.2.2.2.2.2.2.1, n.2.2.2.2.2.2.2.2.1, n.2.2.2.2.2.2.2.2.2, ((evE n).length : Int), 0) := by
  have hl := evE_len h
  rw [decode_f (evE_bytes h) (by omega), dec_enc n h]; rfl
theorem enc_full (n : Ev) (h : evV n) : event_Encode.f n.1 n.2.1 n.2.2.1 n.2.2.2.1 n.2.2.2.2.1 n.2.2.2.2.2.1 n.2.2.2.2.2.2.1 n.2.2.2.2.2.2.2.1 n.2.2.2.2.2.2.2.2.1 n.2.2.2.2.2.2.2.2.2 = some (evE n, 0) := by
  rw [encode_f n (evV_u64s h), (right_iff n (evV_u64s h)).2 h]; rfl
theorem right_full (n : Ev) (h : evV n) : event_Right.f n.1 n.2.1 n.2.2.1 n.2.2.2.1 n.2.2.2.2.1 n.2.2.2.2.2.1 n.2.2.2.2.2.2.1 n.2.2.2.2.2.2.2.1 n.2.2.2.2.2.2.2.2.1 n.2.2.2.2.2.2.2.2.2 = some true := by
  rw [right_f n, (right_iff n (evV_u64s h)).2 h]
theorem times_ok1 (a1 ID X : Int) (s t : ByteArray) (h10 : 0 ≤ a1) (h11 : a1 < 18446744073709551616) (hi0 : 1 ≤ ID) (hi1 : ID < 18446744073709551616) (hs : (s.size : Int) ≤ 4096) (ht : (t.size : Int) ≤ 4096) : evV (1, a1, 0, s, E0, E0, E0, 0, 0, 0) := by
  have k0 : T0 1 = 1 := by decide +kernel
  have n0 : TN 1 0 = 0 := by decide +kernel
  have n1 : TN 1 1 = 0 := by decide +kernel
  have n2 : TN 1 2 = 0 := by decide +kernel
  refine ⟨⟨by simp, by simp⟩, ⟨h10, h11⟩, ⟨by simp, by simp, by simp⟩, ?_⟩
  simp [txtsV, oV, numsV, k0, n0, n1, n2, hs, ht] <;> omega
theorem times_ok2 (a1 ID X : Int) (s t : ByteArray) (h10 : 0 ≤ a1) (h11 : a1 < 18446744073709551616) (hi0 : 1 ≤ ID) (hi1 : ID < 18446744073709551616) (hs : (s.size : Int) ≤ 4096) (ht : (t.size : Int) ≤ 4096) : evV (2, a1, 0, s, E0, E0, E0, 0, 0, 0) := by
  have k0 : T0 2 = 1 := by decide +kernel
  have n0 : TN 2 0 = 0 := by decide +kernel
  have n1 : TN 2 1 = 0 := by decide +kernel
  have n2 : TN 2 2 = 0 := by decide +kernel
  refine ⟨⟨by simp, by simp⟩, ⟨h10, h11⟩, ⟨by simp, by simp, by simp⟩, ?_⟩
  simp [txtsV, oV, numsV, k0, n0, n1, n2, hs, ht] <;> omega
theorem times_ok3 (a1 ID X : Int) (s t : ByteArray) (h10 : 0 ≤ a1) (h11 : a1 < 18446744073709551616) (hi0 : 1 ≤ ID) (hi1 : ID < 18446744073709551616) (hs : (s.size : Int) ≤ 4096) (ht : (t.size : Int) ≤ 4096) : evV (3, a1, ID, s, t, t, s, 3, 2, 1) := by
  have k0 : T0 3 = 4 := by decide +kernel
  have n0 : TN 3 0 = 4 := by decide +kernel
  have n1 : TN 3 1 = 3 := by decide +kernel
  have n2 : TN 3 2 = 3 := by decide +kernel
  refine ⟨⟨by simp, by simp⟩, ⟨h10, h11⟩, ⟨by simp; omega, by simp; omega, by simp; omega⟩, ?_⟩
  simp [txtsV, oV, numsV, k0, n0, n1, n2, hs, ht] <;> omega
theorem times_ok4 (a1 ID X : Int) (s t : ByteArray) (h10 : 0 ≤ a1) (h11 : a1 < 18446744073709551616) (hi0 : 1 ≤ ID) (hi1 : ID < 18446744073709551616) (hs : (s.size : Int) ≤ 4096) (ht : (t.size : Int) ≤ 4096) : evV (4, a1, ID, s, t, E0, E0, 0, 0, 0) := by
  have k0 : T0 4 = 2 := by decide +kernel
  have n0 : TN 4 0 = 0 := by decide +kernel
  have n1 : TN 4 1 = 0 := by decide +kernel
  have n2 : TN 4 2 = 0 := by decide +kernel
  refine ⟨⟨by simp, by simp⟩, ⟨h10, h11⟩, ⟨by simp; omega, by simp; omega, by simp; omega⟩, ?_⟩
  simp [txtsV, oV, numsV, k0, n0, n1, n2, hs, ht] <;> omega
theorem times_ok5 (a1 ID X : Int) (s t : ByteArray) (h10 : 0 ≤ a1) (h11 : a1 < 18446744073709551616) (hi0 : 1 ≤ ID) (hi1 : ID < 18446744073709551616) (hs : (s.size : Int) ≤ 4096) (ht : (t.size : Int) ≤ 4096) : evV (5, a1, ID, E0, E0, E0, E0, 0, 0, 0) := by
  have k0 : T0 5 = 0 := by decide +kernel
  have n0 : TN 5 0 = 0 := by decide +kernel
  have n1 : TN 5 1 = 0 := by decide +kernel
  have n2 : TN 5 2 = 0 := by decide +kernel
  refine ⟨⟨by simp, by simp⟩, ⟨h10, h11⟩, ⟨by simp; omega, by simp; omega, by simp; omega⟩, ?_⟩
  simp [txtsV, oV, numsV, k0, n0, n1, n2, hs, ht] <;> omega
theorem times_ok6 (a1 ID X : Int) (s t : ByteArray) (h10 : 0 ≤ a1) (h11 : a1 < 18446744073709551616) (hi0 : 1 ≤ ID) (hi1 : ID < 18446744073709551616) (hs : (s.size : Int) ≤ 4096) (ht : (t.size : Int) ≤ 4096) : evV (6, a1, ID, s, t, E0, E0, 0, 0, 0) := by
  have k0 : T0 6 = 2 := by decide +kernel
  have n0 : TN 6 0 = 0 := by decide +kernel
  have n1 : TN 6 1 = 0 := by decide +kernel
  have n2 : TN 6 2 = 0 := by decide +kernel
  refine ⟨⟨by simp, by simp⟩, ⟨h10, h11⟩, ⟨by simp; omega, by simp; omega, by simp; omega⟩, ?_⟩
  simp [txtsV, oV, numsV, k0, n0, n1, n2, hs, ht] <;> omega
theorem times_ok7 (a1 ID X : Int) (s t : ByteArray) (h10 : 0 ≤ a1) (h11 : a1 < 18446744073709551616) (hi0 : 1 ≤ ID) (hi1 : ID < 18446744073709551616) (hs : (s.size : Int) ≤ 4096) (ht : (t.size : Int) ≤ 4096) (hX0 : 0 ≤ X) (hX1 : X < 1000) : evV (7, a1, ID, E0, E0, E0, E0, X, 0, 0) := by
  have k0 : T0 7 = 0 := by decide +kernel
  have n0 : TN 7 0 = 1000 := by decide +kernel
  have n1 : TN 7 1 = 0 := by decide +kernel
  have n2 : TN 7 2 = 0 := by decide +kernel
  refine ⟨⟨by simp, by simp⟩, ⟨h10, h11⟩, ⟨by simp; omega, by simp; omega, by simp; omega⟩, ?_⟩
  simp [txtsV, oV, numsV, k0, n0, n1, n2, hs, ht, hX0, hX1] <;> omega
theorem times_ok8 (a1 ID X : Int) (s t : ByteArray) (h10 : 0 ≤ a1) (h11 : a1 < 18446744073709551616) (hi0 : 1 ≤ ID) (hi1 : ID < 18446744073709551616) (hs : (s.size : Int) ≤ 4096) (ht : (t.size : Int) ≤ 4096) : evV (8, a1, ID, E0, E0, E0, E0, 0, 0, 0) := by
  have k0 : T0 8 = 0 := by decide +kernel
  have n0 : TN 8 0 = 0 := by decide +kernel
  have n1 : TN 8 1 = 0 := by decide +kernel
  have n2 : TN 8 2 = 0 := by decide +kernel
  refine ⟨⟨by simp, by simp⟩, ⟨h10, h11⟩, ⟨by simp; omega, by simp; omega, by simp; omega⟩, ?_⟩
  simp [txtsV, oV, numsV, k0, n0, n1, n2, hs, ht] <;> omega
theorem times_ok9 (a1 ID X : Int) (s t : ByteArray) (h10 : 0 ≤ a1) (h11 : a1 < 18446744073709551616) (hi0 : 1 ≤ ID) (hi1 : ID < 18446744073709551616) (hs : (s.size : Int) ≤ 4096) (ht : (t.size : Int) ≤ 4096) : evV (9, a1, ID, s, t, E0, E0, 0, 0, 0) := by
  have k0 : T0 9 = 2 := by decide +kernel
  have n0 : TN 9 0 = 0 := by decide +kernel
  have n1 : TN 9 1 = 0 := by decide +kernel
  have n2 : TN 9 2 = 0 := by decide +kernel
  refine ⟨⟨by simp, by simp⟩, ⟨h10, h11⟩, ⟨by simp; omega, by simp; omega, by simp; omega⟩, ?_⟩
  simp [txtsV, oV, numsV, k0, n0, n1, n2, hs, ht] <;> omega
theorem times_ok10 (a1 ID X : Int) (s t : ByteArray) (h10 : 0 ≤ a1) (h11 : a1 < 18446744073709551616) (hi0 : 1 ≤ ID) (hi1 : ID < 18446744073709551616) (hs : (s.size : Int) ≤ 4096) (ht : (t.size : Int) ≤ 4096) (hX0 : 0 ≤ X) (hX1 : X < 1000) : evV (10, a1, ID, E0, E0, E0, E0, X, 0, 0) := by
  have k0 : T0 10 = 0 := by decide +kernel
  have n0 : TN 10 0 = 1000 := by decide +kernel
  have n1 : TN 10 1 = 0 := by decide +kernel
  have n2 : TN 10 2 = 0 := by decide +kernel
  refine ⟨⟨by simp, by simp⟩, ⟨h10, h11⟩, ⟨by simp; omega, by simp; omega, by simp; omega⟩, ?_⟩
  simp [txtsV, oV, numsV, k0, n0, n1, n2, hs, ht, hX0, hX1] <;> omega
theorem times_ok11 (a1 ID X : Int) (s t : ByteArray) (h10 : 0 ≤ a1) (h11 : a1 < 18446744073709551616) (hi0 : 1 ≤ ID) (hi1 : ID < 18446744073709551616) (hs : (s.size : Int) ≤ 4096) (ht : (t.size : Int) ≤ 4096) : evV (11, a1, ID, s, E0, E0, E0, 0, 0, 0) := by
  have k0 : T0 11 = 1 := by decide +kernel
  have n0 : TN 11 0 = 0 := by decide +kernel
  have n1 : TN 11 1 = 0 := by decide +kernel
  have n2 : TN 11 2 = 0 := by decide +kernel
  refine ⟨⟨by simp, by simp⟩, ⟨h10, h11⟩, ⟨by simp; omega, by simp; omega, by simp; omega⟩, ?_⟩
  simp [txtsV, oV, numsV, k0, n0, n1, n2, hs, ht] <;> omega
theorem times_ok12 (a1 ID X : Int) (s t : ByteArray) (h10 : 0 ≤ a1) (h11 : a1 < 18446744073709551616) (hi0 : 1 ≤ ID) (hi1 : ID < 18446744073709551616) (hs : (s.size : Int) ≤ 4096) (ht : (t.size : Int) ≤ 4096) : evV (12, a1, ID, s, E0, E0, E0, 0, 0, 0) := by
  have k0 : T0 12 = 1 := by decide +kernel
  have n0 : TN 12 0 = 0 := by decide +kernel
  have n1 : TN 12 1 = 0 := by decide +kernel
  have n2 : TN 12 2 = 0 := by decide +kernel
  refine ⟨⟨by simp, by simp⟩, ⟨h10, h11⟩, ⟨by simp; omega, by simp; omega, by simp; omega⟩, ?_⟩
  simp [txtsV, oV, numsV, k0, n0, n1, n2, hs, ht] <;> omega
theorem times_ok13 (a1 ID X : Int) (s t : ByteArray) (h10 : 0 ≤ a1) (h11 : a1 < 18446744073709551616) (hi0 : 1 ≤ ID) (hi1 : ID < 18446744073709551616) (hs : (s.size : Int) ≤ 4096) (ht : (t.size : Int) ≤ 4096) : evV (13, a1, ID, E0, E0, E0, E0, 0, 0, 0) := by
  have k0 : T0 13 = 0 := by decide +kernel
  have n0 : TN 13 0 = 0 := by decide +kernel
  have n1 : TN 13 1 = 0 := by decide +kernel
  have n2 : TN 13 2 = 0 := by decide +kernel
  refine ⟨⟨by simp, by simp⟩, ⟨h10, h11⟩, ⟨by simp; omega, by simp; omega, by simp; omega⟩, ?_⟩
  simp [txtsV, oV, numsV, k0, n0, n1, n2, hs, ht] <;> omega
theorem times_ok14 (a1 ID X : Int) (s t : ByteArray) (h10 : 0 ≤ a1) (h11 : a1 < 18446744073709551616) (hi0 : 1 ≤ ID) (hi1 : ID < 18446744073709551616) (hs : (s.size : Int) ≤ 4096) (ht : (t.size : Int) ≤ 4096) (hX0 : 0 ≤ X) (hX1 : X < 4) : evV (14, a1, ID, E0, E0, E0, E0, X, 0, 0) := by
  have k0 : T0 14 = 0 := by decide +kernel
  have n0 : TN 14 0 = 4 := by decide +kernel
  have n1 : TN 14 1 = 0 := by decide +kernel
  have n2 : TN 14 2 = 0 := by decide +kernel
  refine ⟨⟨by simp, by simp⟩, ⟨h10, h11⟩, ⟨by simp; omega, by simp; omega, by simp; omega⟩, ?_⟩
  simp [txtsV, oV, numsV, k0, n0, n1, n2, hs, ht, hX0, hX1] <;> omega
def transeptlaw05_EventTimes.Pure : Prop := True
theorem transeptlaw05_EventTimes.walk (P : transeptlaw05_EventTimes.Pure) (a0 a1 a2 : Int) (a3 a4 : ByteArray) (w : World) (hG : Glob w) (w0 : (Lit.int .i64 a0).wf = true) (w1 : (Lit.int .u64 a1).wf = true) (w2 : (Lit.int .u64 a2).wf = true) (w3 : a3.size ≤ 140737488351232) (w4 : a4.size ≤ 140737488351232) :
    Calls Tryd.prog 10 #[.int .i64 a0, .int .u64 a1, .int .u64 a2, .string a3, .string a4] w fun e w' => e = .returned (.bool true) ∧ Below w.heap.size w w' := by
  obtain ⟨h10, h11⟩ := u64_bounds w1
  obtain ⟨h20, h21⟩ := u64_bounds w2
  have hI0 := (and_range a0 65535 (by decide) (by decide)).1
  have hm3 := mn_nat' a3.size 4000
  have hm4 := mn_nat' a4.size 4000
  have l3 : min a3.size 4000 ≤ a3.size := Nat.min_le_left _ _
  have l4 : min a4.size 4000 ≤ a4.size := Nat.min_le_left _ _
  have hs : (((a3.extract 0 (min a3.size 4000)).size : Nat) : Int) ≤ 4096 := by rw [ByteArray.size_extract]; omega
  have ht : (((a4.extract 0 (min a4.size 4000)).size : Nat) : Int) ≤ 4096 := by rw [ByteArray.size_extract]; omega
  generalize hss : a3.extract 0 (min a3.size 4000) = s at *
  generalize htt : a4.extract 0 (min a4.size 4000) = t at *
  generalize min a3.size 4000 = n3 at *
  generalize min a4.size 4000 = n4 at *
  obtain ⟨ID, hmax⟩ : ∃ x : Int, (if a2 < 1 then 1 else a2) = x := ⟨_, rfl⟩
  have hi0 : 1 ≤ ID := by rw [← hmax]; split <;> omega
  have hi1 : ID < 18446744073709551616 := by rw [← hmax]; split <;> omega
  obtain ⟨I, hI⟩ : ∃ x : Int, bits .and .i64 a0 65535 = x := ⟨_, rfl⟩
  have hI1 : 0 ≤ I := by rw [← hI]; exact hI0
  have hX0 : 0 ≤ a2 % 1000 := by omega
  have hX1 : a2 % 1000 < 1000 := by omega
  have hY : 0 ≤ bits .and .u64 a2 3 ∧ bits .and .u64 a2 3 < 4 := by
    simp only [bits]
    have h : ((BitVec.ofInt IntKind.u64.bits a2 &&& BitVec.ofInt IntKind.u64.bits 3).toNat) ≤ 3 := by
      rw [BitVec.toNat_and]
      exact Nat.le_trans Nat.and_le_right (by decide +kernel)
    generalize (BitVec.ofInt IntKind.u64.bits a2 &&& BitVec.ofInt IntKind.u64.bits 3).toNat = n at h ⊢
    rw [u64w _ (by omega) (by omega)]; omega
  have hY2 : wrap64 (bits .and .u64 a2 3) = bits .and .u64 a2 3 := w64 _ (by omega) (by omega)
  have hJ : I % 14 = 0 ∨ I % 14 = 1 ∨ I % 14 = 2 ∨ I % 14 = 3 ∨ I % 14 = 4 ∨ I % 14 = 5 ∨ I % 14 = 6 ∨ I % 14 = 7 ∨ I % 14 = 8 ∨ I % 14 = 9 ∨ I % 14 = 10 ∨ I % 14 = 11 ∨ I % 14 = 12 ∨ I % 14 = 13 := by omega
  rcases hJ with hJ | hJ | hJ | hJ | hJ | hJ | hJ | hJ | hJ | hJ | hJ | hJ | hJ | hJ
  · have v := times_ok1 a1 ID 0 s t h10 h11 hi0 hi1 hs ht
    exact times_walk1 a0 a1 a2 a3 a4 s t n3 n4 I ID 0 _ hI hI1 hJ hm3 l3 hss w3 hm4 l4 htt w4 hmax h20 h21 (enc_full _ v) (dec_full' _ v) (right_full _ v) w hG
  · have v := times_ok2 a1 ID 0 s t h10 h11 hi0 hi1 hs ht
    exact times_walk2 a0 a1 a2 a3 a4 s t n3 n4 I ID 0 _ hI hI1 hJ hm3 l3 hss w3 hm4 l4 htt w4 hmax h20 h21 (enc_full _ v) (dec_full' _ v) (right_full _ v) w hG
  · have v := times_ok3 a1 ID 0 s t h10 h11 hi0 hi1 hs ht
    exact times_walk3 a0 a1 a2 a3 a4 s t n3 n4 I ID 0 _ hI hI1 hJ hm3 l3 hss w3 hm4 l4 htt w4 hmax h20 h21 (enc_full _ v) (dec_full' _ v) (right_full _ v) w hG
  · have v := times_ok4 a1 ID 0 s t h10 h11 hi0 hi1 hs ht
    exact times_walk4 a0 a1 a2 a3 a4 s t n3 n4 I ID 0 _ hI hI1 hJ hm3 l3 hss w3 hm4 l4 htt w4 hmax h20 h21 (enc_full _ v) (dec_full' _ v) (right_full _ v) w hG
  · have v := times_ok5 a1 ID 0 s t h10 h11 hi0 hi1 hs ht
    exact times_walk5 a0 a1 a2 a3 a4 s t n3 n4 I ID 0 _ hI hI1 hJ hm3 l3 hss w3 hm4 l4 htt w4 hmax h20 h21 (enc_full _ v) (dec_full' _ v) (right_full _ v) w hG
  · have v := times_ok6 a1 ID 0 s t h10 h11 hi0 hi1 hs ht
    exact times_walk6 a0 a1 a2 a3 a4 s t n3 n4 I ID 0 _ hI hI1 hJ hm3 l3 hss w3 hm4 l4 htt w4 hmax h20 h21 (enc_full _ v) (dec_full' _ v) (right_full _ v) w hG
  · have v := times_ok7 a1 ID (a2 % 1000) s t h10 h11 hi0 hi1 hs ht hX0 hX1
    exact times_walk7 a0 a1 a2 a3 a4 s t n3 n4 I ID (a2 % 1000) _ hI hI1 hJ hm3 l3 hss w3 hm4 l4 htt w4 hmax h20 h21 rfl (enc_full _ v) (dec_full' _ v) (right_full _ v) w hG
  · have v := times_ok8 a1 ID 0 s t h10 h11 hi0 hi1 hs ht
    exact times_walk8 a0 a1 a2 a3 a4 s t n3 n4 I ID 0 _ hI hI1 hJ hm3 l3 hss w3 hm4 l4 htt w4 hmax h20 h21 (enc_full _ v) (dec_full' _ v) (right_full _ v) w hG
  · have v := times_ok9 a1 ID 0 s t h10 h11 hi0 hi1 hs ht
    exact times_walk9 a0 a1 a2 a3 a4 s t n3 n4 I ID 0 _ hI hI1 hJ hm3 l3 hss w3 hm4 l4 htt w4 hmax h20 h21 (enc_full _ v) (dec_full' _ v) (right_full _ v) w hG
  · have v := times_ok10 a1 ID (a2 % 1000) s t h10 h11 hi0 hi1 hs ht hX0 hX1
    exact times_walk10 a0 a1 a2 a3 a4 s t n3 n4 I ID (a2 % 1000) _ hI hI1 hJ hm3 l3 hss w3 hm4 l4 htt w4 hmax h20 h21 rfl (enc_full _ v) (dec_full' _ v) (right_full _ v) w hG
  · have v := times_ok11 a1 ID 0 s t h10 h11 hi0 hi1 hs ht
    exact times_walk11 a0 a1 a2 a3 a4 s t n3 n4 I ID 0 _ hI hI1 hJ hm3 l3 hss w3 hm4 l4 htt w4 hmax h20 h21 (enc_full _ v) (dec_full' _ v) (right_full _ v) w hG
  · have v := times_ok12 a1 ID 0 s t h10 h11 hi0 hi1 hs ht
    exact times_walk12 a0 a1 a2 a3 a4 s t n3 n4 I ID 0 _ hI hI1 hJ hm3 l3 hss w3 hm4 l4 htt w4 hmax h20 h21 (enc_full _ v) (dec_full' _ v) (right_full _ v) w hG
  · have v := times_ok13 a1 ID 0 s t h10 h11 hi0 hi1 hs ht
    exact times_walk13 a0 a1 a2 a3 a4 s t n3 n4 I ID 0 _ hI hI1 hJ hm3 l3 hss w3 hm4 l4 htt w4 hmax h20 h21 (enc_full _ v) (dec_full' _ v) (right_full _ v) w hG
  · have v := times_ok14 a1 ID (bits .and .u64 a2 3) s t h10 h11 hi0 hi1 hs ht hY.1 hY.2
    exact times_walk14 a0 a1 a2 a3 a4 s t n3 n4 I ID (bits .and .u64 a2 3) _ hI hI1 hJ hm3 l3 hss w3 hm4 l4 htt w4 hmax h20 h21 hY2 (enc_full _ v) (dec_full' _ v) (right_full _ v) w hG
end Go.Proofs.YtmlhlcdamppbfaaDoor.Xa
