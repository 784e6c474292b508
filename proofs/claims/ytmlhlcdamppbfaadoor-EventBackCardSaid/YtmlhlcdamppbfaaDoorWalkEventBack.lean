/- The law EventBack: what its walk asks, out of the plain words on events. No condition. -/
import Derived.Test.YtmlhlcdamppbfaaDoorHwB
namespace Go.Proofs.YtmlhlcdamppbfaaDoor.Xa
open Go.RowKit Go.Proofs.YtmlhlcdamppbfaaDoor.Ext Go.Proofs.YtmlhlcdamppbfaaDoor.Pure Go.Proofs.YtmlhlcdamppbfaaDoorW.PrintWords Go.Proofs.YtmlhlcdamppbfaaDoorW.PrintLast Go.Proofs.YtmlhlcdamppbfaaDoorW.PrintMore
set_option linter.unusedVariables false
theorem mn_nat (a : Nat) (n : Nat) : (if (n : Int) < (a : Int) then (n : Int) else (a : Int)) = ((min a n : Nat) : Int) := by split <;> omega
theorem dec_full (n : Ev) (h : evV n) : event_Decode.f (evE n) = some (n.1, n.2.1, n.2.2.1, n.2.2.2.1, n.2.2.2.2.1, n.2.2.2.2.2.1, n.2.2.2.2.2.2.1, n.2.2.2.2.2.2.2.1, n.2.2.2.2.2.2.2.2.1, n.2.2.2.2.2.2.2.2.2, ((evE n).length : Int), 0) := by
  have hl := evE_len h
  rw [decode_f (evE_bytes h) (by omega), dec_enc n h]; rfl
def transeptlaw05_EventBack.Pure : Prop := True
theorem transeptlaw05_EventBack.walk (P : transeptlaw05_EventBack.Pure) (a0 a1 a2 : Int) (a3 a4 a5 a6 : ByteArray) (a7 a8 a9 : Int) (hu : u64s (a0, a1, a2, a3, a4, a5, a6, a7, a8, a9)) (b1 : Option Addr) (len1 cap1 : Nat) (z1 : List Int) (w : World) (hG : Glob w)
    (w1 : (b1 = none ∧ len1 = 0 ∧ cap1 = 0 ∧ z1 = []) ∨ ∃ x, b1 = some x ∧ len1 ≤ cap1 ∧ cap1 ≤ maxLen ∧ z1.length = cap1 ∧ (∀ i, i < z1.length → w.cell? (x.add i) = some (.int .u8 (z1.getD i 0))) ∧ ∀ n ∈ z1, (Lit.int .u8 n).wf = true) (y1 : len1 * 1 ≤ 140737488351232) :
    Calls Tryd.prog 5 #[.agg #[.int .i64 a0, .int .u64 a1, .int .u64 a2, .string a3, .string a4, .string a5, .string a6, .int .i64 a7, .int .i64 a8, .int .i64 a9], .slice b1 len1 cap1] w fun e w' => e = .returned (.bool true) ∧ Below w.heap.size w w' := by
  obtain ⟨l, rfl, hr, hm, hw, hcl⟩ := ReadsInt.ofRowC w1
  have hC := Kd.C_of_reads (d := (0 : Int)) (h1 := fun _ => rfl) hr
  have hM : min l.length 6000 ≤ l.length := Nat.min_le_left _ _
  have hCB := cut_C hC (min l.length 6000) hM
  have hbb := (bytes_wf hw).take (min l.length 6000)
  have hbl : (l.take (min l.length 6000)).length = min l.length 6000 := by rw [List.length_take]; omega
  have hmin := mn_nat l.length 6000
  have h6 : min l.length 6000 ≤ 6000 := Nat.min_le_right _ _
  generalize min l.length 6000 = M at *
  generalize l.take M = b at *
  have hc : u64s (cutE (a0, a1, a2, a3, a4, a5, a6, a7, a8, a9)) := hu
  have hdb := decode_f hbb (by omega)
  have hcut := cut_calls a0 a1 a2 a3 a4 a5 a6 a7 a8 a9
  have henc := encode_f _ hc
  have hat := dec_at b hbb
  by_cases hd : (decF b).2.2 = 0
  · obtain ⟨hv, hbe, hlen⟩ := dec_ok b hbb hd
    have hrt := dec_evV b hbb hd
    have hE2 := right_f (decF b).1
    have hE1 := encode_f (decF b).1 (evV_u64s hv)
    rw [hrt, ← hbe] at hE1
    rw [hrt] at hE2
    have hD2 : event_Decode.f b = some ((decF b).1.1, (decF b).1.2.1, (decF b).1.2.2.1, (decF b).1.2.2.2.1, (decF b).1.2.2.2.2.1, (decF b).1.2.2.2.2.2.1, (decF b).1.2.2.2.2.2.2.1, (decF b).1.2.2.2.2.2.2.2.1, (decF b).1.2.2.2.2.2.2.2.2.1, (decF b).1.2.2.2.2.2.2.2.2.2, (M : Int), 0) := by
      rw [hdb, ← hbl, ← hlen, ← hd]; rfl
    cases hr0 : right (cutE (a0, a1, a2, a3, a4, a5, a6, a7, a8, a9)) with
    | false =>
      rw [hr0] at henc
      exact back_walk01 a0 a1 a2 a3 a4 a5 a6 a7 a8 a9 (cutS a3) (cutS a4) (cutS a5) (cutS a6) [] b1 cap1 M l b 0 0 _ _ _ _ _ _ _ _ _ _ hcut henc hmin hM hcl hbl w hCB hG hD2 hE1 hE2
    | true =>
      have hvx := (right_iff _ hc).1 hr0
      rw [hr0] at henc
      exact back_walk11 a0 a1 a2 a3 a4 a5 a6 a7 a8 a9 (cutS a3) (cutS a4) (cutS a5) (cutS a6) _ b1 cap1 M l b 0 0 _ _ _ _ _ _ _ _ _ _ hcut henc (dec_full _ hvx) hmin hM hcl hbl w hCB hG hD2 hE1 hE2
  · have hz := dec_bad b hd
    have hD2 : event_Decode.f b = some (0, 0, 0, E0, E0, E0, E0, 0, 0, 0, (decF b).2.1, (decF b).2.2) := by
      rw [hdb]; unfold flat; rw [hz]; rfl
    have he : ¬ (decF b).2.2 = 0 ∧ 0 ≤ (decF b).2.1 ∧ (decF b).2.1 ≤ (M : Int) := ⟨hd, hat.1, by rw [← hbl]; exact hat.2⟩
    cases hr0 : right (cutE (a0, a1, a2, a3, a4, a5, a6, a7, a8, a9)) with
    | false =>
      rw [hr0] at henc
      exact back_walk00 a0 a1 a2 a3 a4 a5 a6 a7 a8 a9 (cutS a3) (cutS a4) (cutS a5) (cutS a6) [] b1 cap1 M l b _ _ hcut henc hmin hM hcl hbl w hCB hG hD2 he
    | true =>
      have hvx := (right_iff _ hc).1 hr0
      rw [hr0] at henc
      exact back_walk10 a0 a1 a2 a3 a4 a5 a6 a7 a8 a9 (cutS a3) (cutS a4) (cutS a5) (cutS a6) _ b1 cap1 M l b _ _ hcut henc (dec_full _ hvx) hmin hM hcl hbl w hCB hG hD2 he
end Go.Proofs.YtmlhlcdamppbfaaDoor.Xa
