/- A log cut off is a log cut off, unless it ends there. No condition. -/
import Derived.Laws.BitsLemmas
import Derived.Test.YtojagnoobaleaaaDoorXpC
namespace Go.Proofs.YtojagnoobaleaaaDoor.Pure
open Go.RowKit Go.Proofs.YtojagnoobaleaaaDoor.Xp Go.Proofs.YtojagnoobaleaaaDoor.Ext Go.Proofs.YtojagnoobaleaaaDoorW.PrintWords Go.Proofs.YtojagnoobaleaaaDoorW.PrintLast Go.Proofs.YtojagnoobaleaaaDoorW.PrintMore
theorem and24_nonneg (a : Int) : 0 ≤ Go.bits .and .i64 a 16777215 := by
  simp only [bits]
  have h : ((BitVec.ofInt IntKind.i64.bits a &&& BitVec.ofInt IntKind.i64.bits 16777215).toNat) ≤ 16777215 := by
    rw [BitVec.toNat_and]
    exact Nat.le_trans Nat.and_le_right (by decide +kernel)
  generalize (BitVec.ofInt IntKind.i64.bits a &&& BitVec.ofInt IntKind.i64.bits 16777215).toNat = n at *
  rw [IntKind.wrap_i64]; omega
theorem FrameCuts (l0 : List (List Int)) (a1 : Int) (h0 : ∀ b ∈ l0, Bytes b) : ∃ k, transeptlaw04_FrameCuts.f k l0 a1 = some true := by
  refine ⟨210001, ?_⟩
  unfold transeptlaw04_FrameCuts.f transeptlaw04_shown.f
  have hf := few_f l0 210001 (by omega)
  obtain ⟨hj, hlen⟩ := few_join h0
  obtain ⟨hn, _⟩ := few_len l0
  have hV := few_V h0
  have hB := few_bytes h0
  rw [bind_s, hf, bind_s]
  generalize fewF l0 = a at *
  rw [join_f hB (by omega), bind_s, hj]
  dsimp only
  have hb := and24_nonneg a1
  generalize Go.bits .and .i64 a1 16777215 = x at *
  rw [w64 _ (by omega) (by omega), if_pos rfl, if_neg (by omega)]
  have hm0 := Int.tmod_nonneg ((logE a).length + 1 : Int) hb
  have hm1 := Int.tmod_lt_of_pos x (show (0 : Int) < (logE a).length + 1 by omega)
  generalize Int.tmod x ((logE a).length + 1) = m at *
  obtain ⟨n, rfl⟩ : ∃ n : Nat, m = n := ⟨m.toNat, by omega⟩
  obtain ⟨j, hj1, hc⟩ := log_cut n hV (by omega) (by omega)
  have ht : ((logE a).take n).length = n := by rw [List.length_take]; omega
  have hbb := (logE_bytes hV).take n
  have hjl : (a.take j).length = j := by rw [List.length_take]; omega
  rw [if_pos hm0, if_pos (by omega), Int.toNat_natCast, split_f hbb (by omega), bind_s, split_small (by omega), hc]
  dsimp only
  rw [if_pos rfl, List.length_map, hjl, if_neg (by omega), if_pos (by omega), if_pos (by omega), Int.toNat_natCast, ← List.map_take, same_f _ _ _ (by omega) (by omega), bind_s,
    ref_join _ (fun b hb => hV b (List.mem_of_mem_take hb)) (by omega) _ (by omega)]
  simp only [decide_true, if_true, bind_s, strOf_size]
  by_cases h : n = (logE (a.take j)).length
  · rw [if_pos h, h]; simp
  · rw [if_neg h]
    have h2 : ¬ (((logE (a.take j)).length : Int) = (n : Int)) := by omega
    have h3 : (((logE (a.take j)).length : Int) == (n : Int)) = false := by simpa using h2
    rw [h3]; simp
theorem FrameCuts_walk (a0 : Option Addr) (len0 cap0 : Nat) (a1 : Int) (w : World) (hG : Glob w) (w0 : ∃ l : List (List Int), l.length = len0 ∧ len0 ≤ cap0 ∧ (∀ b ∈ l, Bytes b) ∧ Kd.C KdB w a0 l.length l) (_w1 : (Lit.int .i64 a1).wf = true) :
    Calls Tryd.prog 6 #[.slice a0 len0 cap0, .int .i64 a1] w fun e w' => e = .returned (.bool true) ∧ Below w.heap.size w w' := by
  obtain ⟨l0, rfl, hc0, hb0, hr0⟩ := w0
  obtain ⟨k, h⟩ := FrameCuts l0 a1 hb0
  refine (transeptlaw04_FrameCuts.calls k _ _ l0 a1 true w hG hr0 hc0 rfl h).mono ?_
  rintro e w' ⟨rfl, hd⟩
  exact ⟨rfl, hd⟩
end Go.Proofs.YtojagnoobaleaaaDoor.Pure
