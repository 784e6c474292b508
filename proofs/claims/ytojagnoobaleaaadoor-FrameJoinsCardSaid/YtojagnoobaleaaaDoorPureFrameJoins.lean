/- Two logs joined are the log of both's bodies. No condition. -/
import Derived.Test.YtojagnoobaleaaaDoorXpJ
namespace Go.Proofs.YtojagnoobaleaaaDoor.Pure
open Go.RowKit Go.Proofs.YtojagnoobaleaaaDoor.Xp Go.Proofs.YtojagnoobaleaaaDoor.Ext Go.Proofs.YtojagnoobaleaaaDoorW.PrintWords Go.Proofs.YtojagnoobaleaaaDoorW.PrintLast Go.Proofs.YtojagnoobaleaaaDoorW.PrintMore
theorem logE_app (a c : List (List Int)) : logE a ++ (logE c).drop 4 = logE (a ++ c) := by simp [logE, manyE, magic]
theorem FrameJoins (l0 l1 : List (List Int)) (h0 : ∀ b ∈ l0, Bytes b) (h1 : ∀ b ∈ l1, Bytes b) : ∃ k, transeptlaw04_FrameJoins.f k l0 l1 = some true := by
  refine ⟨1000 + 1, ?_⟩
  unfold transeptlaw04_FrameJoins.f transeptlaw04_shown.f
  have hf := few_f l0 (1000 + 1) (by omega)
  have hf1 := few_f l1 (1000 + 1) (by omega)
  obtain ⟨hj, hlen⟩ := few_join h0
  obtain ⟨hj1, hlen1⟩ := few_join h1
  obtain ⟨hn, _⟩ := few_len l0
  obtain ⟨hn1, _⟩ := few_len l1
  have hV := few_V h0
  have hV1 := few_V h1
  have hB := few_bytes h0
  have hB1 := few_bytes h1
  rw [bind_s, hf, bind_s, hf1, bind_s]
  generalize fewF l0 = a at *
  generalize fewF l1 = c at *
  rw [join_f hB (by omega), bind_s, join_f hB1 (by omega), bind_s, hj, hj1]
  dsimp only
  have h4 := logE_len c
  have h4a := logE_len a
  have hV2 : ∀ b ∈ a ++ c, bodyV b := fun b hb => (List.mem_append.1 hb).elim (hV b) (hV1 b)
  have hs := logE_app a c
  have hl : (logE (a ++ c)).length = (logE a).length + (logE c).length - 4 := by
    rw [← hs, List.length_append, List.length_drop]; omega
  rw [if_pos rfl, if_pos rfl, transeptlaw04_FrameJoins.j0, if_neg (by simp; omega), bind_s, if_pos (by rw [List.length_nil]; omega), bind_s, List.nil_append, if_pos (by omega), bind_s, if_pos (by rw [List.length_drop]; omega), hs,
    split_f (logE_bytes hV2) (by omega), bind_s, split_small (by omega), log_full hV2 (by rw [List.length_append]; omega)]
  dsimp only
  rw [if_pos rfl, if_pos rfl, w64 ((logE a).length + (logE c).length) (by omega) (by omega), w64 _ (by omega) (by omega), if_pos (by omega), List.length_map, List.length_map, w64 _ (by omega) (by omega), if_pos (by rw [List.length_append]; omega), if_pos (by omega),
    if_pos (by rw [List.length_append]; omega), Int.toNat_natCast, List.take_left, List.drop_left, same_f _ _ _ (by omega) (by omega), bind_s, same_f _ _ _ (by omega) (by omega), bind_s]
  simp
theorem FrameJoins_walk (a0 : Option Addr) (len0 cap0 : Nat) (a1 : Option Addr) (len1 cap1 : Nat) (w : World) (hG : Glob w) (w0 : ∃ l : List (List Int), l.length = len0 ∧ len0 ≤ cap0 ∧ (∀ b ∈ l, Bytes b) ∧ Kd.C KdB w a0 l.length l) (w1 : ∃ l : List (List Int), l.length = len1 ∧ len1 ≤ cap1 ∧ (∀ b ∈ l, Bytes b) ∧ Kd.C KdB w a1 l.length l) :
    Calls Tryd.prog 10 #[.slice a0 len0 cap0, .slice a1 len1 cap1] w fun e w' => e = .returned (.bool true) ∧ Below w.heap.size w w' := by
  obtain ⟨l0, rfl, hc0, hb0, hr0⟩ := w0
  obtain ⟨l1, rfl, hc1, hb1, hr1⟩ := w1
  obtain ⟨k, h⟩ := FrameJoins l0 l1 hb0 hb1
  refine (transeptlaw04_FrameJoins.calls k _ _ l0 _ _ l1 true w hG hr0 hc0 hr1 hc1 rfl h).mono ?_
  rintro e w' ⟨rfl, hd⟩
  exact ⟨rfl, hd⟩
end Go.Proofs.YtojagnoobaleaaaDoor.Pure
