/- What is joined is split, and what is split, joined, is the log. No condition. -/
import Derived.Test.YtojagnoobaleaaaDoorXpB
namespace Go.Proofs.YtojagnoobaleaaaDoor.Pure
open Go.RowKit Go.Proofs.YtojagnoobaleaaaDoor.Xp Go.Proofs.YtojagnoobaleaaaDoor.Ext Go.Proofs.YtojagnoobaleaaaDoorW.PrintWords Go.Proofs.YtojagnoobaleaaaDoorW.PrintLast Go.Proofs.YtojagnoobaleaaaDoorW.PrintMore
theorem FrameBack (l0 : List (List Int)) (l1 : List Int) (h0 : ∀ b ∈ l0, Bytes b) (h1 : Bytes l1) : ∃ k, transeptlaw04_FrameBack.f k l0 l1 = some true := by
  refine ⟨1000 + 1, ?_⟩
  unfold transeptlaw04_FrameBack.f transeptlaw04_shown.f
  have hf := few_f l0 (1000 + 1) (by omega)
  obtain ⟨hj, hlen⟩ := few_join h0
  obtain ⟨hn, _⟩ := few_len l0
  have hV := few_V h0
  have hB := few_bytes h0
  rw [bind_s, hf, bind_s]
  generalize fewF l0 = a at *
  rw [join_f hB (by omega), bind_s, hj]
  dsimp only
  rw [split_f (logE_bytes hV) (by omega), bind_s, split_small (by omega), log_full hV (by omega), if_pos rfl, if_pos rfl, if_pos rfl, same_f _ _ _ (by show a.length + 1 < 1000 + 1; omega) (by show a.length ≤ 140737488355328; omega), bind_s]
  simp only [decide_true, Bool.not_true, transeptlaw04_FrameBack.j0]
  obtain ⟨k1, k2, k3⟩ := mn_le (l1.length : Int) 3000
  have hk : 0 ≤ mn (l1.length : Int) 3000 := by omega
  generalize mn (l1.length : Int) 3000 = n at *
  have hl : (l1.take n.toNat).length = n.toNat := by rw [List.length_take]; omega
  have hbb := h1.take n.toNat
  generalize l1.take n.toNat = b at *
  rw [if_neg (by decide), if_pos hk, if_pos k1, split_f hbb (by omega), bind_s, split_small (by omega)]
  by_cases h : (logF b).2.2 = 0
  · obtain ⟨s1, s2, s3, s4⟩ := log_sound hbb h
    have hj2 : joinF (logF b).1 = (b, 0) := by rw [join_ok s1 s2 (by rw [← s3]; omega), ← s3]
    rw [if_pos h, join_f (fun x hx => (s1 x hx).2) (by omega), bind_s, hj2]
    simp
  · rw [if_neg h]
theorem FrameBack_walk (a0 : Option Addr) (len0 cap0 : Nat) (a1 : Option Addr) (len1 cap1 : Nat) (z1 : List Int) (w : World) (hG : Glob w) (w0 : ∃ l : List (List Int), l.length = len0 ∧ len0 ≤ cap0 ∧ (∀ b ∈ l, Bytes b) ∧ Kd.C KdB w a0 l.length l) (w1 : (a1 = none ∧ len1 = 0 ∧ cap1 = 0 ∧ z1 = []) ∨ ∃ x, a1 = some x ∧ len1 ≤ cap1 ∧ cap1 ≤ maxLen ∧ z1.length = cap1 ∧ (∀ i, i < z1.length → w.cell? (x.add i) = some (.int .u8 (z1.getD i 0))) ∧ ∀ n ∈ z1, (Lit.int .u8 n).wf = true) (y1 : len1 * 1 ≤ 140737488351232) :
    Calls Tryd.prog 5 #[.slice a0 len0 cap0, .slice a1 len1 cap1] w fun e w' => e = .returned (.bool true) ∧ Below w.heap.size w w' := by
  obtain ⟨l0, rfl, hc0, hb0, hr0⟩ := w0
  obtain ⟨l1, rfl, hr1, hm1, hw1, hc1⟩ := ReadsInt.ofRowC w1
  obtain ⟨k, h⟩ := FrameBack l0 l1 hb0 (bytes_wf hw1)
  refine (transeptlaw04_FrameBack.calls k _ _ l0 _ _ l1 true w hG hr0 hc0 (Kd.C_of_reads (d := (0 : Int)) (h1 := fun _ => rfl) hr1) hc1 rfl h).mono ?_
  rintro e w' ⟨rfl, hd⟩
  exact ⟨rfl, hd⟩
end Go.Proofs.YtojagnoobaleaaaDoor.Pure
