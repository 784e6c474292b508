/- A log is the bodies that the document says, or wrong where it says. No condition. -/
import Derived.Test.YtojagnoobaleaaaDoorXpx14
namespace Go.Proofs.YtojagnoobaleaaaDoor.Pure
open Go.RowKit Go.Proofs.YtojagnoobaleaaaDoor.Xp Go.Proofs.YtojagnoobaleaaaDoor.Ext Go.Proofs.YtojagnoobaleaaaDoorW.PrintWords Go.Proofs.YtojagnoobaleaaaDoorW.PrintLast Go.Proofs.YtojagnoobaleaaaDoorW.PrintMore
theorem reads_l0 (bs : List (List Int)) (a e : Int) (hbs : bs.length ≤ 100000) : ∀ (d k i : Nat) (own : List Int), i + d = own.length → own.length ≤ 100000 → d + bs.length + 5 < k → transeptlaw04_FrameReads.l0 k true own bs a e (bs.map strOfNums) a e true i = some true
  | 0, k, i, own, hi, ho, hk => by
    obtain ⟨k, rfl⟩ : ∃ m, k = m + 1 := ⟨k - 1, by omega⟩
    rw [transeptlaw04_FrameReads.l0, if_neg (by omega), if_pos rfl, same_f bs _ k (by omega) (by omega), bind_s]
    simp
  | d + 1, k, i, own, hi, ho, hk => by
    obtain ⟨k, rfl⟩ : ∃ m, k = m + 1 := ⟨k - 1, by omega⟩
    rw [transeptlaw04_FrameReads.l0, if_pos (by omega), if_pos (by omega), w64 _ (by omega) (by omega), show ((i : Int) + 1) = ((i + 1 : Nat) : Int) by omega]
    exact reads_l0 bs a e hbs d k (i + 1) _ (by rw [List.length_set]; omega) (by rw [List.length_set]; exact ho) (by omega)
theorem log_count (l : List Int) (hl : Bytes l) : (logF l).1.length ≤ 4096 := by
  by_cases h : (fixT magic 3 l).2.2 = 0
  · unfold logF
    rw [if_pos h]
    obtain ⟨xs, r, _, hlen, _, hh⟩ := many_parts one_codec fr_pos 4096 (l.drop 4) (hl.drop 4)
    rcases hh with ⟨_, h3⟩ | ⟨_, _, h4⟩ | ⟨_, _, _, h5⟩
    · rw [h3]; exact hlen
    · rw [h4]; exact hlen
    · rw [h5]; exact hlen
  · rw [log_bad h]; simp
theorem FrameReads : transeptlaw04_FrameReads.Pure := by
  intro l0 hm hn hw
  have hb := bytes_wf hw
  refine ⟨400000, ?_⟩
  unfold transeptlaw04_FrameReads.f transeptlaw04_shown.f
  simp only [bind_s, List.nil_append, List.length_nil]
  obtain ⟨k1, k2, k3⟩ := mn_le (l0.length : Int) 3000
  have hk : 0 ≤ mn (l0.length : Int) 3000 := by omega
  generalize mn (l0.length : Int) 3000 = n at *
  have hlen : (l0.take n.toNat).length = n.toNat := by rw [List.length_take]; omega
  have hbb := hb.take n.toNat
  generalize l0.take n.toNat = b at *
  have hs := split_small (l := b) (by omega)
  have hc := log_count b hbb
  rw [if_pos hk, if_pos k1, if_pos (by omega), split_f hbb (by omega), bind_s, ref_Split b hbb (by omega) _ (by omega), bind_s, hs]
  simp only [BEq.rfl]
  exact reads_l0 _ _ _ (by omega) b.length _ 0 b (by omega) (by omega) (by omega)
end Go.Proofs.YtojagnoobaleaaaDoor.Pure
