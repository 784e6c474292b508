/- A byte of a log turned over is found. No condition. -/
import Derived.Laws.BitsAllLaws
import Derived.Laws.BitsLemmas
import Derived.Test.YtojagnoobaleaaaDoorXpT
namespace Go.Proofs.YtojagnoobaleaaaDoor.Pure
open Go.RowKit Go.Proofs.YtojagnoobaleaaaDoor.Xp Go.Proofs.YtojagnoobaleaaaDoor.Ext Go.Proofs.YtojagnoobaleaaaDoorW.PrintWords Go.Proofs.YtojagnoobaleaaaDoorW.PrintLast Go.Proofs.YtojagnoobaleaaaDoorW.PrintMore
theorem and24_nonneg' (a : Int) : 0 ≤ Go.bits .and .i64 a 16777215 := by
  simp only [bits]
  have h : ((BitVec.ofInt IntKind.i64.bits a &&& BitVec.ofInt IntKind.i64.bits 16777215).toNat) ≤ 16777215 := by
    rw [BitVec.toNat_and]
    exact Nat.le_trans Nat.and_le_right (by decide +kernel)
  generalize (BitVec.ofInt IntKind.i64.bits a &&& BitVec.ofInt IntKind.i64.bits 16777215).toNat = n at *
  rw [IntKind.wrap_i64]; omega
theorem xor_facts (x y : Int) (hx : 0 ≤ x ∧ x < 256) (hy : 0 ≤ y ∧ y < 256) : (0 ≤ Go.bits .xor .u8 x y ∧ Go.bits .xor .u8 x y < 256) ∧ (Go.bits .xor .u8 x y = x ↔ y = 0) := by
  obtain ⟨A, rfl⟩ := Int.eq_ofNat_of_zero_le hx.1
  obtain ⟨B, rfl⟩ := Int.eq_ofNat_of_zero_le hy.1
  have e := u8_xor_nat A B (by omega) (by omega)
  have hlt : A ^^^ B < 2 ^ 8 := Nat.xor_lt_two_pow (by omega) (by omega)
  rw [show (Go.bits .xor .u8 (A : Int) (B : Int)) = _ from e]
  refine ⟨⟨by omega, by omega⟩, fun h => ?_, fun h => ?_⟩
  · have h1 : A ^^^ B = A := by omega
    have h2 : A ^^^ (A ^^^ B) = A ^^^ A := by rw [h1]
    rw [← Nat.xor_assoc, Nat.xor_self, Nat.zero_xor] at h2
    omega
  · have h1 : B = 0 := by omega
    rw [h1, Nat.xor_zero]
theorem turned_split {a : List (List Int)} {m : Nat} {t : Int} (hV : ∀ b ∈ a, bodyV b) (hn : a.length ≤ 50) (_hlen : (logE a).length ≤ 20000) (hm : m < (logE a).length) (ht : 0 ≤ t ∧ t < 256) :
    ∃ y, y = (logE a).set m (Go.bits .xor .u8 (rd (logE a) (m : Int)) t) ∧ Bytes y ∧ y.length = (logE a).length ∧ ((logF y).2.2 = 0 → (logF y).1.length ≤ 4096 ∧ (((logF y).1.map strOfNums = a.map strOfNums) ↔ t = 0)) ∧ (t = 0 → (logF y).2.2 = 0) := by
  have hB := logE_bytes hV
  have hrd : rd (logE a) (m : Int) = (logE a)[m] := by unfold rd; rw [Int.toNat_natCast, List.getD_eq_getElem?_getD, List.getElem?_eq_getElem hm]; rfl
  have hx : 0 ≤ (logE a)[m] ∧ (logE a)[m] < 256 := hB _ (List.getElem_mem hm)
  obtain ⟨x1, x2⟩ := xor_facts (logE a)[m] t hx ht
  rw [hrd]
  have hy0 : t = 0 → (logE a).set m (Go.bits .xor .u8 (logE a)[m] t) = logE a := fun h => by rw [x2.2 h, List.set_getElem_self]
  have hyB : Bytes ((logE a).set m (Go.bits .xor .u8 (logE a)[m] t)) := fun z hz => by
    rcases List.mem_or_eq_of_mem_set hz with h | h
    · exact hB z h
    · rw [h]; exact x1
  refine ⟨_, rfl, hyB, by rw [List.length_set], fun he => ?_, fun h => ?_⟩
  · obtain ⟨s1, s2, s3, s4⟩ := log_sound hyB he
    refine ⟨s2, fun h => ?_, fun h => ?_⟩
    · have h2 := strs_inj (fun x hx => (s1 x hx).2) (fun x hx => (hV x hx).2) h
      rw [h2] at s3
      have h3 : ((logE a).set m (Go.bits .xor .u8 (logE a)[m] t))[m]? = (logE a)[m]? := by rw [s3]
      rw [List.getElem?_set_self hm, List.getElem?_eq_getElem hm] at h3
      exact x2.1 (Option.some.inj h3)
    · rw [hy0 h, log_full hV (by omega)]
  · rw [hy0 h, log_full hV (by omega)]
theorem FrameTurned (l0 : List (List Int)) (a1 a2 : Int) (h0 : ∀ b ∈ l0, Bytes b) (ht : 0 ≤ a2 ∧ a2 < 256) : ∃ k, transeptlaw04_FrameTurned.f k l0 a1 a2 = some true := by
  refine ⟨6000 + 1, ?_⟩
  unfold transeptlaw04_FrameTurned.f transeptlaw04_shown.f
  have hf := few_f l0 (6000 + 1) (by omega)
  obtain ⟨hj, hlen⟩ := few_join h0
  obtain ⟨hn, _⟩ := few_len l0
  have hV := few_V h0
  have hB := few_bytes h0
  rw [bind_s, hf, bind_s]
  generalize fewF l0 = a at *
  rw [join_f hB (by omega), bind_s, hj]
  dsimp only
  have h4 := logE_len a
  have hb := and24_nonneg' a1
  rw [if_pos rfl, transeptlaw04_FrameTurned.j0]
  generalize Go.bits .and .i64 a1 16777215 = x at *
  have hm0 := Int.tmod_nonneg ((logE a).length : Int) hb
  have hm1 := Int.tmod_lt_of_pos x (show (0 : Int) < (logE a).length by omega)
  generalize Int.tmod x ((logE a).length) = m at *
  obtain ⟨n, rfl⟩ : ∃ n : Nat, m = n := ⟨m.toNat, by omega⟩
  obtain ⟨y, hy, hyB, hyl, hy1, hy2⟩ := turned_split (m := n) hV hn hlen (by omega) ht
  rw [if_neg (by rw [decide_eq_true_eq]; omega), if_neg (by omega), if_pos hm0, if_pos hm1, Int.toNat_natCast, ← hy, split_f hyB (by omega), bind_s, split_small (by omega), if_pos rfl]
  by_cases he : (logF y).2.2 = 0
  · obtain ⟨s2, s3⟩ := hy1 he
    rw [if_pos he, same_f _ _ _ (by omega) (by omega), bind_s]
    by_cases h2 : a2 = 0
    · rw [decide_eq_true (s3.2 h2), h2]; rfl
    · rw [decide_eq_false (fun h => h2 (s3.1 h)), show (a2 == 0) = false by simpa using h2]; rfl
  · rw [if_neg he, show (a2 == 0) = false by simpa using (fun h => he (hy2 h))]; rfl
theorem FrameTurned_walk (a0 : Option Addr) (len0 cap0 : Nat) (a1 a2 : Int) (w : World) (hG : Glob w) (w0 : ∃ l : List (List Int), l.length = len0 ∧ len0 ≤ cap0 ∧ (∀ b ∈ l, Bytes b) ∧ Kd.C KdB w a0 l.length l) (_w1 : (Lit.int .i64 a1).wf = true) (w2 : (Lit.int .u8 a2).wf = true) :
    Calls Tryd.prog 11 #[.slice a0 len0 cap0, .int .i64 a1, .int .u8 a2] w fun e w' => e = .returned (.bool true) ∧ Below w.heap.size w w' := by
  obtain ⟨l0, rfl, hc0, hb0, hr0⟩ := w0
  obtain ⟨k, h⟩ := FrameTurned l0 a1 a2 hb0 (u8_bounds w2)
  refine (transeptlaw04_FrameTurned.calls k _ _ l0 a1 a2 true w hG hr0 hc0 rfl h).mono ?_
  rintro e w' ⟨rfl, hd⟩
  exact ⟨rfl, hd⟩
end Go.Proofs.YtojagnoobaleaaaDoor.Pure
