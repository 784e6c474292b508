/- Bodies are the log that the document says, and begin where they begin. No condition. -/
import Derived.Test.YtojagnoobaleaaaDoorXpW
namespace Go.Proofs.YtojagnoobaleaaaDoor.Pure
open Go.RowKit Go.Proofs.YtojagnoobaleaaaDoor.Xp Go.Proofs.YtojagnoobaleaaaDoor.Ext Go.Proofs.YtojagnoobaleaaaDoorW.PrintWords Go.Proofs.YtojagnoobaleaaaDoorW.PrintLast Go.Proofs.YtojagnoobaleaaaDoorW.PrintMore
theorem cut_mid (x p y : List Int) : ((x ++ (p ++ y)).take (x.length + p.length)).drop x.length = p := by
  rw [← List.append_assoc, List.take_left' (by simp), List.drop_left]
/-- Where a body stands in its log. -/
theorem at_parts {a : List (List Int)} {i : Nat} (h : i < a.length) : ∃ pre post, logE a = pre ++ (a[i] ++ (four a[i] ++ post)) ∧ pre.length = atF a i := by
  refine ⟨logE (a.take i) ++ put a[i].length, manyE frE (a.drop (i + 1)), ?_, ?_⟩
  · conv => lhs; rw [← List.take_append_drop i a, List.drop_eq_getElem_cons h]
    simp only [logE, manyE_append, manyE_cons, frE, List.append_assoc]
  · unfold atF plen; rw [List.length_append, rd_get2 h]
theorem rd_str {a : List (List Int)} {i : Nat} (h : i < a.length) : rdOf ByteArray.empty (a.map strOfNums) (i : Int) = strOfNums a[i] := by
  unfold rdOf
  rw [Int.toNat_natCast, List.getD_eq_getElem?_getD, List.getElem?_map, List.getElem?_eq_getElem h]; rfl
set_option maxHeartbeats 1000000 in
theorem writes_l0 (a : List (List Int)) (a1 : Int) (hV : ∀ b ∈ a, bodyV b) (h3 : ∀ b ∈ a, b.length ≤ 300) (hn : a.length ≤ 50) (hlen : (logE a).length ≤ 20000) : ∀ (d k i : Nat), i + d = a.length → 210000 + 2 * d < k → transeptlaw04_FrameWrites.l0 k a1 true a (a.map strOfNums) (strOfNums (logE a)) i = some true
  | 0, k, i, hi, hk => by
    obtain ⟨k, rfl⟩ : ∃ m, k = m + 1 := ⟨k - 1, by omega⟩
    rw [transeptlaw04_FrameWrites.l0, if_neg (by omega), if_pos rfl]
    by_cases h0 : a1 ≥ 0
    · rw [if_pos h0]
      by_cases h1 : a1 < (a.length : Int)
      · rw [if_pos h1]
      · rw [if_neg h1, at_f_no (.inr (by omega)), bind_s]; rfl
    · rw [if_neg h0, at_f_no (.inl (by omega)), bind_s]; rfl
  | d + 1, k, i, hi, hk => by
    obtain ⟨k, rfl⟩ : ∃ m, k = m + 2 := ⟨k - 2, by omega⟩
    have h : i < a.length := by omega
    obtain ⟨pre, post, hL, hp⟩ := at_parts h
    have h3i := h3 _ (List.getElem_mem h)
    have hVi := hV _ (List.getElem_mem h)
    have hLl : (logE a).length = pre.length + (a[i].length + (4 + post.length)) := by rw [hL]; simp only [List.length_append, four_len]
    have hA4 : 4 ≤ atF a i := by unfold atF; have := logE_len (a.take i); omega
    have c1 : ((logE a).take (atF a i + a[i].length)).drop (atF a i) = a[i] := by rw [hL, ← hp]; exact cut_mid _ _ _
    have c2 : ((logE a).take (atF a i + a[i].length + 4)).drop (atF a i + a[i].length) = four a[i] := by
      have e : logE a = (pre ++ a[i]) ++ (four a[i] ++ post) := by rw [hL, List.append_assoc]
      rw [e, ← hp, show pre.length + a[i].length = (pre ++ a[i]).length by rw [List.length_append], show (pre ++ a[i]).length + 4 = (pre ++ a[i]).length + (four a[i]).length by rw [four_len]]
      exact cut_mid _ _ _
    have hat : Aside0 (i = 0 → (4 : Int) + (frE a[i]).length - a[i].length - 4 = atF a i) := .mk fun e => by
      subst e
      have e4 : (logE (a.take 0)).length = 4 := rfl
      unfold atF; rw [rd_get2 h, frE_len, e4]; omega
    have hfl : (frE a[i]).length ≤ 1000 := by rw [frE_len]; have := plen_le a[i] (by omega); omega
    have hF := at_f h (by omega) (fun b hb => by have := h3 b hb; omega)
    have h4f := ref_four a[i] hVi.2 (by omega) (k + 1) (by omega)
    have hfr := ref_frame a[i] hVi.2 (by omega) k (by omega)
    have hj := ref_join [] (fun b hb => by simp at hb) (by simp) k (by omega)
    have hnext := writes_l0 a a1 hV h3 hn hlen d k (i + 1) (by omega) (by omega)
    have rdi := rd_str h
    have s1 := strOf_size a[i]
    have s2 := strOf_size (logE a)
    have s3 := strOf_size (frE a[i])
    have s4 : (strOfNums (logE [])).size = 4 := rfl
    have q1 := strOf_cut (logE a) (atF a i) (atF a i + a[i].length)
    have q2 := strOf_cut (logE a) (atF a i + a[i].length) (atF a i + a[i].length + 4)
    rw [c1] at q1
    rw [c2] at q2
    have hbl : (a.map strOfNums).length = a.length := List.length_map ..
    rw [hp] at hLl
    rw [List.map_nil] at hj
    clear c1 c2 hL hp hVi
    generalize strOfNums (logE []) = T0 at *
    generalize strOfNums (frE a[i]) = TF at *
    generalize (frE a[i]).length = fl at *
    generalize strOfNums (logE a) = TL at *
    generalize (logE a).length = N at *
    generalize a.map strOfNums = ab at *
    generalize atF a i = A at *
    generalize strOfNums (four a[i]) = T4 at *
    generalize strOfNums a[i] = Ta at *
    generalize a[i].length = m at *
    have w1 : Aside0 (wrap64 ((A : Int) + (m : Int)) = ((A + m : Nat) : Int)) := .mk (by rw [w64 _ (by omega) (by omega)]; omega)
    have w2 : Aside0 (wrap64 (((A + m : Nat) : Int) + 4) = ((A + m + 4 : Nat) : Int)) := .mk (by rw [w64 _ (by omega) (by omega)]; omega)
    have wi : Aside0 (wrap64 ((i : Int) + 1) = ((i + 1 : Nat) : Int)) := .mk (by rw [w64 _ (by omega) (by omega)]; omega)
    rw [transeptlaw04_FrameWrites.l0, if_pos (by omega), hF, bind_s, if_neg (by omega), if_pos (by omega), if_pos (by omega), rdi, s1, s2, w1.out, w2.out, if_neg (by omega), if_pos (by omega), if_pos (by omega), if_pos (by omega), Int.toNat_natCast, Int.toNat_natCast, Int.toNat_natCast, q1, q2, if_pos rfl, if_pos (by omega), if_pos (by omega), if_pos (by omega),
      h4f, bind_s, transeptlaw04_FrameWrites.j2, if_neg (by simp), wi.out]
    by_cases hi0 : i = 0
    · have hat := hat.out hi0
      rw [if_pos (by omega), hj, bind_s, if_pos (by omega)]
      subst hi0
      rw [show ((0 : Nat) : Int) = 0 from rfl] at rdi
      rw [rdi, hfr, bind_s, s1, s3, s4]
      rw [w64 (((4 : Nat) : Int) + (fl : Int)) (by omega) (by omega), w64 (((4 : Nat) : Int) + (fl : Int) - (m : Int)) (by omega) (by omega), w64 _ (by omega) (by omega), if_pos (by omega)]
      exact hnext
    · rw [if_neg (by omega)]
      exact hnext
theorem FrameWrites (l0 : List (List Int)) (a1 : Int) (h0 : ∀ b ∈ l0, Bytes b) : ∃ k, transeptlaw04_FrameWrites.f k l0 a1 = some true := by
  refine ⟨220000 + 1, ?_⟩
  unfold transeptlaw04_FrameWrites.f transeptlaw04_shown.f
  have hf := few_f l0 (220000 + 1) (by omega)
  obtain ⟨hj, hlen⟩ := few_join h0
  obtain ⟨hn, h3⟩ := few_len l0
  have hV := few_V h0
  have hB := few_bytes h0
  rw [bind_s, hf, bind_s]
  generalize fewF l0 = a at *
  rw [join_f hB (by omega), bind_s, hj, ref_join a hV (by omega) _ (by omega), bind_s]
  dsimp only
  rw [if_pos rfl, if_pos rfl, same_f _ _ _ (by omega) (by omega), bind_s, transeptlaw04_FrameWrites.j0, if_neg (by simp)]
  exact writes_l0 a a1 hV h3 hn hlen a.length _ 0 (by omega) (by omega)
theorem FrameWrites_walk (a0 : Option Addr) (len0 cap0 : Nat) (a1 : Int) (w : World) (hG : Glob w) (w0 : ∃ l : List (List Int), l.length = len0 ∧ len0 ≤ cap0 ∧ (∀ b ∈ l, Bytes b) ∧ Kd.C KdB w a0 l.length l) (_w1 : (Lit.int .i64 a1).wf = true) :
    Calls Tryd.prog 4 #[.slice a0 len0 cap0, .int .i64 a1] w fun e w' => e = .returned (.bool true) ∧ Below w.heap.size w w' := by
  obtain ⟨l0, rfl, hc0, hb0, hr0⟩ := w0
  obtain ⟨k, h⟩ := FrameWrites l0 a1 hb0
  refine (transeptlaw04_FrameWrites.calls k _ _ l0 a1 true w hG hr0 hc0 rfl h).mono ?_
  rintro e w' ⟨rfl, hd⟩
  exact ⟨rfl, hd⟩
end Go.Proofs.YtojagnoobaleaaaDoor.Pure
