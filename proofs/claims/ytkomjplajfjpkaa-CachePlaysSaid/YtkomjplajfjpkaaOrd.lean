/- CacheOrder's walk. By hand; written by wip/tools/ord.py. -/
import Derived.Test.YtkomjplajfjpkaaLat
import Derived.Deep.CutBlock
namespace Go.Proofs.Ytkomjplajfjpkaa.Ext
open Go.RowKit Go.Proofs.Ytkomjplajfjpkaa.Hea Go.Proofs.YtkomjplajfjpkaaW.PrintWords Go.Proofs.YtkomjplajfjpkaaW.PrintLast Go.Proofs.YtkomjplajfjpkaaW.PrintMore
open Go.Maps (Keyed)
set_option linter.unusedVariables false
set_option linter.unusedSimpArgs false
/-- What has been put in i rounds. -/
def putsM (K : List ByteArray) (T : List Int) : Nat → Row
  | 0 => []
  | i + 1 => putF (putsM K T i) (ky K i) (tm T i)
theorem putF_len (M : Row) (k : ByteArray) (t : Int) : (putF M k t).length ≤ M.length + 1 := by
  unfold putF; split <;> simp
theorem puts_len (K : List ByteArray) (T : List Int) : ∀ i, (putsM K T i).length ≤ i
  | 0 => Nat.le_refl _
  | i + 1 => by
    have := puts_len K T i
    have := putF_len (putsM K T i) (ky K i) (tm T i)
    unfold putsM
    omega
theorem own_ok {w W : World} {c : Nat} {M : Row} {N : Nat} (h : Own w W c M N) : Nd M ∧ ∀ k t, (k, t) ∈ M → k.size ≤ maxLen ∧ 0 ≤ t ∧ t < 18446744073709551616 := by
  obtain ⟨⟨F, ⟨gm, o, v, l, D, hc⟩, hF⟩, hb⟩ := h
  refine ⟨hc.nd, fun k t hm => ?_⟩
  obtain ⟨i, hi, ek, et⟩ := hc.find hm
  have := hc.ok _ (at_mem hi)
  rw [ek, et] at this
  exact this
theorem own_is_next {w W : World} {c : Nat} {M : Row} {N : Nat} (h : Own w W c M N) : (M = [] ∧ IsNext M ⟨#[]⟩ 0 false) ∨ ∃ k t, (k, t) ∈ M ∧ IsNext M k t true := by
  obtain ⟨⟨F, ⟨gm, o, v, l, D, hc⟩, hF⟩, hb⟩ := h
  by_cases hl : 0 < l.length
  · exact .inr ⟨_, _, hc.mem hl, hc.next hl⟩
  · have : M = [] := by
      have := hc.pm.length_eq
      rw [List.length_map] at this
      exact List.length_eq_zero_iff.1 (by omega)
    exact .inl ⟨this, .inl ⟨this, rfl, rfl, rfl⟩⟩
theorem exp_less {M : Row} {k : ByteArray} {t : Int} (hm : (k, t) ∈ M) : (expF M t).length < M.length := by
  unfold expF
  refine Nat.lt_of_le_of_ne (List.length_filter_le _ _) (fun he => ?_)
  have := List.length_filter_eq_length_iff.1 he _ hm
  simp at this
set_option maxRecDepth 100000 in
set_option maxHeartbeats 8000000 in
theorem Order (A0 : Option Addr) (c0 : Nat) (K : List ByteArray) (A1 : Option Addr) (c1 : Nat) (T : List Int) (w : World) (hC0 : Kd.C Kd.string w A0 K.length K) (hC1 : Kd.C (Kd.int .u64) w A1 T.length T) (hK : ∀ y ∈ K, y.size ≤ maxLen) (hT : ∀ y ∈ T, (Lit.int .u64 y).wf = true) :
    Calls Try.prog 4 #[.slice A0 K.length c0, .slice A1 T.length c1] w fun e w' => e = .returned (.bool true) ∧ Below w.heap.size w w' := by
  obtain ⟨n, hn⟩ : ∃ n : Nat, n = min (min K.length T.length) 200 := ⟨_, rfl⟩
  have hn0 : n ≤ K.length := by omega
  have hn1 : n ≤ T.length := by omega
  have hn2 : n ≤ 200 := by omega
  have HN := Aside0.mk hn
  have HT := Aside0.mk hT
  have HK := Aside0.mk hK
  have HC0 := Aside0.mk hC0
  have HC1 := Aside0.mk hC1
  clear hn hT hK hC0 hC1
  go_enter Try.func4, Try.ntmps4
  go_upto_block 0 with (first
    | (go_at_call 8; refine (shown_calls _).mono ?_; rintro e w1 ⟨rfl, hb⟩; have HB1 := Aside0.mk hb; clear hb)
    | (go_at_call 9; refine (new_calls _).mono ?_; rintro e w2 ⟨c, F, rfl, hc, hF, hb⟩; have H0 := Aside0.mk (Own.new (w := w) hc hF hb HB1.out); clear hc hF hb))
  go_cut [7] from 15 (fun v7 wc => Aside0 (Own w wc c (putsM K T n) 200))
  case first =>
    go_wp2_with (fail)
    go_loopg [7] n (fun gm v7 wr => ∃ k : Nat, v7 = .int .i64 (k : Int) ∧ k + gm = n ∧ Aside0 (Own w wr c (putsM K T k) k))
    case atStart => exact ⟨0, rfl, by omega, H0⟩
    case round =>
      obtain ⟨k, rfl, hk, HR⟩ := hrel
      by_cases hlt : k < n
      · have i0 : (k : Int) < (K.length : Int) := by omega
        have i1 : (k : Int) < (T.length : Int) := by omega
        have i2 : (k : Int) < 200 := by omega
        obtain ⟨ad0, rfl, hx0⟩ := str_row HC0.out (k := k) (by omega)
        obtain ⟨ad1, rfl, hx1⟩ := u64_row HC1.out (k := k) (by omega)
        have hx0 := hx0 _ HR.out.bel
        have hx1 := hx1 _ HR.out.bel
        have htm := tm_ok HT.out k
        have hks := ky_ok HK.out k
        have HP : Aside0 (putsM K T (k + 1) = putF (putsM K T k) (ky K k) (tm T k)) := ⟨rfl⟩
        generalize tm T k = t0 at *
        generalize ky K k = S at *
        go_wp2_with (fail)
        go_region_with (first
          | (go_at_call 16; refine (own_put (HR.out.below (below_drew (Below.refl _ _))) (by omega) hks (by omega) (by omega)).mono ?_; rintro e w4 ⟨rfl, h4⟩; have H4 := Aside0.mk h4; clear h4))
        all_goals
          go_wp2
          go_roundg (gk - 1)
          case measure => omega
          case rel => exact ⟨k + 1, by simp, by omega, ⟨by rw [HP.out]; exact H4.out⟩⟩
      · obtain rfl : k = n := by omega
        have hd : ¬ (k : Int) < (K.length : Int) ∨ ¬ (k : Int) < (T.length : Int) ∨ ¬ (k : Int) < 200 := by have := HN.out; omega
        have HE := Aside0.mk (own_more HR.out hn2)
        by_cases h0 : (k : Int) < (K.length : Int)
        · by_cases h1 : (k : Int) < (T.length : Int)
          · have h2 : ¬ (k : Int) < 200 := by omega
            go_wp2_with (fail)
            go_meet
            case rel => exact HE
          · go_wp2_with (fail)
            go_meet
            case rel => exact HE
        · go_wp2_with (fail)
          go_meet
          case rel => exact HE
  case rest =>
    have HS := hcut
    have HL := Aside0.mk (puts_len K T n)
    go_wp2_with (fail)
    go_loopg [8, 9] (putsM K T n).length (fun gm v8 v9 wr => ∃ (i : Nat) (last : Int) (M : Row), v8 = .int .u64 last ∧ v9 = .int .i64 (i : Int) ∧ M.length = gm ∧ M.length + i ≤ 200 ∧ (0 < i → ∀ p ∈ M, last < p.2) ∧ Aside0 (Own w wr c M 200))
    case atStart => exact ⟨0, 0, _, rfl, rfl, rfl, by have := HL.out; omega, fun h => by omega, HS⟩
    case round =>
      obtain ⟨i, last, M, rfl, rfl, rfl, hMi, hlast, HR⟩ := hrel
      have hi : (i : Int) ≤ 200 := by omega
      have HLA := Aside0.mk hlast
      clear hlast
      rcases own_is_next HR.out with ⟨hM, hnx⟩ | ⟨k, t, hm, hnx⟩
      · subst hM
        have HX := Aside0.mk (own_next HR.out hnx)
        clear hnx
        go_wp2_with (first
          | (go_at_call 11; refine HX.out.mono ?_; rintro e w3 ⟨rfl, h3⟩; have H3 := Aside0.mk h3; clear h3)
          | (go_at_call 13; refine (own_len H3.out).mono ?_; rintro e w4 ⟨rfl, rfl⟩))
        go_ret
        exact ⟨rfl, H3.out.bel⟩
      · have HX := Aside0.mk (own_next HR.out hnx)
        obtain ⟨hnd, hok⟩ := own_ok HR.out
        obtain ⟨hks, ht0, ht1⟩ := hok _ _ hm
        have HKS := Aside0.mk hks
        have g1 : hasF M k (t - 1) = true := by rw [hasF_in hnd hm, decide_eq_true]; omega
        have g2 : hasF M k t = false := by rw [hasF_in hnd hm, decide_eq_false]; omega
        have hle := exp_less hm
        have HLL : Aside0 (0 < i → last < t) := ⟨fun h => HLA.out h _ hm⟩
        have HEX : Aside0 (∀ p ∈ expF M t, t < p.2) := ⟨fun p hp => by have := (List.mem_filter.1 hp).2; simpa using this⟩
        clear hnx hnd hok hks hm
        have hML : M.length ≤ 200 := by omega
        have HP5 : Aside0 (∀ V, Own w V c M 200 → Calls Try.prog 17 #[.pointer (some ⟨c, 0, none⟩), .int .u64 t] V fun e w' => e = .returned (.int .i64 ((M.length - (expF M t).length : Nat) : Int)) ∧ Own w w' c (expF M t) 200) := ⟨fun V h => own_expire h (by omega) t⟩
        generalize expF M t = M2 at *
        obtain ⟨d, hd⟩ : ∃ d : Nat, M.length - M2.length = d := ⟨_, rfl⟩
        have hd1 : ((M.length : Int) - (d : Int)) = (M2.length : Int) := by omega
        have hd2 : ¬ (d : Int) < 1 := by omega
        have HD := Aside0.mk hd
        rw [hd] at HP5
        clear hd
        by_cases hi0 : i = 0
        · subst hi0
          by_cases htz : t = 0
          · subst htz
            go_wp2_with (first
              | (go_at_call 11; refine HX.out.mono ?_; rintro e w3 ⟨rfl, h3⟩; have H3 := Aside0.mk h3; clear h3)
              | (go_at_call 14; refine (own_has H3.out HKS.out _).mono ?_; rintro e w4 ⟨rfl, rfl⟩)
              | (have z_ := H5; clear z_; go_at_call 13; refine (own_len H5.out).mono ?_; rintro e w6 ⟨rfl, rfl⟩)
              | (go_at_call 13; refine (own_len H3.out).mono ?_; rintro e w4 ⟨rfl, rfl⟩)
              | (go_at_call 17; refine (HP5.out _ H3.out).mono ?_; rintro e w5 ⟨rfl, h5⟩; have H5 := Aside0.mk h5; clear h5))
            go_roundg M2.length
            case measure => omega
            case rel => exact ⟨0 + 1, 0, M2, rfl, by simp, rfl, by omega, fun _ => HEX.out, H5⟩
          · have htp : (0 : Int) < t := by omega
            go_wp2_with (first
              | (go_at_call 11; refine HX.out.mono ?_; rintro e w3 ⟨rfl, h3⟩; have H3 := Aside0.mk h3; clear h3)
              | (go_at_call 14; refine (own_has H3.out HKS.out _).mono ?_; rintro e w4 ⟨rfl, rfl⟩)
              | (have z_ := H5; clear z_; go_at_call 13; refine (own_len H5.out).mono ?_; rintro e w6 ⟨rfl, rfl⟩)
              | (go_at_call 13; refine (own_len H3.out).mono ?_; rintro e w4 ⟨rfl, rfl⟩)
              | (go_at_call 17; refine (HP5.out _ H3.out).mono ?_; rintro e w5 ⟨rfl, h5⟩; have H5 := Aside0.mk h5; clear h5))
            go_roundg M2.length
            case measure => omega
            case rel => exact ⟨0 + 1, t, M2, rfl, by simp, rfl, by omega, fun _ => HEX.out, H5⟩
        · have hi1 : (0 : Int) < (i : Int) := by omega
          have hlt := HLL.out (by omega)
          have hlt' : ¬ t ≤ last := by omega
          by_cases htz : t = 0
          · subst htz
            go_wp2_with (first
              | (go_at_call 11; refine HX.out.mono ?_; rintro e w3 ⟨rfl, h3⟩; have H3 := Aside0.mk h3; clear h3)
              | (go_at_call 14; refine (own_has H3.out HKS.out _).mono ?_; rintro e w4 ⟨rfl, rfl⟩)
              | (have z_ := H5; clear z_; go_at_call 13; refine (own_len H5.out).mono ?_; rintro e w6 ⟨rfl, rfl⟩)
              | (go_at_call 13; refine (own_len H3.out).mono ?_; rintro e w4 ⟨rfl, rfl⟩)
              | (go_at_call 17; refine (HP5.out _ H3.out).mono ?_; rintro e w5 ⟨rfl, h5⟩; have H5 := Aside0.mk h5; clear h5))
            go_roundg M2.length
            case measure => omega
            case rel => exact ⟨i + 1, 0, M2, rfl, by simp, rfl, by omega, fun _ => HEX.out, H5⟩
          · have htp : (0 : Int) < t := by omega
            go_wp2_with (first
              | (go_at_call 11; refine HX.out.mono ?_; rintro e w3 ⟨rfl, h3⟩; have H3 := Aside0.mk h3; clear h3)
              | (go_at_call 14; refine (own_has H3.out HKS.out _).mono ?_; rintro e w4 ⟨rfl, rfl⟩)
              | (have z_ := H5; clear z_; go_at_call 13; refine (own_len H5.out).mono ?_; rintro e w6 ⟨rfl, rfl⟩)
              | (go_at_call 13; refine (own_len H3.out).mono ?_; rintro e w4 ⟨rfl, rfl⟩)
              | (go_at_call 17; refine (HP5.out _ H3.out).mono ?_; rintro e w5 ⟨rfl, h5⟩; have H5 := Aside0.mk h5; clear h5))
            go_roundg M2.length
            case measure => omega
            case rel => exact ⟨i + 1, t, M2, rfl, by simp, rfl, by omega, fun _ => HEX.out, H5⟩
end Go.Proofs.Ytkomjplajfjpkaa.Ext
