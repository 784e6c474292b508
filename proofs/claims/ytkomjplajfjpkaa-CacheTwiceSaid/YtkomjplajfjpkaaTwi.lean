/- CacheTwice's walk. By hand; written by wip/tools/twi.py. -/
import Derived.Test.YtkomjplajfjpkaaTwo
namespace Go.Proofs.Ytkomjplajfjpkaa.Ext
open Go.RowKit Go.Proofs.Ytkomjplajfjpkaa.Hea Go.Proofs.YtkomjplajfjpkaaW.PrintWords Go.Proofs.YtkomjplajfjpkaaW.PrintLast Go.Proofs.YtkomjplajfjpkaaW.PrintMore
open Go.Maps (Keyed)
set_option linter.unusedVariables false
set_option linter.unusedSimpArgs false
theorem putF_ge {M : Row} (h : Nd M) (k : ByteArray) (t : Int) : ∃ t', (k, t') ∈ putF M k t ∧ t ≤ t' := by
  by_cases hm : ∃ t0, (k, t0) ∈ M
  · obtain ⟨t0, hm⟩ := hm
    exact ⟨_, putF_hit hm t, by omega⟩
  · exact ⟨_, putF_first (fun t0 h => hm ⟨t0, h⟩) t, Int.le_refl _⟩
theorem putF_again {M : Row} (h : Nd M) (k : ByteArray) {s t : Int} (hs : s ≤ t) : putF (putF M k t) k s = putF M k t := by
  obtain ⟨t', hm, ht⟩ := putF_ge h k t
  exact putF_same (putF_nd h k t) hm (by omega)
theorem puts_nd (K : List ByteArray) (T : List Int) : ∀ i, Nd (putsM K T i)
  | 0 => List.nodup_nil
  | i + 1 => putF_nd (puts_nd K T i) _ _
theorem has_half {M : Row} (h : Nd M) (k : ByteArray) {t : Int} (ht : 0 < t) : hasF (putF M k t) k (t / 2) = true := by
  obtain ⟨t', hm, hl⟩ := putF_ge h k t
  rw [hasF_in (putF_nd h k t) hm, decide_eq_true]
  omega
set_option maxRecDepth 100000 in
set_option maxHeartbeats 8000000 in
theorem Twice (A0 : Option Addr) (c0 : Nat) (K : List ByteArray) (A1 : Option Addr) (c1 : Nat) (T : List Int) (now : Int) (w : World) (hC0 : Kd.C Kd.string w A0 K.length K) (hC1 : Kd.C (Kd.int .u64) w A1 T.length T) (hK : ∀ y ∈ K, y.size ≤ maxLen) (hT : ∀ y ∈ T, (Lit.int .u64 y).wf = true) :
    Calls Try.prog 7 #[.slice A0 K.length c0, .slice A1 T.length c1, .int .u64 now] w fun e w' => e = .returned (.bool true) ∧ Below w.heap.size w w' := by
  obtain ⟨n, hn⟩ : ∃ n : Nat, n = min (min K.length T.length) 100 := ⟨_, rfl⟩
  have hn0 : n ≤ K.length := by omega
  have hn1 : n ≤ T.length := by omega
  have hn2 : n ≤ 100 := by omega
  have HN := Aside0.mk hn
  have HT := Aside0.mk hT
  have HK := Aside0.mk hK
  have HC0 := Aside0.mk hC0
  have HC1 := Aside0.mk hC1
  clear hn hT hK hC0 hC1
  go_enter Try.func7, Try.ntmps7
  go_upto_block 0 with (first
    | (go_at_call 8; refine (shown_calls _).mono ?_; rintro e w1 ⟨rfl, hb⟩; have HB1 := Aside0.mk hb; clear hb)
    | (have z_ := H0; clear z_; go_at_call 9; refine (new_calls _).mono ?_; rintro e w3 ⟨b, F3, rfl, hc, hF, hb⟩; have H1 := Aside0.mk (Two.new H0.out hc hF hb); clear hc hF hb)
    | (go_at_call 9; refine (new_calls _).mono ?_; rintro e w2 ⟨a, F, rfl, hc, hF, hb⟩; have H0 := Aside0.mk (Own.new (w := w) hc hF hb HB1.out); clear hc hF hb))
  go_cut [10] from 18 (fun v10 wc => Aside0 (Two w wc a b (putsM K T n) (putsM K T n) 400))
  case first =>
    go_wp2_with (fail)
    go_loopg [10] n (fun gm v10 wr => ∃ k : Nat, v10 = .int .i64 (k : Int) ∧ k + gm = n ∧ Aside0 (Two w wr a b (putsM K T k) (putsM K T k) (4 * k)))
    case atStart => exact ⟨0, rfl, by omega, H1⟩
    case round =>
      obtain ⟨k, rfl, hk, HR⟩ := hrel
      by_cases hlt : k < n
      · have i0 : (k : Int) < (K.length : Int) := by omega
        have i1 : (k : Int) < (T.length : Int) := by omega
        have i2 : (k : Int) < 100 := by omega
        obtain ⟨ad0, rfl, hx0⟩ := str_row HC0.out (k := k) (by omega)
        obtain ⟨ad1, rfl, hx1⟩ := u64_row HC1.out (k := k) (by omega)
        have HX := Aside0.mk (And.intro hx0 hx1)
        have hx0 := hx0 _ HR.out.bel
        have hx1 := hx1 _ HR.out.bel
        have htm := tm_ok HT.out k
        have hks := ky_ok HK.out k
        have hdv := half_u64 htm
        have HP : Aside0 (putsM K T (k + 1) = putF (putsM K T k) (ky K k) (tm T k)) := ⟨rfl⟩
        have HG1 : Aside0 (putF (putF (putsM K T k) (ky K k) (tm T k)) (ky K k) (tm T k / 2) = putF (putsM K T k) (ky K k) (tm T k)) := ⟨putF_again (puts_nd K T k) _ (by omega)⟩
        have HG2 : Aside0 (putF (putF (putsM K T k) (ky K k) (tm T k)) (ky K k) (tm T k) = putF (putsM K T k) (ky K k) (tm T k)) := ⟨putF_again (puts_nd K T k) _ (Int.le_refl _)⟩
        have HHA : Aside0 (0 < tm T k → hasF (putF (putsM K T k) (ky K k) (tm T k)) (ky K k) (tm T k / 2) = true) := ⟨has_half (puts_nd K T k) _⟩
        generalize tm T k = t0 at *
        generalize ky K k = s0 at *
        go_wp2_with (fail)
        go_region_held3 (fun V => V.cell? (ad0.add k) = some (.string s0) ∧ V.cell? (ad1.add k) = some (.int .u64 t0)) (first | exact ⟨hy0_H4, hy1_H4⟩ | exact ⟨hx0, hx1⟩) (first
          | (go_at_call 16; refine (two_put (HR.out.below (by first | exact below_drew (Below.refl _ _) | exact Below.refl _ _)) (by omega) hks (by omega) (by omega)).mono ?_; rintro e w4 ⟨rfl, h4⟩; have hy0_H4 := HX.out.1 _ h4.bel; have hy1_H4 := HX.out.2 _ h4.bel; have H4 := Aside0.mk h4; clear h4))
        all_goals
          go_wp2_with (fail)
          go_region_held3 (fun V => V.cell? (ad0.add k) = some (.string s0) ∧ V.cell? (ad1.add k) = some (.int .u64 t0)) (first | exact ⟨hy0_H5, hy1_H5⟩ | exact ⟨hy0_H4, hy1_H4⟩) (first
            | (go_at_call 16; refine (two_put (H4.out.swap.below (by first | exact below_drew (Below.refl _ _) | exact Below.refl _ _)) (by omega) hks (by omega) (by omega)).mono ?_; rintro e w5 ⟨rfl, h4⟩; have hy0_H5 := HX.out.1 _ h4.bel; have hy1_H5 := HX.out.2 _ h4.bel; have H5 := Aside0.mk h4.swap; clear h4))
          all_goals
            go_wp2_with (fail)
            go_region_held3 (fun V => V.cell? (ad0.add k) = some (.string s0) ∧ V.cell? (ad1.add k) = some (.int .u64 t0)) (first | exact ⟨hy0_H6, hy1_H6⟩ | exact ⟨hy0_H5, hy1_H5⟩) (first
              | (go_at_call 16; refine (two_put (H5.out.swap.below (by first | exact below_drew (Below.refl _ _) | exact Below.refl _ _)) (by omega) hks (by omega) (by omega)).mono ?_; rintro e w6 ⟨rfl, h4⟩; have hy0_H6 := HX.out.1 _ h4.bel; have hy1_H6 := HX.out.2 _ h4.bel; have H6 := Aside0.mk h4.swap; clear h4))
            all_goals
              go_wp2_with (fail)
              go_region_held3 (fun V => V.cell? (ad0.add k) = some (.string s0) ∧ V.cell? (ad1.add k) = some (.int .u64 t0)) (first | exact ⟨hy0_H7, hy1_H7⟩ | exact ⟨hy0_H6, hy1_H6⟩) (first
                | (go_at_call 16; refine (two_put (H6.out.swap.below (by first | exact below_drew (Below.refl _ _) | exact Below.refl _ _)) (by omega) hks (by omega) (by omega)).mono ?_; rintro e w7 ⟨rfl, h4⟩; have hy0_H7 := HX.out.1 _ h4.bel; have hy1_H7 := HX.out.2 _ h4.bel; have H7 := Aside0.mk h4.swap; clear h4))
              all_goals
                have H8 : Aside0 (Two w w7 a b (putF (putsM K T k) s0 t0) (putF (putsM K T k) s0 t0) (4 * (k + 1))) := ⟨by
                  have := H7.out
                  rw [HG1.out, HG2.out] at this
                  exact this.more (by omega)⟩
                have HH : Aside0 (∀ (j : Nat), Calls Try.prog 14 #[.pointer (some ⟨a, 0, none⟩), .string s0, .int .u64 (t0 / 2)] (w7.drewN j) fun e w' => e = .returned (.bool (hasF (putF (putsM K T k) s0 t0) s0 (t0 / 2))) ∧ w' = w7.drewN j) := ⟨fun j => two_has (H8.out.below (pw_below_drewN (Below.refl _ _) j)) (.inl rfl) hks _⟩
                have hha := HHA.out
                generalize hasF (putF (putsM K T k) s0 t0) s0 (t0 / 2) = hh at *
                have HR2 : Aside0 (∀ j, ∃ k2 : Nat, ((k + 1 : Nat) : Int) = (k2 : Int) ∧ k2 + (gk - 1) = n ∧ Aside0 (Two w (w7.drewN j) a b (putsM K T k2) (putsM K T k2) (4 * k2))) := ⟨fun j => ⟨k + 1, rfl, by omega, ⟨by rw [HP.out]; exact H8.out.below (pw_below_drewN (Below.refl _ _) _)⟩⟩⟩
                by_cases htp : 0 < t0
                · obtain rfl := hha htp
                  go_wp2_with (fail)
                  go_quiet (first
                    | (go_at_call 14; refine (HH.out _).mono ?_; rintro e w8 ⟨rfl, rfl⟩; exact ⟨rfl, _, rfl⟩))
                  all_goals
                    go_wp2
                    go_roundg (gk - 1)
                    case measure => omega
                    case rel =>
                      obtain ⟨k2, e1, e2, e3⟩ := HR2.out nq
                      exact ⟨k2, by simp [← e1], e2, e3⟩
                · clear hha
                  cases hh with
                  | false =>
                    go_wp2_with (fail)
                    go_quiet (first
                      | (go_at_call 14; refine (HH.out _).mono ?_; rintro e w8 ⟨rfl, rfl⟩; exact ⟨rfl, _, rfl⟩))
                    all_goals
                      go_wp2
                      go_roundg (gk - 1)
                      case measure => omega
                      case rel =>
                        obtain ⟨k2, e1, e2, e3⟩ := HR2.out nq
                        exact ⟨k2, by simp [← e1], e2, e3⟩
                  | true =>
                    go_wp2_with (fail)
                    go_quiet (first
                      | (go_at_call 14; refine (HH.out _).mono ?_; rintro e w8 ⟨rfl, rfl⟩; exact ⟨rfl, _, rfl⟩))
                    all_goals
                      go_wp2
                      go_roundg (gk - 1)
                      case measure => omega
                      case rel =>
                        obtain ⟨k2, e1, e2, e3⟩ := HR2.out nq
                        exact ⟨k2, by simp [← e1], e2, e3⟩
      · obtain rfl : k = n := by omega
        have hd : ¬ (k : Int) < (K.length : Int) ∨ ¬ (k : Int) < (T.length : Int) ∨ ¬ (k : Int) < 100 := by have := HN.out; omega
        have HE := Aside0.mk (HR.out.more (N' := 400) (by omega))
        by_cases h0 : (k : Int) < (K.length : Int)
        · by_cases h1 : (k : Int) < (T.length : Int)
          · have h2 : ¬ (k : Int) < 100 := by omega
            go_wp2_with (fail)
            go_meet
            case rel => exact HE
          · go_wp2_with (fail)
            go_meet
            case rel => exact HE
        · go_wp2_with (fail)
          go_meet
          case rel => exact HE
  case rest =>
    generalize putsM K T n = M at *
    go_upto_block 2 with (fail)
    go_cut [11] from 18 (fun v11 wc => Aside0 (Two w wc a b M M 400))
    case first =>
      go_wp2_with (fail)
      go_loopg [11] n (fun gm v11 wr => ∃ k : Nat, v11 = .int .i64 (k : Int) ∧ k + gm = n ∧ Aside0 (Two w wr a b M M 400))
      case atStart => exact ⟨0, rfl, by omega, hcut⟩
      case round =>
        obtain ⟨k, rfl, hk, HR⟩ := hrel
        by_cases hlt : k < n
        · have i0 : (k : Int) < (K.length : Int) := by omega
          have i1 : (k : Int) < (T.length : Int) := by omega
          have i2 : (k : Int) < 100 := by omega
          obtain ⟨ad0, rfl, hx0⟩ := str_row HC0.out (k := k) (by omega)
          have hx0 := hx0 _ HR.out.bel
          have hks := Aside0.mk (ky_ok HK.out k)
          generalize ky K k = s0 at *
          have HH : Aside0 (∀ (j p : Nat), (p = a ∨ p = b) → Calls Try.prog 14 #[.pointer (some ⟨p, 0, none⟩), .string s0, .int .u64 now] (wr.drewN j) fun e w' => e = .returned (.bool (hasF M s0 now)) ∧ w' = wr.drewN j) := ⟨fun j p hp => two_has (HR.out.below (pw_below_drewN (Below.refl _ _) j)) hp hks.out now⟩
          generalize hasF M s0 now = hh at *
          go_wp2_with (fail)
          go_quiet (first
            | (go_at_call 14; refine (HH.out _ _ (by first | exact .inl rfl | exact .inr rfl)).mono ?_; rintro e w8 ⟨rfl, rfl⟩; exact ⟨rfl, _, rfl⟩))
          all_goals
            go_wp2
            go_roundg (gk - 1)
            case measure => omega
            case rel => exact ⟨k + 1, by simp, by omega, ⟨HR.out.below (pw_below_drewN (Below.refl _ _) _)⟩⟩
        · obtain rfl : k = n := by omega
          have hd : ¬ (k : Int) < (K.length : Int) ∨ ¬ (k : Int) < (T.length : Int) ∨ ¬ (k : Int) < 100 := by have := HN.out; omega
          by_cases h0 : (k : Int) < (K.length : Int)
          · by_cases h1 : (k : Int) < (T.length : Int)
            · have h2 : ¬ (k : Int) < 100 := by omega
              go_wp2_with (fail)
              go_meet
              case rel => exact HR
            · go_wp2_with (fail)
              go_meet
              case rel => exact HR
          · go_wp2_with (fail)
            go_meet
            case rel => exact HR
    case rest =>
      obtain ⟨nk, nt, nb, hnx⟩ := is_next M hcut.out.one
      replace hnx := Aside0.mk hnx
      go_wp2_with (first
        | (have z_ := G3; clear z_; go_at_call 11; refine (two_next G3.out.swap hnx.out).mono ?_; rintro e w7 ⟨rfl, h7⟩; have G4 := Aside0.mk h7.swap; clear h7)
        | (go_at_call 11; refine (two_next hcut.out hnx.out).mono ?_; rintro e w6 ⟨rfl, h6⟩; have G3 := Aside0.mk h6; clear h6)
        | (go_at_call 13; refine (two_len G4.out (by first | exact .inl rfl | exact .inr rfl)).mono ?_; rintro e w8 ⟨rfl, rfl⟩))
      go_ret
      exact ⟨rfl, G4.out.bel⟩
end Go.Proofs.Ytkomjplajfjpkaa.Ext
