/- CacheSteps' walk. By hand; written by wip/tools/stp.py. -/
import Derived.Test.YtkomjplajfjpkaaTwo
namespace Go.Proofs.Ytkomjplajfjpkaa.Ext
open Go.RowKit Go.Proofs.Ytkomjplajfjpkaa.Hea Go.Proofs.YtkomjplajfjpkaaW.PrintWords Go.Proofs.YtkomjplajfjpkaaW.PrintLast Go.Proofs.YtkomjplajfjpkaaW.PrintMore
open Go.Maps (Keyed)
set_option linter.unusedVariables false
set_option linter.unusedSimpArgs false
set_option maxRecDepth 100000 in
set_option maxHeartbeats 8000000 in
theorem Steps (A0 : Option Addr) (c0 : Nat) (K : List ByteArray) (A1 : Option Addr) (c1 : Nat) (T : List Int) (A2 : Option Addr) (c2 : Nat) (S : List Int) (w : World) (hC0 : Kd.C Kd.string w A0 K.length K) (hC1 : Kd.C (Kd.int .u64) w A1 T.length T) (hC2 : Kd.C (Kd.int .u64) w A2 S.length S) (hK : ∀ y ∈ K, y.size ≤ maxLen) (hT : ∀ y ∈ T, (Lit.int .u64 y).wf = true) (hS : ∀ y ∈ S, (Lit.int .u64 y).wf = true) :
    Calls Try.prog 6 #[.slice A0 K.length c0, .slice A1 T.length c1, .slice A2 S.length c2] w fun e w' => e = .returned (.bool true) ∧ Below w.heap.size w w' := by
  obtain ⟨n, hn⟩ : ∃ n : Nat, n = min (min K.length T.length) 200 := ⟨_, rfl⟩
  obtain ⟨m, hm⟩ : ∃ m : Nat, m = min S.length 20 := ⟨_, rfl⟩
  have hn0 : n ≤ K.length := by omega
  have hn1 : n ≤ T.length := by omega
  have hn2 : n ≤ 200 := by omega
  have hm0 : m ≤ S.length := by omega
  have hm1 : m ≤ 20 := by omega
  have HN := Aside0.mk hn
  have HM := Aside0.mk hm
  have HT := Aside0.mk hT
  have HK := Aside0.mk hK
  have HS := Aside0.mk hS
  have HC0 := Aside0.mk hC0
  have HC1 := Aside0.mk hC1
  have HC2 := Aside0.mk hC2
  clear hn hm hT hK hS hC0 hC1 hC2
  go_enter Try.func6, Try.ntmps6
  go_upto_block 0 with (first
    | (go_at_call 8; refine (shown_calls _).mono ?_; rintro e w1 ⟨rfl, hb⟩; have HB1 := Aside0.mk hb; clear hb)
    | (have z_ := H0; clear z_; go_at_call 9; refine (new_calls _).mono ?_; rintro e w3 ⟨b, F3, rfl, hc, hF, hb⟩; have H1 := Aside0.mk (Two.new H0.out hc hF hb); clear hc hF hb)
    | (go_at_call 9; refine (new_calls _).mono ?_; rintro e w2 ⟨a, F, rfl, hc, hF, hb⟩; have H0 := Aside0.mk (Own.new (w := w) hc hF hb HB1.out); clear hc hF hb))
  go_cut [10] from 22 (fun v10 wc => Aside0 (Two w wc a b (putsM K T n) (putsM K T n) 400))
  case first =>
    go_wp2_with (fail)
    go_loopg [10] n (fun gm v10 wr => ∃ k : Nat, v10 = .int .i64 (k : Int) ∧ k + gm = n ∧ Aside0 (Two w wr a b (putsM K T k) (putsM K T k) (2 * k)))
    case atStart => exact ⟨0, rfl, by omega, H1⟩
    case round =>
      obtain ⟨k, rfl, hk, HR⟩ := hrel
      by_cases hlt : k < n
      · have i0 : (k : Int) < (K.length : Int) := by omega
        have i1 : (k : Int) < (T.length : Int) := by omega
        have i2 : (k : Int) < 200 := by omega
        obtain ⟨ad0, rfl, hx0⟩ := str_row HC0.out (k := k) (by omega)
        obtain ⟨ad1, rfl, hx1⟩ := u64_row HC1.out (k := k) (by omega)
        have HX := Aside0.mk (And.intro hx0 hx1)
        have hx0 := hx0 _ HR.out.bel
        have hx1 := hx1 _ HR.out.bel
        have htm := tm_ok HT.out k
        have hks := ky_ok HK.out k
        have HP : Aside0 (putsM K T (k + 1) = putF (putsM K T k) (ky K k) (tm T k)) := ⟨rfl⟩
        generalize tm T k = t0 at *
        generalize ky K k = s0 at *
        go_wp2_with (fail)
        go_region_with (first
          | (go_at_call 16; refine (two_put (HR.out.below (below_drew (Below.refl _ _))) (by omega) hks (by omega) (by omega)).mono ?_; rintro e w4 ⟨rfl, h4⟩; have H4 := Aside0.mk h4; clear h4))
        all_goals
          have hy0 := HX.out.1 _ H4.out.bel
          have hy1 := HX.out.2 _ H4.out.bel
          go_wp2_with (fail)
          go_region_with (first
            | (go_at_call 16; refine (two_put (H4.out.swap.below (below_drew (Below.refl _ _))) (by omega) hks (by omega) (by omega)).mono ?_; rintro e w5 ⟨rfl, h5⟩; have H5 := Aside0.mk h5.swap; clear h5))
          all_goals
            go_wp2
            go_roundg (gk - 1)
            case measure => omega
            case rel => exact ⟨k + 1, by simp, by omega, ⟨by rw [HP.out]; exact H5.out.more (by omega)⟩⟩
      · obtain rfl : k = n := by omega
        have hd : ¬ (k : Int) < (K.length : Int) ∨ ¬ (k : Int) < (T.length : Int) ∨ ¬ (k : Int) < 200 := by have := HN.out; omega
        have HE := Aside0.mk (HR.out.more (N' := 400) (by omega))
        by_cases h0 : (k : Int) < (K.length : Int)
        · by_cases h1 : (k : Int) < (T.length : Int)
          · have h2 : ¬ (k : Int) < 200 := by omega
            go_wp2_with (fail)
            go_meet
            case rel => exact HE
          · go_wp2_with (fail)
            go_meet
            case rel => exact HE
        · go_wp2_with (fail)
          go_meet
          case rel => exact HE
  case rest =>
    have HL := Aside0.mk (puts_len K T n)
    generalize putsM K T n = M at *
    go_upto_block 2 with (fail)
    go_cut [11, 12, 13] from 22 (fun v11 v12 v13 wc => ∃ (d : Nat) (Ma : Row), v11 = .int .i64 (d : Int) ∧ v12 = .int .u64 (mostT S m) ∧ d + Ma.length = M.length ∧ Aside0 (Two w wc a b Ma M 400 ∧ ∀ t, mostT S m ≤ t → expF Ma t = expF M t))
    case first =>
      have hM := HL.out
      go_wp2_with (fail)
      go_loopg [11, 12, 13] m (fun gm v11 v12 v13 wr => ∃ (k d : Nat) (Ma : Row), v11 = .int .i64 (d : Int) ∧ v12 = .int .u64 (mostT S k) ∧ v13 = .int .i64 (k : Int) ∧ k + gm = m ∧ d + Ma.length = M.length ∧ Aside0 (Two w wr a b Ma M 400 ∧ ∀ t, mostT S k ≤ t → expF Ma t = expF M t))
      case atStart => exact ⟨0, 0, M, rfl, rfl, rfl, by omega, by omega, ⟨hcut.out, fun _ _ => rfl⟩⟩
      case round =>
        obtain ⟨k, d, Ma, rfl, rfl, rfl, hk, hdM, HR⟩ := hrel
        by_cases hlt : k < m
        · have i0 : (k : Int) < (S.length : Int) := by omega
          have i2 : (k : Int) < 20 := by omega
          obtain ⟨ad2, rfl, hx2⟩ := u64_row HC2.out (k := k) (by omega)
          have HX := Aside0.mk hx2
          have hx2 := hx2 _ HR.out.1.bel
          have hmo := most_ok HS.out k
          have htm := tm_ok HS.out k
          have HM1 : Aside0 (mostT S (k + 1) = max (mostT S k) (tm S k)) := ⟨rfl⟩
          have hel := exp_len Ma (tm S k)
          have HC : Aside0 (∀ s t, s ≤ t → expF (expF Ma s) t = expF Ma t) := ⟨fun s t h => exp_exp Ma h⟩
          have HP := Aside0.mk (two_expire HR.out.1 (by omega) (tm S k))
          have HRE := Aside0.mk HR.out.2
          clear HR
          generalize tm S k = t0 at *
          generalize mostT S k = m0 at *
          obtain ⟨x, hx⟩ : ∃ x : Nat, Ma.length - (expF Ma t0).length = x := ⟨_, rfl⟩
          rw [hx] at HP
          obtain ⟨z, hz⟩ : ∃ z : Nat, d + x = z := ⟨_, rfl⟩
          have hdx : (d : Int) + (x : Int) = (z : Int) := by omega
          have hb1 : z ≤ 200 := by omega
          have HX2 : Aside0 (z + (expF Ma t0).length = M.length) := ⟨by omega⟩
          clear hx hz
          go_wp2_with (first
            | (go_at_call 17; refine HP.out.mono ?_; rintro e w4 ⟨rfl, h4⟩; have hy2 := HX.out _ h4.bel; have H4 := Aside0.mk h4; clear h4))
          all_goals
            go_roundg (gk - 1)
            case measure => omega
            case rel =>
              refine ⟨k + 1, z, expF Ma t0, rfl, ?_, by simp, by omega, HX2.out, ⟨H4.out, fun t ht => ?_⟩⟩
              · rw [HM1.out]; congr 1; omega
              · rw [HM1.out] at ht
                rw [HC.out t0 t (by omega)]
                exact HRE.out t (by omega)
        · obtain rfl : k = m := by omega
          by_cases h0 : (k : Int) < (S.length : Int)
          · have h2 : ¬ (k : Int) < 20 := by have := HM.out; omega
            go_wp2_with (fail)
            go_meet
            case rel => exact ⟨d, Ma, rfl, rfl, hdM, HR⟩
          · go_wp2_with (fail)
            go_meet
            case rel => exact ⟨d, Ma, rfl, rfl, hdM, HR⟩
    case rest =>
      obtain ⟨d, Ma, rfl, rfl, hdM, HR⟩ := hcut
      have hmo := most_ok HS.out m
      have HF : Aside0 (expF Ma (mostT S m) = expF M (mostT S m)) := ⟨HR.out.2 _ (Int.le_refl _)⟩
      have HTW := Aside0.mk HR.out.1
      clear HR
      have HHS : Aside0 (∀ k, hasF (expF M (mostT S m)) k 0 = hasF (expF M (mostT S m)) k (mostT S m)) := ⟨fun k => has_exp M k hmo.1⟩
      generalize mostT S m = m0 at *
      have hel := exp_len M m0
      have hel2 := exp_len Ma m0
      have HML := Aside0.mk HL.out
      have HE1 := Aside0.mk (two_expire HTW.out (by omega) m0)
      rw [HF.out] at HE1 hel2
      have HE2 : Aside0 (∀ V, Two w V a b (expF M m0) M 400 → Calls Try.prog 17 #[.pointer (some ⟨b, 0, none⟩), .int .u64 m0] V fun e w' => e = .returned (.int .i64 ((M.length - (expF M m0).length : Nat) : Int)) ∧ Two w w' b a (expF M m0) (expF M m0) 400) := ⟨fun V h => two_expire h.swap (by omega) m0⟩
      generalize expF M m0 = MF at *
      obtain ⟨x, hx⟩ : ∃ x : Nat, Ma.length - MF.length = x := ⟨_, rfl⟩
      obtain ⟨y, hy⟩ : ∃ y : Nat, M.length - MF.length = y := ⟨_, rfl⟩
      rw [hx] at HE1
      rw [hy] at HE2
      have hdx : (d : Int) + (x : Int) = (y : Int) := by omega
      have hyy : y ≤ 200 := by have := HML.out; omega
      clear hx hy hel hel2 hdM
      go_upto_block 4 with (first
        | (have z_ := G1; clear z_; go_at_call 17; refine (HE2.out _ G1.out).mono ?_; rintro e w5 ⟨rfl, h5⟩; obtain ⟨nk, nt, nb, hnx⟩ := is_next MF h5.one; replace hnx := Aside0.mk hnx; have G2 := Aside0.mk h5.swap; clear h5)
        | (go_at_call 17; refine HE1.out.mono ?_; rintro e w4 ⟨rfl, h4⟩; have G1 := Aside0.mk h4; clear h4)
        | (have z_ := G3; clear z_; go_at_call 11; refine (two_next G3.out.swap hnx.out).mono ?_; rintro e w7 ⟨rfl, h7⟩; have G4 := Aside0.mk h7.swap; clear h7)
        | (go_at_call 11; refine (two_next G2.out hnx.out).mono ?_; rintro e w6 ⟨rfl, h6⟩; have G3 := Aside0.mk h6; clear h6))
      go_cut [21] from 22 (fun v21 wc => Aside0 (Two w wc a b MF MF 400))
      case first =>
        go_wp2_with (fail)
        go_loopg [21] n (fun gm v21 wr => ∃ k : Nat, v21 = .int .i64 (k : Int) ∧ k + gm = n ∧ Aside0 (Two w wr a b MF MF 400))
        case atStart => exact ⟨0, rfl, by omega, G4⟩
        case round =>
          obtain ⟨k, rfl, hk, HR⟩ := hrel
          by_cases hlt : k < n
          · have i0 : (k : Int) < (K.length : Int) := by omega
            have i1 : (k : Int) < (T.length : Int) := by omega
            have i2 : (k : Int) < 200 := by omega
            obtain ⟨ad0, rfl, hx0⟩ := str_row HC0.out (k := k) (by omega)
            have hx0 := hx0 _ HR.out.bel
            have hks := Aside0.mk (ky_ok HK.out k)
            have hhs := HHS.out (ky K k)
            generalize ky K k = s0 at *
            cases hh : hasF MF s0 m0 with
            | false =>
              rw [hh] at hhs
              have HH : Aside0 (∀ (j p : Nat) (t : Int), (p = a ∨ p = b) → (t = m0 ∨ t = 0) → Calls Try.prog 14 #[.pointer (some ⟨p, 0, none⟩), .string s0, .int .u64 t] (wr.drewN j) fun e w' => e = .returned (.bool false) ∧ w' = wr.drewN j) := ⟨fun j p t hp ht => by
                have h1 := two_has (HR.out.below (pw_below_drewN (Below.refl _ _) j)) hp hks.out t
                rcases ht with rfl | rfl
                · rw [hh] at h1; exact h1
                · rw [hhs] at h1; exact h1⟩
              go_wp2_with (fail)
              go_quiet (first
                | (go_at_call 14; refine (HH.out _ _ _ (by first | exact .inl rfl | exact .inr rfl) (by first | exact .inl rfl | exact .inr rfl)).mono ?_; rintro e w8 ⟨rfl, rfl⟩; exact ⟨rfl, _, rfl⟩))
              all_goals
                go_wp2
                go_roundg (gk - 1)
                case measure => omega
                case rel => exact ⟨k + 1, by simp, by omega, ⟨HR.out.below (pw_below_drewN (Below.refl _ _) _)⟩⟩
            | true =>
              rw [hh] at hhs
              have hposn := has_pos hh
              have hpos : (0 : Int) < (MF.length : Int) := by omega
              have HH : Aside0 (∀ (j p : Nat) (t : Int), (p = a ∨ p = b) → (t = m0 ∨ t = 0) → Calls Try.prog 14 #[.pointer (some ⟨p, 0, none⟩), .string s0, .int .u64 t] (wr.drewN j) fun e w' => e = .returned (.bool true) ∧ w' = wr.drewN j) := ⟨fun j p t hp ht => by
                have h1 := two_has (HR.out.below (pw_below_drewN (Below.refl _ _) j)) hp hks.out t
                rcases ht with rfl | rfl
                · rw [hh] at h1; exact h1
                · rw [hhs] at h1; exact h1⟩
              have HL3 : Aside0 (∀ (j p : Nat), (p = a ∨ p = b) → Calls Try.prog 13 #[.pointer (some ⟨p, 0, none⟩)] (wr.drewN j) fun e w' => e = .returned (.int .i64 (MF.length : Int)) ∧ w' = wr.drewN j) := ⟨fun j p hp => two_len (HR.out.below (pw_below_drewN (Below.refl _ _) j)) hp⟩
              go_wp2_with (fail)
              go_quiet (first
                | (go_at_call 14; refine (HH.out _ _ _ (by first | exact .inl rfl | exact .inr rfl) (by first | exact .inl rfl | exact .inr rfl)).mono ?_; rintro e w8 ⟨rfl, rfl⟩; exact ⟨rfl, _, rfl⟩)
                | (go_at_call 13; refine (HL3.out _ _ (by first | exact .inl rfl | exact .inr rfl)).mono ?_; rintro e w8 ⟨rfl, rfl⟩; exact ⟨rfl, _, rfl⟩))
              all_goals
                go_wp2
                go_roundg (gk - 1)
                case measure => omega
                case rel => exact ⟨k + 1, by simp, by omega, ⟨HR.out.below (pw_below_drewN (Below.refl _ _) _)⟩⟩
          · obtain rfl : k = n := by omega
            have hd : ¬ (k : Int) < (K.length : Int) ∨ ¬ (k : Int) < (T.length : Int) ∨ ¬ (k : Int) < 200 := by have := HN.out; omega
            by_cases h0 : (k : Int) < (K.length : Int)
            · by_cases h1 : (k : Int) < (T.length : Int)
              · have h2 : ¬ (k : Int) < 200 := by omega
                go_wp2_with (fail)
                go_meet
                case rel => exact HR
              · go_wp2_with (fail)
                go_meet
                case rel => exact HR
            · go_wp2_with (fail)
              go_meet
              case rel => exact HR
      case rest =>
        have HBL := Aside0.mk hcut.out.bel
        have HL4 : Aside0 (∀ (p : Nat), (p = a ∨ p = b) → Calls Try.prog 13 #[.pointer (some ⟨p, 0, none⟩)] wc fun e w' => e = .returned (.int .i64 (MF.length : Int)) ∧ w' = wc) := ⟨fun p hp => two_len hcut.out hp⟩
        go_wp2_with (first
          | (go_at_call 13; refine (HL4.out _ (by first | exact .inl rfl | exact .inr rfl)).mono ?_; rintro e w8 ⟨rfl, rfl⟩))
        go_ret
        exact ⟨rfl, HBL.out⟩
end Go.Proofs.Ytkomjplajfjpkaa.Ext
