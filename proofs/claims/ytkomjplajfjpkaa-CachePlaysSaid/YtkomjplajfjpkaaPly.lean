/- CachePlays' walk. By hand. -/
import Derived.Test.YtkomjplajfjpkaaPlx
import Derived.Test.YtkomjplajfjpkaaOpo
namespace Go.Proofs.Ytkomjplajfjpkaa.Ext
open Go.RowKit Go.Proofs.Ytkomjplajfjpkaa.Hea Go.Proofs.YtkomjplajfjpkaaW.PrintWords Go.Proofs.YtkomjplajfjpkaaW.PrintLast Go.Proofs.YtkomjplajfjpkaaW.PrintMore
open Go.Maps (Keyed)
set_option linter.unusedVariables false
set_option linter.unusedSimpArgs false
theorem Px.new {w W : World} {a : Nat} (h : Own w W a [] 0) : Px (fun _ => False) w (W.alloc (.cells #[.slice none 0 0] 30)) a W.heap.size [] [] 0 := by
  obtain ⟨⟨F, ha, h1⟩, hbel⟩ := h
  refine ⟨⟨F, fun k => k = W.heap.size, .slice none 0 0, ha.below (below_alloc (Below.refl _ _) _), ⟨blk_new _ _, ⟨rfl, .inl ⟨rfl, rfl⟩⟩, rfl, fun k hk => by simp [Value.ownBlock] at hk, fun k hk => by subst hk; simp, by simp⟩, h1, fun k hk => by subst hk; exact hbel.size, fun k hk hk' => by subst hk'; have := ha.lt _ hk; omega, fun k hk => hk.elim⟩, below_then hbel hbel.size (below_alloc (Below.refl _ _) _)⟩
theorem op_row {w : World} {A : Option Addr} {l : List S33} (h : Kd.C k33 w A l.length l) {k : Nat} (hk : k < l.length) : ∃ ad, A = some ad ∧ ∀ V, Below w.heap.size w V → V.cell? (ad.add (k * 3)) = some (.int .i64 (rd_T33 l (k : Int)).f0) ∧ V.cell? ⟨(ad.add (k * 3)).block, (ad.add (k * 3)).off + 1, none⟩ = some (.string (rd_T33 l (k : Int)).f1) ∧ V.cell? ⟨(ad.add (k * 3)).block, (ad.add (k * 3)).off + 2, none⟩ = some (.int .u64 (rd_T33 l (k : Int)).f2) := by
  obtain ⟨ad, rfl, x0, x1, x2⟩ := at_T33 h (k : Int) (by omega) (by omega)
  rw [Int.toNat_natCast] at x0 x1 x2
  exact ⟨ad, rfl, fun V hb => ⟨pw_cell_below hb x0, pw_cell_below hb x1, pw_cell_below hb x2⟩⟩
set_option maxRecDepth 100000 in
set_option maxHeartbeats 8000000 in
theorem Plays (A0 : Option Addr) (c0 : Nat) (l : List S33) (now : Int) (w : World) (hC : Kd.C k33 w A0 l.length l) (hW : ∀ i, (rd_T33 l i).f1.size ≤ maxLen ∧ (Lit.int .u64 (rd_T33 l i).f2).wf = true) :
    Calls Try.prog 3 #[.slice A0 l.length c0, .int .u64 now] w fun e w' => e = .returned (.bool true) ∧ Below w.heap.size w w' := by
  obtain ⟨n, hn⟩ : ∃ n : Nat, n = min l.length 300 := ⟨_, rfl⟩
  have hn0 : n ≤ l.length := by omega
  have hn1 : n ≤ 300 := by omega
  have HN := Aside0.mk hn
  have HW := Aside0.mk hW
  have HC := Aside0.mk hC
  have HPN : Aside0 (∀ W a, Own w W a [] 0 → Px (fun _ => False) w (W.alloc (.cells #[.slice none 0 0] 30)) a W.heap.size [] [] 0) := ⟨fun W a h => Px.new h⟩
  clear hn hW hC
  go_enter Try.func3, Try.ntmps3
  go_wp2_with (first
    | (go_at_call 8; refine (shown_calls _).mono ?_; rintro e w1 ⟨rfl, hb⟩; have HB1 := Aside0.mk hb; clear hb)
    | (go_at_call 9; refine (new_calls _).mono ?_; rintro e w2 ⟨a, F, rfl, hc, hF, hb⟩; have H0 := Aside0.mk (Own.new (w := w) hc hF hb HB1.out); have H1 := Aside0.mk (HPN.out _ _ H0.out); clear hc hF hb))
  obtain ⟨r, hr⟩ : ∃ r, w2.heap.size = r := ⟨_, rfl⟩
  obtain ⟨w3, hw3⟩ : ∃ w3, w2.alloc (.cells #[.slice none 0 0] 30) = w3 := ⟨_, rfl⟩
  rw [hr, hw3] at H1
  rw [hr, hw3]
  clear hw3 hr
  go_loopg [8] n (fun gm v8 wr => ∃ (k : Nat) (M : Row), v8 = .int .i64 (k : Int) ∧ k + gm = n ∧ M.length ≤ k ∧ Aside0 (Px (fun _ => False) w wr a r M M k))
  case atStart => exact ⟨0, [], rfl, by omega, Nat.le_refl _, H1⟩
  case round =>
    obtain ⟨k, M, rfl, hk, hMk, HR⟩ := hrel
    by_cases hlt : k < n
    · have i0 : (k : Int) < (l.length : Int) := by omega
      have i1 : (k : Int) < 300 := by omega
      obtain ⟨ad, rfl, hx⟩ := op_row HC.out (k := k) (by omega)
      obtain ⟨hks, hwf⟩ := HW.out (k : Int)
      have htm := wf_u64 hwf
      obtain ⟨K, hK⟩ : ∃ K, (rd_T33 l (k : Int)).f0 = K := ⟨_, rfl⟩
      obtain ⟨s, hs⟩ : ∃ s, (rd_T33 l (k : Int)).f1 = s := ⟨_, rfl⟩
      obtain ⟨t, ht⟩ : ∃ t, (rd_T33 l (k : Int)).f2 = t := ⟨_, rfl⟩
      rw [hs] at hks
      rw [ht] at htm
      rw [hK, hs, ht] at hx
      have HX := Aside0.mk hx
      obtain ⟨x0, x1, x2⟩ := hx _ HR.out.bel
      have HP := Aside0.mk (play_calls HR.out (by omega) hMk K hks htm.1 htm.2)
      have HKS := Aside0.mk hks
      clear hK hs ht hwf hks hx
      go_wp2_with (first
        | (go_at_call 10; refine HP.out.mono ?_; rintro e w4 ⟨rfl, ⟨M2, h4, hM2⟩⟩; obtain ⟨nk, nt, nb, hnx⟩ := is_next M2 h4.one; replace hnx := Aside0.mk hnx; have H4 := Aside0.mk h4; clear h4)
        | (go_at_call 11; refine (px_next H4.out hnx.out).mono ?_; rintro e w5 ⟨rfl, h5⟩; have H5 := Aside0.mk h5; clear h5)
        | (go_at_call 12; refine (px_rnext H5.out hnx.out).mono ?_; rintro e w6 ⟨rfl, h6⟩; have H6 := Aside0.mk h6; clear h6))
      obtain ⟨A6, c6, hcr⟩ := H6.out.row
      obtain ⟨z0, z1, z2⟩ := HX.out _ H6.out.bel
      have HL : Aside0 (∀ j, Calls Try.prog 13 #[.pointer (some ⟨a, 0, none⟩)] (w6.drewN j) fun e w' => e = .returned (.int .i64 (M2.length : Int)) ∧ w' = w6.drewN j) := ⟨fun j => own_len (H6.out.below (pw_below_drewN (Below.refl _ _) j)).one⟩
      have HA : Aside0 (∀ j, Calls Try.prog 14 #[.pointer (some ⟨a, 0, none⟩), .string s, .int .u64 now] (w6.drewN j) fun e w' => e = .returned (.bool (hasF M2 s now)) ∧ w' = w6.drewN j) := ⟨fun j => own_has (H6.out.below (pw_below_drewN (Below.refl _ _) j)).one HKS.out now⟩
      have HAR : Aside0 (∀ j, Calls Try.prog 15 #[.pointer (some ⟨r, 0, none⟩), .string s, .int .u64 now] (w6.drewN j) fun e w' => e = .returned (.bool (hasF M2 s now)) ∧ w' = w6.drewN j) := ⟨fun j => px_rhas (H6.out.below (pw_below_drewN (Below.refl _ _) j)) (px_nd H6.out) s now⟩
      generalize hasF M2 s now = hh at *
      go_quiet (first
        | (go_at_call 13; refine (HL.out _).mono ?_; rintro e w8 ⟨rfl, rfl⟩; exact ⟨rfl, _, rfl⟩)
        | (go_at_call 14; refine (HA.out _).mono ?_; rintro e w8 ⟨rfl, rfl⟩; exact ⟨rfl, _, rfl⟩)
        | (go_at_call 15; refine (HAR.out _).mono ?_; rintro e w8 ⟨rfl, rfl⟩; exact ⟨rfl, _, rfl⟩))
      all_goals
        go_wp2
        go_roundg (gk - 1)
        case measure => omega
        case rel => exact ⟨k + 1, M2, by simp, by omega, hM2, ⟨H6.out.below (pw_below_drewN (Below.refl _ _) _)⟩⟩
    · obtain rfl : k = n := by omega
      have HB := Aside0.mk HR.out.bel
      by_cases h0 : (k : Int) < (l.length : Int)
      · have h2 : ¬ (k : Int) < 300 := by have := HN.out; omega
        go_wp2_with (fail)
        go_ret
        exact ⟨rfl, HB.out⟩
      · go_wp2_with (fail)
        go_ret
        exact ⟨rfl, HB.out⟩
end Go.Proofs.Ytkomjplajfjpkaa.Ext
