/- The law's shown: by hand. -/
import Derived.Test.YtkomjplajfjpkaaExp
namespace Go.Proofs.Ytkomjplajfjpkaa.Ext
open Go.RowKit Go.Proofs.Ytkomjplajfjpkaa.Hea Go.Proofs.YtkomjplajfjpkaaW.PrintWords Go.Proofs.YtkomjplajfjpkaaW.PrintLast Go.Proofs.YtkomjplajfjpkaaW.PrintMore
open Go.Maps (Keyed)
set_option linter.unusedVariables false
set_option linter.unusedSimpArgs false
/-- A cache that is the call's own, and all that has changed since w is its own. -/
structure Own (w W : World) (c : Nat) (M : List (ByteArray × Int)) (N : Nat) : Prop where
  ex : ∃ F, Ca W c F M N ∧ ∀ k, F k → w.heap.size ≤ k
  bel : Below w.heap.size w W
theorem Own.new {w W w' : World} {c : Nat} {F : Nat → Prop} (h : Ca w' c F [] 0) (hF : ∀ k, F k → W.heap.size ≤ k) (hb : Below W.heap.size W w') (hw : Below w.heap.size w W) : Own w w' c [] 0 :=
  ⟨⟨F, h, fun k hk => Nat.le_trans hw.size (hF k hk)⟩, below_then hw hw.size hb⟩
theorem Own.below {w W W' : World} {c : Nat} {M : List (ByteArray × Int)} {N : Nat} (h : Own w W c M N) (hb : Below W.heap.size W W') : Own w W' c M N := by
  obtain ⟨F, hc, hF⟩ := h.ex
  exact ⟨⟨F, hc.below hb, hF⟩, below_then h.bel h.bel.size hb⟩
theorem own_put {w W : World} {c : Nat} {M : List (ByteArray × Int)} {N : Nat} (h : Own w W c M N) (hN : N < 4096) {k : ByteArray} (hk : k.size ≤ maxLen) {t : Int} (h0 : 0 ≤ t) (hw : t < 18446744073709551616) :
    Calls Try.prog 16 #[.pointer (some ⟨c, 0, none⟩), .string k, .int .u64 t] W fun e w' => e = .returned (.tuple #[]) ∧ Own w w' c (putF M k t) (N + 1) := by
  obtain ⟨F, hc, hF⟩ := h.ex
  refine (put_calls hc hN hk h0 hw).mono ?_
  rintro e w' ⟨rfl, F2, hn⟩
  refine ⟨rfl, ⟨F2, hn.ca, fun j hj => ?_⟩, hn.mv.below h.bel h.bel.size hF⟩
  rcases hn.old j hj with h1 | h1
  · exact hF j h1
  · exact Nat.le_trans h.bel.size h1
theorem own_expire {w W : World} {c : Nat} {M : List (ByteArray × Int)} {N : Nat} (h : Own w W c M N) (hN : N ≤ 4096) (now : Int) :
    Calls Try.prog 17 #[.pointer (some ⟨c, 0, none⟩), .int .u64 now] W fun e w' => e = .returned (.int .i64 ((M.length - (expF M now).length : Nat) : Int)) ∧ Own w w' c (expF M now) N := by
  obtain ⟨F, hc, hF⟩ := h.ex
  refine (expire_calls hc hN now).mono ?_
  rintro e w' ⟨rfl, h1, hm⟩
  exact ⟨rfl, ⟨F, h1, hF⟩, hm.below h.bel h.bel.size hF⟩
theorem own_has {w W : World} {c : Nat} {M : List (ByteArray × Int)} {N : Nat} (h : Own w W c M N) {k : ByteArray} (hk : k.size ≤ maxLen) (t : Int) : Calls Try.prog 14 #[.pointer (some ⟨c, 0, none⟩), .string k, .int .u64 t] W fun e w' => e = .returned (.bool (hasF M k t)) ∧ w' = W := by
  obtain ⟨F, hc, hF⟩ := h.ex
  exact has_calls hc hk t
theorem own_len {w W : World} {c : Nat} {M : List (ByteArray × Int)} {N : Nat} (h : Own w W c M N) : Calls Try.prog 13 #[.pointer (some ⟨c, 0, none⟩)] W fun e w' => e = .returned (.int .i64 (M.length : Int)) ∧ w' = W := by
  obtain ⟨F, hc, hF⟩ := h.ex
  exact clen_calls hc
theorem own_next {w W : World} {c : Nat} {M : List (ByteArray × Int)} {N : Nat} (h : Own w W c M N) {k : ByteArray} {t : Int} {b : Bool} (hn : IsNext M k t b) : Calls Try.prog 11 #[.pointer (some ⟨c, 0, none⟩)] W fun e w' => e = .returned (.tuple #[.string k, .int .u64 t, .bool b]) ∧ Own w w' c M N := by
  obtain ⟨F, hc, hF⟩ := h.ex
  refine (next_calls hc).mono ?_
  rintro e w' ⟨k', t', b', rfl, h1, h2⟩
  obtain ⟨rfl, rfl, rfl⟩ := h1.one hn
  exact ⟨rfl, h.below h2⟩
def sa : ByteArray := ⟨#[97]⟩
def sb : ByteArray := ⟨#[98]⟩
theorem sh_put : putF (putF (putF [] sa 5) sb 3) sa 4 = [(sa, 5), (sb, 3)] := by decide +kernel
theorem sh_next : IsNext [(sa, 5), (sb, 3)] sb 3 true := by
  refine .inr ⟨by simp, rfl, fun p hp => ?_⟩
  rcases List.mem_cons.1 hp with rfl | hp
  · rfl
  · rcases List.mem_cons.1 hp with rfl | hp
    · decide +kernel
    · simp at hp
theorem sh_exp : expF [(sa, 5), (sb, 3)] 4 = [(sa, 5)] := by decide +kernel
theorem sh_h4 : hasF [(sa, 5)] sa 4 = true := by decide +kernel
theorem sh_h5 : hasF [(sa, 5)] sa 5 = false := by decide +kernel
set_option maxHeartbeats 4000000 in
theorem shown_calls (w : World) : Calls Try.prog 8 #[] w fun e w' => e = .returned (.bool true) ∧ Below w.heap.size w w' := by
  have k1 : sa.size ≤ maxLen := by decide
  have k2 : sb.size ≤ maxLen := by decide
  have HS : Aside0 (sa = ⟨#[97]⟩ ∧ sb = ⟨#[98]⟩) := ⟨rfl, rfl⟩
  have P1 : ∀ {W c}, Own w W c [] 0 → Calls Try.prog 16 #[.pointer (some ⟨c, 0, none⟩), .string ⟨#[97]⟩, .int .u64 5] W fun e w' => e = .returned (.tuple #[]) ∧ Own w w' c (putF [] sa 5) 1 := fun h => own_put h (by omega) k1 (by omega) (by omega)
  have P2 : ∀ {W c}, Own w W c (putF [] sa 5) 1 → Calls Try.prog 16 #[.pointer (some ⟨c, 0, none⟩), .string ⟨#[98]⟩, .int .u64 3] W fun e w' => e = .returned (.tuple #[]) ∧ Own w w' c (putF (putF [] sa 5) sb 3) 2 := fun h => own_put h (by omega) k2 (by omega) (by omega)
  have P3 : ∀ {W c}, Own w W c (putF (putF [] sa 5) sb 3) 2 → Calls Try.prog 16 #[.pointer (some ⟨c, 0, none⟩), .string ⟨#[97]⟩, .int .u64 4] W fun e w' => e = .returned (.tuple #[]) ∧ Own w w' c [(sa, 5), (sb, 3)] 3 := fun h => by rw [← sh_put]; exact own_put h (by omega) k1 (by omega) (by omega)
  have P4 : ∀ {W c}, Own w W c [(sa, 5), (sb, 3)] 3 → Calls Try.prog 11 #[.pointer (some ⟨c, 0, none⟩)] W fun e w' => e = .returned (.tuple #[.string ⟨#[98]⟩, .int .u64 3, .bool true]) ∧ Own w w' c [(sa, 5), (sb, 3)] 3 := fun h => own_next h sh_next
  have P5 : ∀ {W c}, Own w W c [(sa, 5), (sb, 3)] 3 → Calls Try.prog 17 #[.pointer (some ⟨c, 0, none⟩), .int .u64 4] W fun e w' => e = .returned (.int .i64 1) ∧ Own w w' c [(sa, 5)] 3 := fun h => by
    have := own_expire h (by omega) 4
    rw [sh_exp] at this
    exact this
  have P6 : ∀ {W c}, Own w W c [(sa, 5)] 3 → ∀ t, Calls Try.prog 14 #[.pointer (some ⟨c, 0, none⟩), .string ⟨#[97]⟩, .int .u64 t] W fun e w' => e = .returned (.bool (hasF [(sa, 5)] sa t)) ∧ w' = W := fun h t => own_has h k1 t
  have g4 := sh_h4
  have g5 := sh_h5
  have P8 : ∀ {W c}, Own w W c [(sa, 5)] 3 → Calls Try.prog 13 #[.pointer (some ⟨c, 0, none⟩)] W fun e w' => e = .returned (.int .i64 1) ∧ w' = W := fun h => own_len h
  replace P1 := Aside0.mk @P1
  replace P2 := Aside0.mk @P2
  replace P3 := Aside0.mk @P3
  replace P4 := Aside0.mk @P4
  replace P5 := Aside0.mk @P5
  replace P6 := Aside0.mk @P6
  replace P8 := Aside0.mk @P8
  go_enter Try.func8, Try.ntmps8
  go_wp2_with (first
    | (go_at_call 9; refine (new_calls _).mono ?_; rintro e w1 ⟨c, F, rfl, hc, hF, hb⟩; have H0 := Aside0.mk (Own.new (w := w) hc hF hb (Below.refl _ _)); clear hc hF hb)
    | (have z_ := H0; clear z_; go_at_call 16; refine (P1.out H0.out).mono ?_; rintro e w2 ⟨rfl, h1⟩; have H1 := Aside0.mk h1; clear h1 H0)
    | (have z_ := H1; clear z_; go_at_call 16; refine (P2.out H1.out).mono ?_; rintro e w3 ⟨rfl, h2⟩; have H2 := Aside0.mk h2; clear h2 H1)
    | (have z_ := H2; clear z_; go_at_call 16; refine (P3.out H2.out).mono ?_; rintro e w4 ⟨rfl, h3⟩; have H3 := Aside0.mk h3; clear h3 H2)
    | (go_at_call 11; refine (P4.out H3.out).mono ?_; rintro e w5 ⟨rfl, h4⟩; have H4 := Aside0.mk h4; clear h4 H3)
    | (go_at_call 17; refine (P5.out H4.out).mono ?_; rintro e w6 ⟨rfl, h5⟩; have H5 := Aside0.mk h5; clear h5 H4)
    | (go_at_call 14; refine (P6.out H5.out _).mono ?_; rintro e w7 ⟨rfl, rfl⟩)
    | (go_at_call 13; refine (P8.out H5.out).mono ?_; rintro e w7 ⟨rfl, rfl⟩))
  go_ret
  exact ⟨rfl, H5.out.bel⟩
end Go.Proofs.Ytkomjplajfjpkaa.Ext
