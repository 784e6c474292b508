/- Two caches; CacheSteps' walk. By hand; written by wip/tools/stp.py. -/
import Derived.Test.YtkomjplajfjpkaaOrd
namespace Go.Proofs.Ytkomjplajfjpkaa.Ext
open Go.RowKit Go.Proofs.Ytkomjplajfjpkaa.Hea Go.Proofs.YtkomjplajfjpkaaW.PrintWords Go.Proofs.YtkomjplajfjpkaaW.PrintLast Go.Proofs.YtkomjplajfjpkaaW.PrintMore
open Go.Maps (Keyed)
set_option linter.unusedVariables false
set_option linter.unusedSimpArgs false
/-- Two caches of the call's own, apart. -/
structure Two (w W : World) (a b : Nat) (Ma Mb : Row) (N : Nat) : Prop where
  ex : ∃ Fa Fb, Ca W a Fa Ma N ∧ Ca W b Fb Mb N ∧ (∀ k, Fa k → w.heap.size ≤ k) ∧ (∀ k, Fb k → w.heap.size ≤ k) ∧ ∀ k, Fa k → ¬ Fb k
  bel : Below w.heap.size w W
section
variable {w W W' : World} {a b : Nat} {Ma Mb : Row} {N : Nat}
theorem Two.swap (h : Two w W a b Ma Mb N) : Two w W b a Mb Ma N := by
  obtain ⟨⟨Fa, Fb, ha, hb, h1, h2, h3⟩, hbel⟩ := h
  exact ⟨⟨Fb, Fa, hb, ha, h2, h1, fun k hk hk' => h3 k hk' hk⟩, hbel⟩
theorem Two.one (h : Two w W a b Ma Mb N) : Own w W a Ma N := by
  obtain ⟨⟨Fa, Fb, ha, hb, h1, h2, h3⟩, hbel⟩ := h
  exact ⟨⟨Fa, ha, h1⟩, hbel⟩
theorem Two.below (h : Two w W a b Ma Mb N) (hb : Below W.heap.size W W') : Two w W' a b Ma Mb N := by
  obtain ⟨⟨Fa, Fb, ha, hc, h1, h2, h3⟩, hbel⟩ := h
  exact ⟨⟨Fa, Fb, ha.below hb, hc.below hb, h1, h2, h3⟩, below_then hbel hbel.size hb⟩
theorem Ca.more {F : Nat → Prop} {c : Nat} {M : Row} {N' : Nat} (h : Ca W c F M N) (hN : N ≤ N') : Ca W c F M N' := by
  obtain ⟨gm, o, v, l, D, hc⟩ := h
  exact ⟨gm, o, v, l, D, ⟨hc.q, hc.own.mono hN, hc.map, hc.kd, hc.hp, hc.pm, hc.ok⟩⟩
theorem Two.more {N' : Nat} (h : Two w W a b Ma Mb N) (hN : N ≤ N') : Two w W a b Ma Mb N' := by
  obtain ⟨⟨Fa, Fb, ha, hc, h1, h2, h3⟩, hbel⟩ := h
  exact ⟨⟨Fa, Fb, ha.more hN, hc.more hN, h1, h2, h3⟩, hbel⟩
theorem Two.new {w' : World} {b : Nat} {F : Nat → Prop} (h : Own w W a Ma N) (hc : Ca w' b F [] 0) (hF : ∀ k, F k → W.heap.size ≤ k) (hb : Below W.heap.size W w') : Two w w' a b Ma [] N := by
  obtain ⟨⟨Fa, ha, h1⟩, hbel⟩ := h
  exact ⟨⟨Fa, F, ha.below hb, hc.more (Nat.zero_le _), h1, fun k hk => Nat.le_trans hbel.size (hF k hk), fun k hk hk' => by have := ha.lt k hk; have := hF k hk'; omega⟩, below_then hbel hbel.size hb⟩
theorem two_put (h : Two w W a b Ma Mb N) (hN : N < 4096) {k : ByteArray} (hk : k.size ≤ maxLen) {t : Int} (h0 : 0 ≤ t) (hw : t < 18446744073709551616) :
    Calls Try.prog 16 #[.pointer (some ⟨a, 0, none⟩), .string k, .int .u64 t] W fun e w' => e = .returned (.tuple #[]) ∧ Two w w' a b (putF Ma k t) Mb (N + 1) := by
  obtain ⟨⟨Fa, Fb, ha, hc, h1, h2, h3⟩, hbel⟩ := h
  refine (put_calls ha hN hk h0 hw).mono ?_
  rintro e w' ⟨rfl, F2, hn⟩
  refine ⟨rfl, ⟨F2, Fb, hn.ca, (hc.apart hn.mv (fun k hk hk' => h3 k hk' hk)).more (Nat.le_succ _), fun j hj => ?_, h2, fun j hj hj' => ?_⟩, hn.mv.below hbel hbel.size h1⟩
  · rcases hn.old j hj with g | g
    · exact h1 j g
    · exact Nat.le_trans hbel.size g
  · rcases hn.old j hj with g | g
    · exact h3 j g hj'
    · have := hc.lt j hj'; omega
theorem two_expire (h : Two w W a b Ma Mb N) (hN : N ≤ 4096) (now : Int) :
    Calls Try.prog 17 #[.pointer (some ⟨a, 0, none⟩), .int .u64 now] W fun e w' => e = .returned (.int .i64 ((Ma.length - (expF Ma now).length : Nat) : Int)) ∧ Two w w' a b (expF Ma now) Mb N := by
  obtain ⟨⟨Fa, Fb, ha, hc, h1, h2, h3⟩, hbel⟩ := h
  refine (expire_calls ha hN now).mono ?_
  rintro e w' ⟨rfl, g1, hm⟩
  exact ⟨rfl, ⟨Fa, Fb, g1, hc.apart hm (fun k hk hk' => h3 k hk' hk), h1, h2, h3⟩, hm.below hbel hbel.size h1⟩
theorem two_next (h : Two w W a b Ma Mb N) {k : ByteArray} {t : Int} {q : Bool} (hn : IsNext Ma k t q) : Calls Try.prog 11 #[.pointer (some ⟨a, 0, none⟩)] W fun e w' => e = .returned (.tuple #[.string k, .int .u64 t, .bool q]) ∧ Two w w' a b Ma Mb N := by
  have h' := h
  obtain ⟨⟨Fa, Fb, ha, hc, h1, h2, h3⟩, hbel⟩ := h
  refine (next_calls ha).mono ?_
  rintro e w' ⟨k', t', b', rfl, g1, g2⟩
  obtain ⟨rfl, rfl, rfl⟩ := g1.one hn
  exact ⟨rfl, h'.below g2⟩
/-- Both tell the same of a key, and of how many there are. -/
theorem two_has {M : Row} (h : Two w W a b M M N) {p : Nat} (hp : p = a ∨ p = b) {k : ByteArray} (hk : k.size ≤ maxLen) (t : Int) : Calls Try.prog 14 #[.pointer (some ⟨p, 0, none⟩), .string k, .int .u64 t] W fun e w' => e = .returned (.bool (hasF M k t)) ∧ w' = W := by
  rcases hp with rfl | rfl
  · exact own_has h.one hk t
  · exact own_has h.swap.one hk t
theorem two_len {M : Row} (h : Two w W a b M M N) {p : Nat} (hp : p = a ∨ p = b) : Calls Try.prog 13 #[.pointer (some ⟨p, 0, none⟩)] W fun e w' => e = .returned (.int .i64 (M.length : Int)) ∧ w' = W := by
  rcases hp with rfl | rfl
  · exact own_len h.one
  · exact own_len h.swap.one
end
theorem exp_exp (M : Row) {s t : Int} (h : s ≤ t) : expF (expF M s) t = expF M t := by
  unfold expF
  rw [List.filter_filter]
  congr 1
  funext p
  by_cases h1 : t < p.2
  · rw [decide_eq_true h1, decide_eq_true (show s < p.2 by omega)]; rfl
  · rw [decide_eq_false h1]; rfl
theorem exp_len (M : Row) (t : Int) : (expF M t).length ≤ M.length := List.length_filter_le _ _
theorem has_exp (M : Row) (k : ByteArray) {s t : Int} (h : s ≤ t) : hasF (expF M t) k s = hasF (expF M t) k t := by
  unfold hasF
  rw [Bool.eq_iff_iff, List.any_eq_true, List.any_eq_true]
  constructor
  · rintro ⟨p, hp, h1⟩
    refine ⟨p, hp, ?_⟩
    have := (List.mem_filter.1 hp).2
    simp only [Bool.and_eq_true, decide_eq_true_eq] at h1 this ⊢
    exact ⟨h1.1, this⟩
  · rintro ⟨p, hp, h1⟩
    refine ⟨p, hp, ?_⟩
    simp only [Bool.and_eq_true, decide_eq_true_eq] at h1 ⊢
    exact ⟨h1.1, by omega⟩
theorem has_pos {M : Row} {k : ByteArray} {t : Int} (h : hasF M k t = true) : 0 < M.length := by
  unfold hasF at h
  obtain ⟨p, hp, _⟩ := List.any_eq_true.1 h
  exact List.length_pos_of_mem hp
theorem is_next (M : Row) {w W : World} {c N : Nat} (h : Own w W c M N) : ∃ k t b, IsNext M k t b := by
  rcases own_is_next h with ⟨_, h⟩ | ⟨k, t, _, h⟩
  · exact ⟨_, _, _, h⟩
  · exact ⟨_, _, _, h⟩
end Go.Proofs.Ytkomjplajfjpkaa.Ext
