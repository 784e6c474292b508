/- What the laws say of puts, in plain words; CacheLater's walk. By hand. -/
import Derived.Test.YtkomjplajfjpkaaShn
namespace Go.Proofs.Ytkomjplajfjpkaa.Ext
open Go.RowKit Go.Proofs.Ytkomjplajfjpkaa.Hea Go.Proofs.YtkomjplajfjpkaaW.PrintWords Go.Proofs.YtkomjplajfjpkaaW.PrintLast Go.Proofs.YtkomjplajfjpkaaW.PrintMore
open Go.Maps (Keyed)
set_option linter.unusedVariables false
set_option linter.unusedSimpArgs false
abbrev Row := List (ByteArray × Int)
def Nd (M : Row) : Prop := (M.map Prod.fst).Nodup
theorem bump_fst (k : ByteArray) (t : Int) (p : ByteArray × Int) : (bump k t p).1 = p.1 := by unfold bump; split <;> rfl
theorem bump_map (M : Row) (k : ByteArray) (t : Int) : (M.map (bump k t)).map Prod.fst = M.map Prod.fst := by
  rw [List.map_map]; exact List.map_congr_left (fun p _ => bump_fst k t p)
theorem mem_fst {M : Row} {k : ByteArray} : k ∈ M.map Prod.fst ↔ ∃ t, (k, t) ∈ M := by
  rw [List.mem_map]
  constructor
  · rintro ⟨⟨x, y⟩, h, rfl⟩; exact ⟨y, h⟩
  · rintro ⟨t, h⟩; exact ⟨_, h, rfl⟩
theorem putF_nd {M : Row} (h : Nd M) (k : ByteArray) (t : Int) : Nd (putF M k t) := by
  by_cases hm : ∃ t0, (k, t0) ∈ M
  · obtain ⟨t0, hm⟩ := hm
    rw [putF_in hm]; unfold Nd; rw [bump_map]; exact h
  · rw [putF_out (fun t0 h => hm ⟨t0, h⟩)]
    unfold Nd
    rw [List.map_append, List.nodup_append]
    refine ⟨h, by simp, fun x hx y hy => ?_⟩
    simp only [List.map_cons, List.map_nil, List.mem_singleton] at hy
    subst hy
    rintro rfl
    exact hm (mem_fst.1 hx)
theorem putF_hit {M : Row} {k : ByteArray} {t0 : Int} (hm : (k, t0) ∈ M) (t : Int) : (k, max t0 t) ∈ putF M k t := by
  rw [putF_in hm]
  exact List.mem_map.2 ⟨_, hm, bump_eq rfl⟩
theorem putF_first {M : Row} {k : ByteArray} (hm : ∀ t0, (k, t0) ∉ M) (t : Int) : (k, t) ∈ putF M k t := by
  rw [putF_out hm]; simp
theorem putF_other {M : Row} {k k' : ByteArray} (hne : k' ≠ k) (t s : Int) : (k', s) ∈ putF M k t ↔ (k', s) ∈ M := by
  by_cases hm : ∃ t0, (k, t0) ∈ M
  · obtain ⟨t0, hm⟩ := hm
    rw [putF_in hm, List.mem_map]
    constructor
    · rintro ⟨⟨x, y⟩, h, he⟩
      have h1 : x = k' := by
        have := bump_fst k t (x, y)
        rw [he] at this
        exact this.symm
      rw [bump_ne (by rw [h1]; exact hne)] at he
      rw [← he]; exact h
    · intro h
      exact ⟨_, h, bump_ne hne⟩
  · rw [putF_out (fun t0 h => hm ⟨t0, h⟩), List.mem_append, List.mem_singleton]
    constructor
    · rintro (h | h)
      · exact h
      · injection h with h1; exact absurd h1 hne
    · exact .inl
theorem wf_u64 {y : Int} (h : (Lit.int .u64 y).wf = true) : 0 ≤ y ∧ y < 18446744073709551616 := by
  have h1 : y ≥ IntKind.min .u64 ∧ y ≤ IntKind.max .u64 := by simpa [Lit.wf] using h
  have e1 : IntKind.min .u64 = 0 := by decide
  have e2 : IntKind.max .u64 = 18446744073709551615 := by decide
  omega
def tm (T : List Int) (i : Nat) : Int := rd T (i : Int)
def ky (K : List ByteArray) (i : Nat) : ByteArray := rdOf ByteArray.empty K (i : Int)
theorem tm_ok {T : List Int} (h : ∀ y ∈ T, (Lit.int .u64 y).wf = true) (i : Nat) : 0 ≤ tm T i ∧ tm T i < 18446744073709551616 := by
  unfold tm rd
  rw [Int.toNat_natCast, List.getD_eq_getElem?_getD]
  by_cases hi : i < T.length
  · rw [List.getElem?_eq_getElem hi]
    exact wf_u64 (h _ (List.getElem_mem hi))
  · rw [List.getElem?_eq_none (by omega)]
    exact ⟨by decide, by decide⟩
theorem ky_ok {K : List ByteArray} (h : ∀ y ∈ K, y.size ≤ maxLen) (i : Nat) : (ky K i).size ≤ maxLen := by
  unfold ky rdOf
  rw [Int.toNat_natCast, List.getD_eq_getElem?_getD]
  by_cases hi : i < K.length
  · rw [List.getElem?_eq_getElem hi]
    exact h _ (List.getElem_mem hi)
  · rw [List.getElem?_eq_none (by omega)]
    decide
theorem half_u64 {t : Int} (h : 0 ≤ t ∧ t < 18446744073709551616) : IntKind.u64.wrap (t.tdiv 2) = t / 2 := by
  rw [IntKind.wrap_u64, Int.tdiv_eq_ediv_of_nonneg h.1]; omega
theorem u64_row {w : World} {A : Option Addr} {T : List Int} (h : Kd.C (Kd.int .u64) w A T.length T) {k : Nat} (hk : k < T.length) : ∃ ad, A = some ad ∧ ∀ V, Below w.heap.size w V → V.cell? (ad.add k) = some (.int .u64 (tm T k)) := by
  obtain ⟨ad, rfl, hx⟩ := Kd.at_int h (k : Int) (by omega) (by omega)
  exact ⟨ad, rfl, fun V hb => pw_cell_below hb (by unfold tm; simpa using hx)⟩
theorem str_row {w : World} {A : Option Addr} {K : List ByteArray} (h : Kd.C Kd.string w A K.length K) {k : Nat} (hk : k < K.length) : ∃ ad, A = some ad ∧ ∀ V, Below w.heap.size w V → V.cell? (ad.add k) = some (.string (ky K k)) := by
  obtain ⟨ad, rfl, hx⟩ := Kd.at_string h (k : Int) (by omega) (by omega)
  exact ⟨ad, rfl, fun V hb => pw_cell_below hb (by unfold ky; simpa using hx)⟩
/-- CacheLater: what has been put in i rounds; the greatest time. -/
def latM (key : ByteArray) (T : List Int) (O : List ByteArray) : Nat → Row
  | 0 => []
  | i + 1 => if i < O.length ∧ ky O i ≠ key then putF (putF (latM key T O i) key (tm T i)) (ky O i) (tm T i / 2) else putF (latM key T O i) key (tm T i)
def mostT (T : List Int) : Nat → Int
  | 0 => 0
  | i + 1 => max (mostT T i) (tm T i)
theorem most_ok {T : List Int} (h : ∀ y ∈ T, (Lit.int .u64 y).wf = true) : ∀ i, 0 ≤ mostT T i ∧ mostT T i < 18446744073709551616
  | 0 => by unfold mostT; omega
  | i + 1 => by
    have h1 := most_ok h i
    have h2 := tm_ok h i
    unfold mostT
    omega
theorem lat_nd (key : ByteArray) (T : List Int) (O : List ByteArray) : ∀ i, Nd (latM key T O i)
  | 0 => List.nodup_nil
  | i + 1 => by
    unfold latM
    split
    · exact putF_nd (putF_nd (lat_nd key T O i) _ _) _ _
    · exact putF_nd (lat_nd key T O i) _ _
theorem lat_in {key : ByteArray} {T : List Int} (hT : ∀ y ∈ T, (Lit.int .u64 y).wf = true) {O : List ByteArray} : ∀ i, (key, mostT T (i + 1)) ∈ latM key T O (i + 1)
  | 0 => by
    have h1 : (key, mostT T 1) ∈ putF [] key (tm T 0) := by
      have := putF_first (M := []) (k := key) (fun t0 h => by simp at h) (tm T 0)
      rw [show mostT T 1 = tm T 0 by unfold mostT mostT; have := tm_ok hT 0; omega]
      exact this
    unfold latM
    split
    · rename_i h
      exact (putF_other (fun e => h.2 e.symm) _ _).2 h1
    · exact h1
  | i + 1 => by
    have h1 := putF_hit (lat_in (key := key) hT (O := O) i) (tm T (i + 1))
    rw [latM, mostT]
    split
    · rename_i h
      exact (putF_other (fun e => h.2 e.symm) _ _).2 h1
    · exact h1
theorem lat_last {key : ByteArray} {T : List Int} (hT : ∀ y ∈ T, (Lit.int .u64 y).wf = true) {O : List ByteArray} {n : Nat} (hn : 0 < n) (t : Int) : hasF (latM key T O n) key t = decide (t < mostT T n) := by
  cases n with
  | zero => omega
  | succ i => exact hasF_in (lat_nd key T O _) (lat_in hT i) t
theorem own_more {w W : World} {c : Nat} {M : Row} {N N' : Nat} (h : Own w W c M N) (hN : N ≤ N') : Own w W c M N' := by
  obtain ⟨⟨F, ⟨gm, o, v, l, D, hc⟩, hF⟩, hb⟩ := h
  exact ⟨⟨F, ⟨gm, o, v, l, D, ⟨hc.q, hc.own.mono hN, hc.map, hc.kd, hc.hp, hc.pm, hc.ok⟩⟩, hF⟩, hb⟩
set_option maxHeartbeats 4000000 in
theorem Later (key : ByteArray) (A1 : Option Addr) (c1 : Nat) (T : List Int) (A2 : Option Addr) (c2 : Nat) (O : List ByteArray) (w : World) (hk : key.size ≤ maxLen) (hC1 : Kd.C (Kd.int .u64) w A1 T.length T) (hC2 : Kd.C Kd.string w A2 O.length O) (hT : ∀ y ∈ T, (Lit.int .u64 y).wf = true) (hO : ∀ y ∈ O, y.size ≤ maxLen) :
    Calls Try.prog 5 #[.string key, .slice A1 T.length c1, .slice A2 O.length c2] w fun e w' => e = .returned (.bool true) ∧ Below w.heap.size w w' := by
  obtain ⟨n, hn⟩ : ∃ n : Nat, n = min T.length 50 := ⟨_, rfl⟩
  have hn1 : n ≤ T.length := by omega
  have hn2 : n ≤ 50 := by omega
  have HN := Aside0.mk hn
  have HT := Aside0.mk hT
  have HO := Aside0.mk hO
  have HC1 := Aside0.mk hC1
  have HC2 := Aside0.mk hC2
  have HK := Aside0.mk hk
  clear hn hT hO hC1 hC2 hk
  go_enter Try.func5, Try.ntmps5
  go_wp2_with (first
    | (go_at_call 8; refine (shown_calls _).mono ?_; rintro e w1 ⟨rfl, hb⟩; have HB1 := Aside0.mk hb; clear hb)
    | (go_at_call 9; refine (new_calls _).mono ?_; rintro e w2 ⟨c, F, rfl, hc, hF, hb⟩; have H0 := Aside0.mk (Own.new (w := w) hc hF hb HB1.out); clear hc hF hb))
  go_loopg [9, 10, 11] n (fun gm v9 v10 v11 wr => ∃ k : Nat, v9 = .int .u64 (mostT T k) ∧ v10 = .int .i64 (k : Int) ∧ v11 = .int .i64 (k : Int) ∧ k + gm = n ∧ Aside0 (Own w wr c (latM key T O k) (2 * k)))
  case atStart => exact ⟨0, rfl, rfl, rfl, by omega, H0⟩
  case round =>
    obtain ⟨k, rfl, rfl, rfl, hk, HR⟩ := hrel
    by_cases hlt : k < n
    · have i0 : (0 : Int) ≤ (k : Int) := by omega
      have i1 : (k : Int) < (T.length : Int) := by omega
      have i2 : (k : Int) < 50 := by omega
      obtain ⟨ad1, rfl, hx1⟩ := u64_row HC1.out (k := k) (by omega)
      have HX1 := Aside0.mk hx1
      replace hx1 := hx1 _ HR.out.bel
      have htm := tm_ok HT.out k
      have hmo := most_ok HT.out k
      have hdv := half_u64 htm
      have HKN : Aside0 (latM key T O (k + 1) = if k < O.length ∧ ky O k ≠ key then putF (putF (latM key T O k) key (tm T k)) (ky O k) (tm T k / 2) else putF (latM key T O k) key (tm T k)) := ⟨rfl⟩
      have HM1 : Aside0 (mostT T (k + 1) = max (mostT T k) (tm T k)) := ⟨rfl⟩
      have HP := Aside0.mk (own_put HR.out (by omega) HK.out htm.1 htm.2)
      generalize tm T k = t0 at *
      generalize mostT T k = m0 at *
      by_cases hO1 : k < O.length
      · have hO1' : (k : Int) < (O.length : Int) := by omega
        obtain ⟨ad2, rfl, hx2⟩ := str_row HC2.out hO1
        have hks := ky_ok HO.out k
        generalize ky O k = S at *
        by_cases hS : S = key
        · have hq : (S.toList == key.toList) = true := by rw [hS]; exact beq_self_eq_true _
          have HX2 := Aside0.mk hx2
          rw [if_neg (fun h => h.2 hS)] at HKN
          clear hx2
          go_wp2_with (first
            | (go_at_call 16; refine HP.out.mono ?_; rintro e w3 ⟨rfl, h3⟩; have hx3 := HX1.out _ h3.bel; have hy3 := HX2.out _ h3.bel; have H3 := Aside0.mk h3; clear h3))
          all_goals
            go_roundg (gk - 1)
            case measure => omega
            case rel =>
              refine ⟨k + 1, ?_, by simp, by simp, by omega, ⟨by rw [HKN.out]; exact own_more H3.out (by omega)⟩⟩
              rw [HM1.out]; congr 1; omega
        · have hq : (S.toList == key.toList) = false := by rw [beq_eq_false_iff_ne]; exact fun h => hS (toList_inj h)
          have HX2 := Aside0.mk hx2
          rw [if_pos ⟨hO1, hS⟩] at HKN
          clear hx2
          go_wp2_with (first
            | (go_at_call 16; refine HP.out.mono ?_; rintro e w3 ⟨rfl, h3⟩; have hx3 := HX1.out _ h3.bel; have hy3 := HX2.out _ h3.bel; have H3 := Aside0.mk h3; clear h3))
          all_goals
            go_region_with (first
              | (go_at_call 16; refine (own_put (H3.out.below (below_drew (Below.refl _ _))) (by omega) hks (by omega) (by omega)).mono ?_; rintro e w4 ⟨rfl, h4⟩; have H4 := Aside0.mk h4; clear h4))
            all_goals
              go_wp2
              go_roundg (gk - 1)
              case measure => omega
              case rel =>
                refine ⟨k + 1, ?_, by simp, by simp, by omega, ⟨by rw [HKN.out]; exact own_more H4.out (by omega)⟩⟩
                rw [HM1.out]; congr 1; omega
      · have hO1' : ¬ (k : Int) < (O.length : Int) := by omega
        rw [if_neg (fun h => hO1 h.1)] at HKN
        go_wp2_with (first
          | (go_at_call 16; refine HP.out.mono ?_; rintro e w3 ⟨rfl, h3⟩; have hx3 := HX1.out _ h3.bel; have H3 := Aside0.mk h3; clear h3))
        all_goals
          go_roundg (gk - 1)
          case measure => omega
          case rel =>
            refine ⟨k + 1, ?_, by simp, by simp, by omega, ⟨by rw [HKN.out]; exact own_more H3.out (by omega)⟩⟩
            rw [HM1.out]; congr 1; omega
    · obtain rfl : k = n := by omega
      have hlt' : ¬ ((k : Int) < (T.length : Int) ∧ (k : Int) < 50) := by have := HN.out; omega
      by_cases h0 : k = 0
      · subst h0
        have hh : hasF (latM key T O 0) key 0 = false := rfl
        have HH := Aside0.mk (own_has HR.out HK.out 0)
        rw [hh] at HH
        have hl : (T.length : Int) = 0 := by omega
        go_wp2_with (first
          | (go_at_call 14; refine HH.out.mono ?_; rintro e w3 ⟨rfl, rfl⟩))
        go_ret
        exact ⟨rfl, HR.out.bel⟩
      · have HH := Aside0.mk (fun t => own_has HR.out HK.out t)
        have hmo := most_ok HT.out k
        have g1 : hasF (latM key T O k) key (mostT T k) = false := by rw [lat_last HT.out (by omega), decide_eq_false]; omega
        have g2 : ¬ mostT T k = 0 → hasF (latM key T O k) key (mostT T k - 1) = true := fun _ => by rw [lat_last HT.out (by omega), decide_eq_true]; omega
        generalize mostT T k = m0 at *
        have HB := Aside0.mk HR.out.bel
        generalize latM key T O k = M at *
        have hk0 : ((k : Int) == 0) = false := by rw [beq_eq_false_iff_ne]; omega
        have hk0' : ¬ (k : Int) = 0 := by omega
        by_cases hm0 : m0 = 0
        · subst hm0
          clear g2
          by_cases hkT : k < T.length
          · have e1 : (k : Int) < (T.length : Int) := by omega
            have e2 : ¬ (k : Int) < 50 := by omega
            go_wp2_with (first
              | (go_at_call 14; refine (HH.out _).mono ?_; rintro e w3 ⟨rfl, rfl⟩))
            go_ret
            exact ⟨rfl, HB.out⟩
          · have e1 : ¬ (k : Int) < (T.length : Int) := by omega
            go_wp2_with (first
              | (go_at_call 14; refine (HH.out _).mono ?_; rintro e w3 ⟨rfl, rfl⟩))
            go_ret
            exact ⟨rfl, HB.out⟩
        · have g2 := g2 hm0
          have hm0' : (m0 == 0) = false := by rw [beq_eq_false_iff_ne]; exact hm0
          by_cases hkT : k < T.length
          · have e1 : (k : Int) < (T.length : Int) := by omega
            have e2 : ¬ (k : Int) < 50 := by omega
            go_wp2_with (first
              | (go_at_call 14; refine (HH.out _).mono ?_; rintro e w3 ⟨rfl, rfl⟩))
            go_ret
            exact ⟨rfl, HB.out⟩
          · have e1 : ¬ (k : Int) < (T.length : Int) := by omega
            go_wp2_with (first
              | (go_at_call 14; refine (HH.out _).mono ?_; rintro e w3 ⟨rfl, rfl⟩))
            go_ret
            exact ⟨rfl, HB.out⟩
end Go.Proofs.Ytkomjplajfjpkaa.Ext
