/- The contract of NumberOrder, by hand. -/
import Derived.Test.YthbhggpajgokcaaSizes
namespace Go.Proofs.Ythbhggpajgokcaa.Ext
open Go.RowKit Go.Proofs.Ythbhggpajgokcaa.Xa Go.Proofs.YthbhggpajgokcaaW.PrintWords Go.Proofs.YthbhggpajgokcaaW.PrintLast Go.Proofs.YthbhggpajgokcaaW.PrintMore
set_option linter.unusedVariables false

/-- Put, behind nothing: a row of its own, with the number's bytes. -/
theorem put_row (n P : Nat) (hP : (put n).length = P) (hn : n < 18446744073709551616) (w : World) :
    Calls Try.prog 15 #[.slice none 0 0, .int .u64 n] w fun e w' => ∃ (A : Option Addr) (c : Nat), e = .returned (.slice A P c) ∧ P ≤ c ∧ Kd.C (Kd.int .u8) w' A P (put n) ∧ Below w.heap.size w w' := by
  subst hP
  refine (number_Put.calls 100 (fun _ => False) (.slice none 0 0) ([] : List Int) n (put n) w w (Below.refl _ _) (Kd.R_nil _ _ _ _ _) ?_).mono ?_
  · have := Pure.put_f 100 [] n (by omega) (by omega) (by omega) (by simp)
    simpa using this
  · rintro e w' ⟨v, rfl, ho, hb, _⟩
    obtain ⟨A, c, rfl, hc, hC⟩ := Kd.R_reads ho
    exact ⟨A, c, rfl, hc, hC, hb⟩
theorem put_drop : ∀ (i m : Nat), i < (put m).length → (put m).drop i = put (m / 128 ^ i)
  | 0, m, _ => by simp
  | i + 1, m, h => by
    by_cases h1 : m < 128
    · rw [put_small h1] at h; simp at h
    · rw [put_great (by omega)] at h ⊢
      rw [List.drop_succ_cons, put_drop i (m / 128) (by simpa using h), Nat.div_div_eq_div_mul, Nat.pow_succ, Nat.mul_comm]
def hd (m : Nat) : Int := if m < 128 then (m : Int) else ((m % 128 + 128 : Nat) : Int)
theorem put_get (i m : Nat) (h : i < (put m).length) : (put m)[i] = hd (m / 128 ^ i) := by
  have e := put_drop i m h
  rw [List.drop_eq_getElem_cons h] at e
  unfold hd
  split
  · rename_i hs; rw [put_small hs] at e; exact (List.cons.inj e).1
  · rename_i hs; rw [put_great (n := m / 128 ^ i) (by omega)] at e; exact (List.cons.inj e).1
theorem put_inj : ∀ (m n : Nat), put m = put n → m = n := by
  intro m
  induction m using Nat.strongRecOn with
  | _ m ih =>
    intro n h
    by_cases hm : m < 128
    · by_cases hn : n < 128
      · rw [put_small hm, put_small hn] at h; have := (List.cons.inj h).1; omega
      · rw [put_small hm, put_great (by omega)] at h; have := (List.cons.inj h).1; omega
    · by_cases hn : n < 128
      · rw [put_small hn, put_great (by omega)] at h; have := (List.cons.inj h).1; omega
      · rw [put_great (by omega), put_great (n := n) (by omega)] at h
        have h1 := (List.cons.inj h).1
        have h2 := ih (m / 128) (by omega) (n / 128) (List.cons.inj h).2
        omega
theorem put_len_lt (m n : Nat) (h : (put m).length < (put n).length) : m < n := by
  rcases Nat.lt_or_ge m n with hh | hh
  · exact hh
  · exfalso
    have hp := put_pos m
    obtain ⟨q, hq⟩ : ∃ q, (put m).length = q + 1 := ⟨(put m).length - 1, by omega⟩
    have hn : 128 ^ (q + 1) ≤ n := by
      rcases Nat.lt_or_ge n (128 ^ (q + 1)) with h1 | h1
      · have := put_len q n h1; omega
      · exact h1
    have := put_len_ge (q + 1) m (by omega)
    omega
/-- At a place behind which all is alike, the bytes tell how the numbers stand. -/
theorem put_cmp (m n i : Nat) (hm : i < (put m).length) (he : (put m).length = (put n).length) (hd_ : (put m).drop (i + 1) = (put n).drop (i + 1)) :
    (hd (m / 128 ^ i) < hd (n / 128 ^ i) ↔ m / 128 ^ i < n / 128 ^ i) ∧ (hd (m / 128 ^ i) = hd (n / 128 ^ i) ↔ m / 128 ^ i = n / 128 ^ i) := by
  have e1 := put_drop i m hm
  have e2 := put_drop i n (by omega)
  rw [List.drop_eq_getElem_cons hm] at e1
  rw [List.drop_eq_getElem_cons (by omega : i < (put n).length), ← hd_] at e2
  generalize m / 128 ^ i = a at *
  generalize n / 128 ^ i = b at *
  generalize (put m)[i] = x1 at *
  generalize (put n)[i]'(by omega) = x2 at *
  generalize (put m).drop (i + 1) = t at *
  clear hd_ hm he
  unfold hd
  by_cases ha : a < 128
  · rw [put_small ha] at e1
    have t := (List.cons.inj e1).2
    subst t
    by_cases hb : b < 128
    · rw [if_pos ha, if_pos hb]; omega
    · rw [put_great (n := b) (by omega)] at e2
      have := (List.cons.inj e2).2
      have := put_pos (b / 128)
      simp_all
  · rw [put_great (n := a) (by omega)] at e1
    have t := (List.cons.inj e1).2
    subst t
    by_cases hb : b < 128
    · rw [put_small hb] at e2
      have := (List.cons.inj e2).2
      have := put_pos (a / 128)
      simp_all
    · rw [put_great (n := b) (by omega)] at e2
      have := put_inj _ _ (List.cons.inj e2).2
      rw [if_neg ha, if_neg hb]; omega
theorem div_lt_div (m n i : Nat) (h : m / 128 ^ i < n / 128 ^ i) : m < n := by
  rcases Nat.lt_or_ge m n with hh | hh
  · exact hh
  · have := Nat.div_le_div_right (c := 128 ^ i) hh; omega
theorem str_inj (a b : List Int) (ha : Bytes a) (hb : Bytes b) (h : strOfNums a = strOfNums b) : a = b := by
  have h1 := congrArg (fun s : ByteArray => s.data.toList) h
  simp only [strOfNums] at h1
  induction a generalizing b with
  | nil => cases b <;> simp_all
  | cons x a ih =>
    cases b with
    | nil => simp at h1
    | cons y b =>
      simp only [List.map_cons, List.cons.injEq] at h1
      have hx := ha x (by simp)
      have hy := hb y (by simp)
      have e1 := congrArg UInt8.toNat h1.1
      rw [UInt8.toNat_ofNat', UInt8.toNat_ofNat'] at e1
      have : x = y := by omega
      subst this
      congr 1
      exact ih b (fun z hz => ha z (by simp [hz])) (fun z hz => hb z (by simp [hz])) (by apply ByteArray.ext; apply Array.ext'; simpa [strOfNums] using h1.2) (by simpa [strOfNums] using h1.2)
theorem str_same (m n : Nat) : ((strOfNums (put m)).toList == (strOfNums (put n)).toList) = decide (m = n) := by
  by_cases h : m = n
  · subst h; simp
  · rw [decide_eq_false h, beq_eq_false_iff_ne]
    intro he
    rw [ByteArray.toList_eq, ByteArray.toList_eq] at he
    exact h (put_inj _ _ (str_inj _ _ (put_bytes m) (put_bytes n) (by apply ByteArray.ext; apply Array.ext'; exact he)))
theorem int_same (m n : Nat) : ((m : Int) == (n : Int)) = decide (m = n) := by
  by_cases h : m = n
  · subst h; simp
  · rw [decide_eq_false h, beq_eq_false_iff_ne]; omega
set_option maxHeartbeats 8000000 in
set_option maxRecDepth 100000 in
theorem order_ne (m n : Nat) (hm : m < 18446744073709551616) (hn : n < 18446744073709551616) (hpq : (put m).length ≠ (put n).length) (w : World) :
    Calls Try.prog 6 #[.int .u64 m, .int .u64 n] w fun e w' => e = .returned (.bool true) ∧ Below w.heap.size w w' := by
  have HB0 := Aside0.mk (Below.refl w.heap.size w)
  obtain ⟨P, hP⟩ : ∃ P, (put m).length = P := ⟨_, rfl⟩
  obtain ⟨Q, hQ⟩ : ∃ Q, (put n).length = Q := ⟨_, rfl⟩
  have hP0 : ((P : Int) == 0) = false := by have := put_pos m; simp; omega
  have hQ0 : ((Q : Int) == 0) = false := by have := put_pos n; simp; omega
  have hE : ((P : Int) == (Q : Int)) = false := by rw [hP, hQ] at hpq; simp; omega
  have hlt : decide (P < Q) = decide (m < n) := by
    by_cases h : m < n
    · have : P < Q := by
        rcases Nat.lt_or_ge P Q with h1 | h1
        · exact h1
        · have := put_len_lt n m (by omega); omega
      simp [h, this]
    · have : ¬ P < Q := fun h1 => h (put_len_lt m n (by omega))
      simp [h, this]
  have hS := str_same m n
  have hI := int_same m n
  clear hpq
  go_enter Try.func6, Try.ntmps6
  go_wp2_with (fail)
  refine (transeptlaw01_shown.calls 20 true _ Pure.shown20).mono ?_
  rintro e w1 ⟨rfl, hb⟩
  have HB1 := Aside0.mk hb
  clear hb HB0
  go_wp2_with (fail)
  refine (put_row m P hP hm _).mono ?_
  rintro e w2 ⟨A1, c1, rfl, hc1, hC1, hb⟩
  have HB2 := Aside0.mk (below_step HB1.out hb)
  have HC1 := Aside0.mk hC1
  clear hb HB1 hC1
  go_wp2_with (fail)
  refine (put_row n Q hQ hn _).mono ?_
  rintro e w3 ⟨A2, c2, rfl, hc2, hC2, hb⟩
  have HB3 := Aside0.mk (below_step HB2.out hb)
  have HC2 := Aside0.mk hC2
  have HC3 := Aside0.mk (Kd.C_below HC1.out hb)
  have hcv3 := Kd.C_string (P := Try.prog) (A := A1) (c := c1) Try.underlying22 Try.underlying5 Try.underlying9 HC3.out
  have hcv4 := Kd.C_string (P := Try.prog) (A := A2) (c := c2) Try.underlying22 Try.underlying5 Try.underlying9 HC2.out
  clear hb HB2 hC2 HC1 hP hQ
  go_wp2_with (fail)
  go_ret
  exact ⟨by simp, HB3.out⟩
set_option maxHeartbeats 8000000 in
set_option maxRecDepth 100000 in
theorem order_eq (m n : Nat) (hm : m < 18446744073709551616) (hn : n < 18446744073709551616) (hpq : (put m).length = (put n).length) (w : World) :
    Calls Try.prog 6 #[.int .u64 m, .int .u64 n] w fun e w' => e = .returned (.bool true) ∧ Below w.heap.size w w' := by
  have HB0 := Aside0.mk (Below.refl w.heap.size w)
  obtain ⟨P, hP⟩ : ∃ P, (put m).length = P := ⟨_, rfl⟩
  have hQ := hpq.symm.trans hP
  have hP0 : ((P : Int) == 0) = false := by have := put_pos m; simp; omega
  have hP1 : 0 < P := by have := put_pos m; omega
  have hP2 : P ≤ 10 := by have := put_len10 m hm; omega
  have hS := str_same m n
  have hI := int_same m n
  go_enter Try.func6, Try.ntmps6
  go_wp2_with (fail)
  refine (transeptlaw01_shown.calls 20 true _ Pure.shown20).mono ?_
  rintro e w1 ⟨rfl, hb⟩
  have HB1 := Aside0.mk hb
  clear hb HB0
  go_wp2_with (fail)
  refine (put_row m P hP hm _).mono ?_
  rintro e w2 ⟨A1, c1, rfl, hc1, hC1, hb⟩
  have HB2 := Aside0.mk (below_step HB1.out hb)
  have HC1 := Aside0.mk hC1
  clear hb HB1 hC1
  go_wp2_with (fail)
  refine (put_row n P hQ hn _).mono ?_
  rintro e w3 ⟨A2, c2, rfl, hc2, hC2, hb⟩
  have HB3 := Aside0.mk (below_step HB2.out hb)
  have HC2 := Aside0.mk hC2
  have HC3 := Aside0.mk (Kd.C_below HC1.out hb)
  have hcv3 := fun (d : Nat) => Kd.C_string (P := Try.prog) (A := A1) (c := c1) Try.underlying22 Try.underlying5 Try.underlying9 (Kd.C_drewN HC3.out d)
  have hcv4 := fun (d : Nat) => Kd.C_string (P := Try.prog) (A := A2) (c := c2) Try.underlying22 Try.underlying5 Try.underlying9 (Kd.C_drewN HC2.out d)
  have HPQ := Aside0.mk hpq
  have HP := Aside0.mk hP
  clear hb HB2 hC2 HC1 hP hQ hpq
  go_wp2_with (fail)
  go_loopg [9] (P - 1) (fun k v9 w' => v9 = .int .i64 (k : Int) ∧ k < P ∧ Aside0 ((put m).drop (k + 1) = (put n).drop (k + 1)) ∧ ∃ d, w' = w3.drewN d)
  case atStart => exact ⟨congrArg (Value.int .i64) (by omega), by omega, ⟨by rw [List.drop_eq_nil_of_le (by have := HP.out; omega), List.drop_eq_nil_of_le (by have := HP.out; have := HPQ.out; omega)]⟩, 0, rfl⟩
  case round =>
    obtain ⟨rfl, hk, hD, d, rfl⟩ := hrel
    obtain ⟨ad1, rfl, hx0⟩ := Kd.at_int HC3.out gk (by omega) (by omega)
    obtain ⟨ad2, rfl, hy0⟩ := Kd.at_int HC2.out gk (by omega) (by omega)
    have hpc := put_cmp m n gk (by have := HP.out; omega) HPQ.out hD.out
    have hxe : rd (put m) gk = hd (m / 128 ^ gk) := by
      unfold rd
      rw [Int.toNat_natCast, List.getD_eq_getElem?_getD, List.getElem?_eq_getElem (by have := HP.out; omega), Option.getD_some, put_get]
    have hye : rd (put n) gk = hd (n / 128 ^ gk) := by
      unfold rd
      rw [Int.toNat_natCast, List.getD_eq_getElem?_getD, List.getElem?_eq_getElem (by have := HP.out; have := HPQ.out; omega), Option.getD_some, put_get]
    rw [← hxe, ← hye] at hpc
    rw [Int.toNat_natCast] at hx0 hy0
    have hxg : rd (put m) gk = (put m)[gk]'(by have := HP.out; omega) := by rw [hxe, put_get]
    have hyg : rd (put n) gk = (put n)[gk]'(by have := HP.out; have := HPQ.out; omega) := by rw [hye, put_get]
    have hstep := Aside0.mk (show rd (put m) gk = rd (put n) gk → (put m).drop gk = (put n).drop gk by
      intro h
      rw [List.drop_eq_getElem_cons (by have := HP.out; omega), List.drop_eq_getElem_cons (by have := HP.out; have := HPQ.out; omega : gk < (put n).length), hD.out, ← hxg, ← hyg, h])
    clear hxe hye hxg hyg hD
    obtain ⟨x, hx⟩ : ∃ x, rd (put m) gk = x := ⟨_, rfl⟩
    obtain ⟨y, hy⟩ : ∃ y, rd (put n) gk = y := ⟨_, rfl⟩
    rw [hx, hy] at hstep hpc
    rw [hx] at hx0
    rw [hy] at hy0
    clear hx hy
    have Hpc := Aside0.mk hpc
    clear hpc
    by_cases h0 : gk = 0
    · have hlt : decide (x < y) = decide (m < n) := by
        have h1 := Hpc.out.1
        rw [h0] at h1
        simp only [Nat.pow_zero, Nat.div_one] at h1
        simp [h1]
      have hg0 : ¬ 0 < gk := by omega
      clear hstep Hpc h0
      go_wp2_with (fail)
      go_quiet (fail)
      rw [World.drewN_drewN]
      go_wp2_with (fail)
      go_quiet (fail)
      rw [World.drewN_drewN]
      go_wp2_with (fail)
      go_ret
      exact ⟨by simp, pw_below_drewN HB3.out _⟩
    · by_cases hxy : x = y
      · subst hxy
        have hs := Aside0.mk (hstep.out rfl)
        have hg0 : 0 < gk := by omega
        clear hstep Hpc h0
        go_wp2_with (fail)
        go_quiet (fail)
        rw [World.drewN_drewN]
        go_wp2_with (fail)
        go_roundg (gk - 1)
        case measure => omega
        case rel =>
          refine ⟨congrArg (Value.int .i64) (by omega), by omega, ⟨?_⟩, _, rfl⟩
          rw [show gk - 1 + 1 = gk by omega]; exact hs.out
      · have hlt : decide (x < y) = decide (m < n) := by
          have h1 := Hpc.out
          have h2 : m / 128 ^ gk < n / 128 ^ gk → m < n := div_lt_div m n gk
          have h3 : n / 128 ^ gk < m / 128 ^ gk → n < m := div_lt_div n m gk
          by_cases h : x < y
          · have := h2 (h1.1.1 h); simp [h, this]
          · have : ¬ m < n := by
              have a1 : ¬ m / 128 ^ gk < n / 128 ^ gk := fun z => h (h1.1.2 z)
              have a2 : m / 128 ^ gk ≠ n / 128 ^ gk := fun z => hxy (h1.2.2 z)
              have := h3 (by omega)
              omega
            simp [h, this]
        have hg0 : 0 < gk := by omega
        have hxy0 : (x == y) = false := by simp [hxy]
        clear hstep Hpc h0
        go_wp2_with (fail)
        go_quiet (fail)
        rw [World.drewN_drewN]
        go_wp2_with (fail)
        go_quiet (fail)
        rw [World.drewN_drewN]
        go_wp2_with (fail)
        go_ret
        exact ⟨by simp, pw_below_drewN HB3.out _⟩
end Go.Proofs.Ythbhggpajgokcaa.Ext
namespace Go.Proofs.Ythbhggpajgokcaa.Xa
open Go.RowKit Go.Proofs.Ythbhggpajgokcaa.Ext Go.Proofs.YthbhggpajgokcaaW.PrintWords Go.Proofs.YthbhggpajgokcaaW.PrintLast
def transeptlaw01_NumberOrder.Pure : Prop := True
theorem transeptlaw01_NumberOrder.walk (_ : transeptlaw01_NumberOrder.Pure) (a0 a1 : Int) (w : World) (w0 : (Lit.int .u64 a0).wf = true) (w1 : (Lit.int .u64 a1).wf = true) :
    Calls Try.prog 6 #[.int .u64 a0, .int .u64 a1] w fun e w' => e = .returned (.bool true) ∧ Below w.heap.size w w' := by
  obtain ⟨a, b⟩ := u64_bounds w0
  obtain ⟨c, d⟩ := u64_bounds w1
  obtain ⟨m, rfl⟩ := Int.eq_ofNat_of_zero_le a
  obtain ⟨n, rfl⟩ := Int.eq_ofNat_of_zero_le c
  by_cases h : (put m).length = (put n).length
  · exact order_eq m n (by omega) (by omega) h w
  · exact order_ne m n (by omega) (by omega) h w
end Go.Proofs.Ythbhggpajgokcaa.Xa
