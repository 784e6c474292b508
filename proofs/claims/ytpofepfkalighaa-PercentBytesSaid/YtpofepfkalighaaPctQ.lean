/- What is encoded, and decoded again, in plain words. -/
import Derived.Test.YtpofepfkalighaaPct
namespace Go.Proofs.Ytpofepfkalighaa.Pure
open Go.RowKit Go.Proofs.Ytpofepfkalighaa.Xa Go.Proofs.Ytpofepfkalighaa.Ext Go.Proofs.YtpofepfkalighaaW.PrintWords Go.Proofs.YtpofepfkalighaaW.PrintLast

/-- A statement on every byte. -/
theorem bytes_all {p : UInt8 → Prop} (h : ∀ k : Fin 256, p (UInt8.ofNat k.val)) (c : UInt8) : p c := by
  have := h ⟨c.toNat, c.toNat_lt⟩
  simpa using this
theorem sets_cases {p : Int → Prop} (h : ∀ k : Fin 5, p ((k.val : Int) + 1)) (n : Int) (h0 : 1 ≤ n) (h1 : n ≤ 5) : p n := by
  have := h ⟨(n - 1).toNat, by omega⟩
  simp only at this
  rwa [Int.toNat_of_nonneg (by omega), show n - 1 + 1 = n by omega] at this
theorem inSet_out (n c : Int) (h : n < 1 ∨ 5 < n) : inSet n c = false := by
  unfold inSet; rw [if_neg (by omega), if_neg (by omega), if_neg (by omega), if_neg (by omega), if_neg (by omega)]
theorem enc_not_in : ∀ (k : Fin 5) (j : Fin 256), (enc1 ((k.val : Int) + 1) (UInt8.ofNat j.val)).all (fun x => !inSet ((k.val : Int) + 1) x.toNat) = true := by decide +kernel
theorem enc1_clean (n : Int) (h0 : 1 ≤ n) (h1 : n ≤ 5) (c : UInt8) : ∀ x ∈ enc1 n c, inSet n x.toNat = false := by
  have h := sets_cases (p := fun n => ∀ c : UInt8, (enc1 n c).all (fun x => !inSet n x.toNat) = true) (fun k => bytes_all (fun j => enc_not_in k j)) n h0 h1 c
  intro x hx
  have := List.all_eq_true.1 h x hx
  simpa using this
theorem encL_clean (n : Int) (h0 : 1 ≤ n) (h1 : n ≤ 5) : ∀ (l : List UInt8), ∀ x ∈ encL n l, inSet n x.toNat = false
  | [], x, hx => by simp [encL] at hx
  | c :: l, x, hx => by
    rw [encL_cons, List.mem_append] at hx
    exact hx.elim (enc1_clean n h0 h1 c x) (encL_clean n h0 h1 l x)
theorem encL_id (n : Int) : ∀ (l : List UInt8), (∀ x ∈ l, inSet n x.toNat = false) → encL n l = l
  | [], _ => rfl
  | c :: l, h => by
    rw [encL_cons, enc1_false n c (h c (by simp)), encL_id n l (fun x hx => h x (by simp [hx]))]; rfl
/-- Digits, and the sign, are in no set; what is in a set is another byte than the sign, and comes back out of its digits. -/
theorem digit_out : ∀ (k : Fin 5) (j : Fin 256), (decide (0 ≤ val ((UInt8.ofNat j.val).toNat : Int)) || decide (j.val = 37)) = true → inSet ((k.val : Int) + 1) ((UInt8.ofNat j.val).toNat : Int) = false := by decide +kernel
theorem in_no_set (n : Int) (c : UInt8) (h : 0 ≤ val (c.toNat : Int) ∨ c = 37) : inSet n c.toNat = false := by
  by_cases hn : n < 1 ∨ 5 < n
  · exact inSet_out n _ hn
  · have hh : ∀ c : UInt8, (decide (0 ≤ val (c.toNat : Int)) || decide (c = 37)) = true → inSet n c.toNat = false := by
      refine sets_cases (p := fun n => ∀ c : UInt8, (decide (0 ≤ val (c.toNat : Int)) || decide (c = 37)) = true → inSet n c.toNat = false) (fun k => bytes_all (fun j hj => digit_out k j ?_)) n (by omega) (by omega)
      have e : (decide (UInt8.ofNat j.val = 37)) = decide (j.val = 37) := by
        have := j.isLt
        rw [decide_eq_decide, ← UInt8.toNat_inj, UInt8.toNat_ofNat']
        show j.val % 256 = 37 ↔ j.val = 37
        omega
      rw [← e]; exact hj
    exact hh c (by simpa using h)
theorem hex_back : ∀ j : Fin 256, val ((hex (((UInt8.ofNat j.val).toNat : Int) / 16)).toNat.toUInt8.toNat : Int) = ((UInt8.ofNat j.val).toNat : Int) / 16 ∧ val ((hex (((UInt8.ofNat j.val).toNat : Int) % 16)).toNat.toUInt8.toNat : Int) = ((UInt8.ofNat j.val).toNat : Int) % 16 := by decide +kernel
theorem hex_val (c : UInt8) : val ((hex ((c.toNat : Int) / 16)).toNat.toUInt8.toNat : Int) = (c.toNat : Int) / 16 ∧ val ((hex ((c.toNat : Int) % 16)).toNat.toUInt8.toNat : Int) = (c.toNat : Int) % 16 :=
  bytes_all (p := fun c => val ((hex ((c.toNat : Int) / 16)).toNat.toUInt8.toNat : Int) = (c.toNat : Int) / 16 ∧ val ((hex ((c.toNat : Int) % 16)).toNat.toUInt8.toNat : Int) = (c.toNat : Int) % 16) hex_back c
theorem val_sign : val (37 : UInt8).toNat < 0 := by decide +kernel
/-- Two digits at the head. -/
def two (l : List UInt8) : Option (UInt8 × List UInt8) :=
  match l with
  | a :: b :: r => if 0 ≤ val a.toNat ∧ 0 ≤ val b.toNat then some ((val a.toNat * 16 + val b.toNat).toNat.toUInt8, r) else none
  | _ => none
theorem decL_eq (c : UInt8) (l : List UInt8) : decL (c :: l) = if c = 37 then (match two l with | some (x, r) => x :: decL r | none => c :: decL l) else c :: decL l := by
  match l with
  | [] => simp [decL, two]
  | [a] => simp [decL, two]
  | a :: b :: r =>
    rw [decL, two]
    by_cases hc : c = 37
    · by_cases h : 0 ≤ val a.toNat ∧ 0 ≤ val b.toNat
      · rw [if_pos ⟨hc, h⟩, if_pos hc, if_pos h]
      · rw [if_neg (fun z => h z.2), if_pos hc, if_neg h]
    · rw [if_neg (fun z => hc z.1), if_neg hc]
theorem two_len {l r : List UInt8} {x : UInt8} (h : two l = some (x, r)) : r.length < l.length := by
  match l with
  | [] => simp [two] at h
  | [a] => simp [two] at h
  | a :: b :: q =>
    rw [two] at h
    split at h
    · simp at h; obtain ⟨_, rfl⟩ := h; simp only [List.length_cons]; omega
    · simp at h
/-- Two digits are there before, just if they are there behind. -/
theorem two_enc (n : Int) (l : List UInt8) : two (encL n l) = (two l).map (fun p => (p.1, encL n p.2)) := by
  have sign : ∀ r : List UInt8, two (37 :: r) = none := by
    intro r
    match r with
    | [] => rfl
    | b :: q => rw [two, if_neg (fun h => by have := val_sign; omega)]
  have sign2 : ∀ (a : UInt8) (r : List UInt8), two (a :: 37 :: r) = none := by
    intro a r
    rw [two, if_neg (fun h => by have := val_sign; omega)]
  match l with
  | [] => rfl
  | a :: r =>
    rw [encL_cons]
    cases ha : inSet n a.toNat with
    | true =>
      rw [enc1_true n a ha]
      have hv : ¬ 0 ≤ val (a.toNat : Int) := fun h => by rw [in_no_set n a (.inl h)] at ha; cases ha
      rw [List.cons_append, sign]
      match r with
      | [] => rfl
      | b :: q => rw [two, if_neg (fun h => hv h.1)]; rfl
    | false =>
      rw [enc1_false n a ha]
      match r with
      | [] => rfl
      | b :: q =>
        rw [encL_cons]
        cases hb : inSet n b.toNat with
        | true =>
          rw [enc1_true n b hb]
          have hv : ¬ 0 ≤ val (b.toNat : Int) := fun h => by rw [in_no_set n b (.inl h)] at hb; cases hb
          rw [two, if_neg (fun h => hv h.2)]
          exact sign2 a _
        | false =>
          rw [enc1_false n b hb]
          show two (a :: b :: encL n q) = _
          rw [two, two]
          split <;> rfl
theorem dec_enc (n : Int) : ∀ (d : Nat) (l : List UInt8), l.length ≤ d → decL (encL n l) = decL l
  | _, [], _ => rfl
  | 0, c :: l, h => by simp at h
  | d + 1, c :: l, h => by
    simp only [List.length_cons] at h
    rw [encL_cons, decL_eq c l]
    cases hc : inSet n c.toNat with
    | true =>
      have h37 : c ≠ 37 := fun z => by rw [in_no_set n c (.inr z)] at hc; cases hc
      obtain ⟨v1, v2⟩ := hex_val c
      rw [enc1_true n c hc, if_neg h37]
      show decL (37 :: _ :: _ :: encL n l) = _
      rw [decL, if_pos ⟨rfl, by rw [v1]; omega, by rw [v2]; omega⟩, v1, v2, dec_enc n d l (by omega)]
      congr 1
      rw [show (c.toNat : Int) / 16 * 16 + (c.toNat : Int) % 16 = c.toNat by omega]
      simp
    | false =>
      rw [enc1_false n c hc]
      show decL (c :: encL n l) = _
      rw [decL_eq, two_enc]
      by_cases h37 : c = 37
      · rw [if_pos h37, if_pos h37]
        cases ht : two l with
        | none => show c :: decL (encL n l) = c :: decL l; rw [dec_enc n d l (by omega)]
        | some p =>
          obtain ⟨x, r⟩ := p
          have := two_len ht
          show x :: decL (encL n r) = x :: decL r
          rw [dec_enc n d r (by omega)]
      · rw [if_neg h37, if_neg h37, dec_enc n d l (by omega)]
end Go.Proofs.Ytpofepfkalighaa.Pure
