/- The length's limit of a log, in plain words. -/
import Derived.Test.YtojagnoobaleaaaDoorFrL
namespace Go.Proofs.YtojagnoobaleaaaDoor.Ext
open Go.RowKit Go.Proofs.YtojagnoobaleaaaDoor.Xp Go.Proofs.YtojagnoobaleaaaDoorW.PrintWords Go.Proofs.YtojagnoobaleaaaDoorW.PrintLast Go.Proofs.YtojagnoobaleaaaDoorW.PrintMore
set_option linter.unusedVariables false
theorem plen3 (b : List Int) (h1 : 16384 ≤ b.length) (h2 : b.length < 2097152) : plen b = 3 := by
  unfold plen
  rw [put_great (by omega), put_great (by omega), put_small (by omega)]; rfl
theorem plen2 (b : List Int) (h1 : 128 ≤ b.length) (h2 : b.length < 16384) : plen b = 2 := by
  unfold plen
  rw [put_great (by omega), put_small (by omega)]; rfl
theorem many_rep (B : List Int) : ∀ k : Nat, (manyE frE (List.replicate k B)).length = k * (frE B).length
  | 0 => by simp [manyE]
  | k + 1 => by rw [List.replicate_succ, manyE_cons, List.length_append, many_rep B k]; rw [Nat.add_mul]; omega
theorem log_rep (B : List Int) (hB : B.length = 20000) : (logE (List.replicate 52 B)).length = 1040368 := by
  unfold logE
  have h := frE_len B
  rw [plen3 B (by omega) (by omega), hB] at h
  rw [List.length_append, many_rep, h]; rfl
theorem rep_V (B : List Int) (hB : bodyV B) (k : Nat) : ∀ b ∈ List.replicate k B, bodyV b := fun b hb => by rw [List.eq_of_mem_replicate hb]; exact hB
theorem logE_snoc (xs : List (List Int)) (b : List Int) : logE (xs ++ [b]) = logE xs ++ frE b := by
  unfold logE; rw [manyE_append, manyE_cons, manyE_nil, List.append_nil, List.append_assoc]
theorem joinL_app : ∀ (xs ys : List (List Int)) (acc : List Int), (∀ b ∈ xs, bodyV b) → (acc ++ manyE frE xs).length ≤ 1048576 → joinL acc (xs ++ ys) = joinL (acc ++ manyE frE xs) ys
  | [], ys, acc, _, _ => by simp [manyE]
  | b :: xs, ys, acc, h, hn => by
    have hb := h b (by simp)
    rw [manyE_cons, ← List.append_assoc] at hn ⊢
    have hl : (acc ++ frE b).length ≤ 1048576 := by rw [List.length_append] at hn; omega
    rw [List.cons_append]
    rw [joinL, if_neg (by have := hb.1; omega), if_neg (by omega)]
    exact joinL_app xs ys (acc ++ frE b) (fun z hz => h z (List.mem_cons_of_mem _ hz)) hn
theorem long_join (B b : List Int) (hB : bodyV B) (hBl : B.length = 20000) (hb : bodyV b) (h : 1048576 < 1040368 + (frE b).length) : joinF (List.replicate 52 B ++ [b]) = ([], 5) := by
  have hl := log_rep B hBl
  unfold joinF
  rw [if_neg (by rw [List.length_append, List.length_replicate, List.length_singleton]; decide), joinL_app _ _ _ (rep_V B hB 52) (by have e : (magic ++ manyE frE (List.replicate 52 B)).length = 1040368 := hl; omega)]
  have e : (magic ++ manyE frE (List.replicate 52 B)) = logE (List.replicate 52 B) := rfl
  rw [e]
  unfold joinL
  rw [if_neg (by have := hb.1; omega), if_pos (by rw [List.length_append, hl]; omega)]
/-- Above the limit: the limit is told, with what is whole ahead of it. -/
theorem long_split (B b : List Int) (hB : bodyV B) (hBl : B.length = 20000) (hb : bodyV b) (h : 1048576 < 1040368 + (frE b).length) : splitF (logE (List.replicate 52 B ++ [b])) = (List.replicate 52 B, 1048576, 5) := by
  have hl := log_rep B hBl
  have hL : (logE (List.replicate 52 B ++ [b])).length = 1040368 + (frE b).length := by rw [logE_snoc, List.length_append, hl]
  have ht : (logE (List.replicate 52 B ++ [b])).take 1048576 = logE (List.replicate 52 B) ++ (frE b).take 8208 := by
    rw [logE_snoc, List.take_append, hl, List.take_of_length_le (by omega)]
  have hfb : Bytes (frE b) := one_codec.bytes b hb
  obtain ⟨j, hj, hm, hk⟩ := many_cut one_codec fr_pos [b] (4096 - 52) 8208 (fun x hx => by rw [List.mem_singleton.1 hx]; exact hb) (by rw [List.length_singleton]; decide) (by rw [manyE_cons, manyE_nil, List.append_nil]; omega)
  rw [manyE_cons, manyE_nil, List.append_nil] at hm
  have hj0 : j = 0 := by
    rcases Nat.lt_or_ge 0 j with h0 | h0
    · have : j = 1 := by rw [List.length_singleton] at hj; omega
      subst this
      rw [show [b].take 1 = [b] from rfl, manyE_cons, manyE_nil, List.append_nil] at hk
      omega
    · omega
  subst hj0
  have e : logF ((logE (List.replicate 52 B ++ [b])).take 1048576) = (List.replicate 52 B, 1048576, 2) := by
    rw [ht, log_append (rep_V B hB 52) (by rw [List.length_replicate]; decide) (hfb.take _), List.length_replicate, hm, hl]
    exact Prod.ext (List.append_nil _) rfl
  unfold splitF
  rw [e, if_pos ⟨by omega, .inr rfl⟩]
theorem fix_wrong (p : Nat) (hp : p < 4) (x : Int) (hx : x ≠ magic.getD p 0) (r : List Int) : fixT magic 3 (magic.set p x ++ r) = ((), (p : Int), 3) := by
  have : p = 0 ∨ p = 1 ∨ p = 2 ∨ p = 3 := by omega
  rcases this with rfl | rfl | rfl | rfl <;> simp [magic] at hx <;> simp [fixT, like, magic, Ne.symm hx] <;> omega
/-- A byte of the beginning that is another is told, at any length. -/
theorem wrong_split (xs : List (List Int)) (p : Nat) (hp : p < 4) (x : Int) (hx : x ≠ magic.getD p 0) : splitF ((logE xs).set p x) = ([], (p : Int), 3) := by
  have e : (logE xs).set p x = magic.set p x ++ manyE frE xs := by unfold logE; rw [List.set_append_left _ _ (by show p < 4; exact hp)]
  have e2 : ((logE xs).set p x).take 1048576 = magic.set p x ++ (manyE frE xs).take 1048572 := by
    rw [e, List.take_append, List.length_set, List.take_of_length_le (by rw [List.length_set]; decide)]; rfl
  have h : logF (((logE xs).set p x).take 1048576) = ([], (p : Int), 3) := by
    rw [e2]
    unfold logF
    rw [fix_wrong p hp x hx, if_neg (show ¬ ((3 : Int) = 0) by decide)]
  unfold splitF
  rw [h, if_neg (fun z => by rcases z.2 with z | z; exact absurd z (show ¬ ((3 : Int) = 0) by decide); exact absurd z (show ¬ ((3 : Int) = 2) by decide))]
end Go.Proofs.YtojagnoobaleaaaDoor.Ext
