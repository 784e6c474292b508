/- A row of bytes that is being written: Put, PutText, and one byte more; what lies beside it stays. -/
import Derived.Test.YtmlhlcdamppbfaaDoorXpx7
import Derived.Test.YtmlhlcdamppbfaaDoorNum
namespace Go.Proofs.YtmlhlcdamppbfaaDoor.Ext
open Go.RowKit Go.Proofs.YtmlhlcdamppbfaaDoor.Xp Go.Proofs.YtmlhlcdamppbfaaDoorW.PrintWords Go.Proofs.YtmlhlcdamppbfaaDoorW.PrintLast Go.Proofs.YtmlhlcdamppbfaaDoorW.PrintMore
set_option linter.unusedVariables false
theorem put_l0 : ∀ (n k : Nat) (x0 : List Int), (put n).length < k → x0.length + (put n).length ≤ 140737488355328 → number_Put.l0 k x0 (n : Int) = some (x0 ++ put n) := by
  intro n
  induction n using Nat.strongRecOn with
  | _ n ih =>
    intro k x0 hk hx
    obtain ⟨k, rfl⟩ : ∃ m, k = m + 1 := ⟨k - 1, by omega⟩
    have hp := put_pos n
    simp only [number_Put.l0]
    by_cases hs : n < 128
    · rw [if_neg (by omega), if_pos (by omega), put_small hs, show ((n : Int) % 256) = n by omega]
    · rw [if_pos (by omega), if_pos (by omega), show ((n : Int) / 128) = ((n / 128 : Nat) : Int) by omega]
      rw [put_great (by omega)] at hk hx
      simp only [List.length_cons] at hk hx
      rw [ih (n / 128) (by omega) k _ (by omega) (by simp; omega), put_great (n := n) (by omega), or128 _ (by omega) (by omega)]
      rw [show ((n : Int) % 256 % 128 + 128) = ((n % 128 + 128 : Nat) : Int) by omega]; simp
theorem put_f (k : Nat) (x0 : List Int) (a : Int) (h0 : 0 ≤ a) (h1 : a < 18446744073709551616) (hk : 10 < k) (hx : x0.length ≤ 140737488355000) : number_Put.f k x0 a = some (x0 ++ put a.toNat) := by
  unfold number_Put.f
  have := put_len10 a.toNat (by omega)
  have h := put_l0 a.toNat k x0 (by omega) (by omega)
  rwa [Int.toNat_of_nonneg h0] at h
theorem putText_f (k : Nat) (s : ByteArray) (hk : 10 < k) (hs : s.size ≤ 1000000) (x0 : List Int) (hx : x0.length ≤ 1000000) : number_PutText.f k x0 s = some (x0 ++ put s.size ++ bytesOf s) := by
  unfold number_PutText.f
  have := put_len10 s.size (by omega)
  rw [u64w _ (by omega) (by omega), put_f k x0 _ (by omega) (by omega) hk (by omega)]
  simp only [Option.bind_some, Int.toNat_natCast]
  rw [if_pos (by rw [List.length_append]; omega)]
/-- A row that is being written: its own block alone is of it. -/
def Buf (base : Nat) (w : World) (v : Value) (l : List Int) : Prop := Kd.R (Kd.int .u8) 5 w base (fun k => some k = v.ownBlock) v l
/-- Blocks of other types stay. -/
def Stays (w w' : World) : Prop := ∀ (g t : Nat) (c : Array Value), t ≠ 5 → w.heap[g]? = some (.cells c t (0, 0)) → w'.heap[g]? = some (.cells c t (0, 0))
theorem Stays.refl (w : World) : Stays w w := fun _ _ _ _ h => h
theorem Stays.trans {w w1 w2 : World} (h : Stays w w1) (k : Stays w1 w2) : Stays w w2 := fun g t c ht hg => k g t c ht (h g t c ht hg)
theorem Stays.below {w w' : World} (h : Below w.heap.size w w') : Stays w w' := fun g t c _ hg => by
  rw [h.block g (Array.getElem?_eq_some_iff.1 hg).1]; exact hg
theorem Stays.alloc (w : World) (o : Obj) : Stays w (w.alloc o) := Stays.below (below_alloc (Below.refl _ _) o)
theorem Stays.drewN (w : World) (n : Nat) : Stays w (w.drewN n) := fun _ _ _ _ h => h
theorem Buf.of {base : Nat} {w : World} {ok : Nat → Prop} {v : Value} {l : List Int} (h : Kd.R (Kd.int .u8) 5 w base ok v l) : Buf base w v l := Kd.R_tight rfl h
theorem Buf.lower {b b' : Nat} {w : World} {v : Value} {l : List Int} (h : Buf b w v l) (hb : b' ≤ b) : Buf b' w v l := Kd.R_lower h hb
theorem Buf.below {base : Nat} {w w' : World} {v : Value} {l : List Int} (h : Buf base w v l) (hb : Below w.heap.size w w') : Buf base w' v l := Kd.R_below h hb
theorem Buf.stays {base : Nat} {w w' : World} {v : Value} {l : List Int} (h : Buf base w v l) (hk : Kept w w' (fun k => some k = v.ownBlock)) : Stays w w' := fun g t c ht hg => by
  rw [hk.2 g (Array.getElem?_eq_some_iff.1 hg).1 (fun e => Kd.R_ne h hg (fun z => ht z.symm) e)]; exact hg
set_option maxHeartbeats 1000000 in
theorem put_w (n : Int) (v : Value) (l : List Int) (w0 w : World) (hB : Below w0.heap.size w0 w) (hR : Buf w0.heap.size w v l) (hl : l.length ≤ 1000000) (h0 : 0 ≤ n) (h1 : n < 18446744073709551616) :
    Calls Tryd.prog 19 #[v, .int .u64 n] w fun e w' => ∃ v', e = .returned v' ∧ Buf w0.heap.size w' v' (l ++ put n.toNat) ∧ Below w0.heap.size w0 w' ∧ Stays w w' := by
  refine (number_Put.calls 20 _ v l n _ w0 w hB hR (put_f 20 l n h0 h1 (by omega) (by omega))).mono ?_
  rintro e w' ⟨v', rfl, hr, hb, hk⟩
  exact ⟨v', rfl, Buf.of hr, hb, Buf.stays hR hk⟩
set_option maxHeartbeats 1000000 in
theorem putText_w (s : ByteArray) (v : Value) (l : List Int) (w0 w : World) (hB : Below w0.heap.size w0 w) (hR : Buf w0.heap.size w v l) (hl : l.length ≤ 1000000) (hs : s.size ≤ 1000000) :
    Calls Tryd.prog 21 #[v, .string s] w fun e w' => ∃ v', e = .returned v' ∧ Buf w0.heap.size w' v' (l ++ put s.size ++ bytesOf s) ∧ Below w0.heap.size w0 w' ∧ Stays w w' := by
  refine (number_PutText.calls 20 _ v l s _ w0 w hB hR (putText_f 20 s (by omega) hs l hl)).mono ?_
  rintro e w' ⟨v', rfl, hr, hb, hk⟩
  exact ⟨v', rfl, Buf.of hr, hb, Buf.stays hR hk⟩
end Go.Proofs.YtmlhlcdamppbfaaDoor.Ext
