/- The limits of a log, in plain words. -/
import Derived.Test.YtojagnoobaleaaaDoorFrU
namespace Go.Proofs.YtojagnoobaleaaaDoor.Ext
open Go.RowKit Go.Proofs.YtojagnoobaleaaaDoor.Xp Go.Proofs.YtojagnoobaleaaaDoorW.PrintWords Go.Proofs.YtojagnoobaleaaaDoorW.PrintLast Go.Proofs.YtojagnoobaleaaaDoorW.PrintMore
set_option linter.unusedVariables false
theorem frE_nil : frE [] = [0, 0, 0, 0, 0] := by
  unfold frE
  rw [show put ([] : List Int).length = [0] from put_small (by decide)]
  rfl
theorem many_nils : ∀ n : Nat, manyE frE (List.replicate n []) = List.replicate (5 * n) 0
  | 0 => rfl
  | n + 1 => by
    rw [List.replicate_succ, manyE_cons, frE_nil, many_nils n, show 5 * (n + 1) = 5 + 5 * n by omega, ← List.replicate_append_replicate]; rfl
theorem log_nils (n : Nat) : logE (List.replicate n []) = magic ++ List.replicate (5 * n) 0 := by unfold logE; rw [many_nils]
theorem nils_V (n : Nat) : ∀ b ∈ List.replicate n ([] : List Int), bodyV b := fun b hb => by
  rw [List.eq_of_mem_replicate hb]
  exact ⟨by simp, Bytes.nil⟩
theorem zeros_bytes (n : Nat) : Bytes (List.replicate n 0) := fun x hx => by rw [List.eq_of_mem_replicate hx]; decide
theorem nils_len (n : Nat) : (logE (List.replicate n [])).length = 4 + 5 * n := by rw [log_nils, List.length_append, List.length_replicate]; rfl
/-- So many empty bodies: all, up to the limit; behind it the limit is told. -/
theorem nils_split (n : Nat) (hn : n ≤ 4096) : splitF (magic ++ List.replicate (5 * n) 0) = (List.replicate n [], ((4 + 5 * n : Nat) : Int), 0) := by
  have hl := nils_len n
  rw [← log_nils, split_small (by omega), log_full (nils_V n) (by rw [List.length_replicate]; exact hn), hl]
theorem nils_over (n : Nat) (h1 : 4096 < n) (h2 : n ≤ 100000) : splitF (magic ++ List.replicate (5 * n) 0) = (List.replicate 4096 [], 20484, 5) := by
  have hs : (magic ++ List.replicate (5 * n) (0 : Int)).length = 4 + 5 * n := by rw [List.length_append, List.length_replicate]; rfl
  have hl := nils_len 4096
  have e : magic ++ List.replicate (5 * n) (0 : Int) = logE (List.replicate 4096 []) ++ List.replicate (5 * (n - 4096)) 0 := by
    rw [log_nils, List.append_assoc, List.replicate_append_replicate, show 5 * 4096 + 5 * (n - 4096) = 5 * n by omega]
  rw [split_small (by omega), e, log_append (nils_V 4096) (by rw [List.length_replicate]; exact Nat.le_refl _) (zeros_bytes _), List.length_replicate, Nat.sub_self, many_zero (fun z => by have := congrArg List.length z; rw [List.length_replicate, List.length_nil] at this; omega), hl]
  exact Prod.ext (List.append_nil _) rfl
theorem logE_one (b : List Int) : logE [b] = magic ++ (put b.length ++ (b ++ four b)) := by unfold logE; rw [manyE_cons, manyE_nil, List.append_nil]; rfl
/-- A body above the limit. -/
theorem one_over (b : List Int) (hb : Bytes b) (h1 : 20000 < b.length) (h2 : b.length ≤ 20004) : splitF (logE [b]) = ([], 6, 5) := by
  have hp : (put b.length).length = 3 := by rw [put_great (by omega), put_great (by omega), put_small (by omega)]; rfl
  have hlen : (logE [b]).length = 4 + (3 + (b.length + 4)) := by rw [logE_one, List.length_append, List.length_append, List.length_append, four_len, hp]; rfl
  have hr : Bytes (b ++ four b) := hb.append (four_bytes b)
  have hr2 : Bytes (put b.length ++ (b ++ four b)) := (put_bytes _).append hr
  have hlt := lenT_at b.length (b ++ four b) (by omega) hr
  rw [if_pos (by omega), hp] at hlt
  have h1t : (oneT (put b.length ++ (b ++ four b))).2 = (2, 5) := by
    unfold oneT seqT
    rw [hlt]; rfl
  rw [split_small (by omega), logE_one, log_at _ hr2, many_bad 4095 (fun z => by have := congrArg List.length z; rw [List.length_append, hp, List.length_nil] at this; omega) (by rw [h1t]; decide), h1t]
  rfl
theorem magic_S : (⟨#[84, 82, 78, 49]⟩ : ByteArray) = strOfNums magic := magic_str
/-- What the law's first half sees. -/
theorem nils_facts (k : Nat) (hk : k ≤ 4100) : (∃ J e, joinF (List.replicate k []) = (J, e) ∧ (k ≤ 4096 → e = 0) ∧ (4096 < k → e = 5)) ∧
    ∃ M at_ e, splitF (magic ++ List.replicate (5 * k) 0) = (M, at_, e) ∧ (k ≤ 4096 → M.length = k ∧ at_ = ((4 + 5 * k : Nat) : Int) ∧ e = 0) ∧ (4096 < k → M.length = 4096 ∧ at_ = 20484 ∧ e = 5) := by
  have hl := nils_len k
  by_cases h : k ≤ 4096
  · refine ⟨⟨_, _, join_ok (nils_V k) (by rw [List.length_replicate]; exact h) (by omega), fun _ => rfl, fun h2 => by omega⟩, _, _, _, nils_split k h, fun _ => ⟨List.length_replicate .., rfl, rfl⟩, fun h2 => by omega⟩
  · refine ⟨⟨[], 5, ?_, fun h2 => by omega, fun _ => rfl⟩, _, _, _, nils_over k (by omega) (by omega), fun h2 => by omega, fun _ => ⟨List.length_replicate .., rfl, rfl⟩⟩
    unfold joinF
    rw [if_pos (by rw [List.length_replicate]; omega)]
theorem one_ref (b : List Int) (hb : Bytes b) (h2 : b.length ≤ 20004) : transeptref04_Join.f 210000 [strOfNums b] = some (strOfNums (logE [b])) := by
  have hfl := frE_len b
  have hpl : plen b ≤ 10 := put_len10 _ (by omega)
  have hm : magic.length = 4 := rfl
  have hF := ref_frame b hb (by omega) 209999 (by omega)
  have e : strOfNums (logE [b]) = strOfNums magic ++ strOfNums (frE b) := by rw [← strOf_append]; unfold logE; rw [manyE_cons, manyE_nil, List.append_nil]
  unfold transeptref04_Join.f
  rw [magic_S, transeptref04_Join.l0, if_pos (by rw [List.length_singleton]; decide), if_pos (by decide), show rdOf ByteArray.empty [strOfNums b] 0 = strOfNums b from rfl, hF, bind_s, if_pos (by rw [strOf_size, strOf_size]; omega), w64 (0 + 1) (by decide) (by decide), transeptref04_Join.l0, if_neg (by rw [List.length_singleton]; decide), e]
/-- What its second half sees. -/
theorem one_facts (s : Nat) (hs : s ≤ 20004) : (∃ J e, joinF [List.replicate s 0] = (J, e) ∧ (s ≤ 20000 → e = 0) ∧ (20000 < s → e = 5)) ∧
    ∃ L M at_ e, transeptref04_Join.f 210000 [strOfNums (List.replicate s 0)] = some (strOfNums L) ∧ Bytes L ∧ L.length ≤ 30000 ∧ splitF L = (M, at_, e) ∧ (s ≤ 20000 → M = [List.replicate s 0] ∧ e = 0) ∧ (20000 < s → M = [] ∧ at_ = 6 ∧ e = 5) := by
  have hB := zeros_bytes s
  have hr := one_ref _ hB (by rw [List.length_replicate]; exact hs)
  have hfl := frE_len (List.replicate s 0)
  have hpl : plen (List.replicate s 0) ≤ 10 := put_len10 _ (by rw [List.length_replicate]; omega)
  have hlen : (logE [List.replicate s 0]).length ≤ 30000 := by
    unfold logE; rw [manyE_cons, manyE_nil, List.append_nil, List.length_append, hfl, List.length_replicate]; have : magic.length = 4 := rfl; omega
  have hLB : Bytes (logE [List.replicate s 0]) := by
    unfold logE; rw [manyE_cons, manyE_nil, List.append_nil]
    exact magic_bytes.append (by unfold frE; exact (put_bytes _).append (hB.append (four_bytes _)))
  by_cases h : s ≤ 20000
  · have hV : ∀ b ∈ [List.replicate s (0 : Int)], bodyV b := fun b hb => by
      rw [List.mem_singleton.1 hb]
      exact ⟨by rw [List.length_replicate]; exact h, hB⟩
    refine ⟨⟨_, _, join_ok hV (by rw [List.length_singleton]; decide) (by omega), fun _ => rfl, fun h2 => by omega⟩, _, _, _, _, hr, hLB, hlen, by rw [split_small (by omega)]; exact log_full hV (by rw [List.length_singleton]; decide), fun _ => ⟨rfl, rfl⟩, fun h2 => by omega⟩
  · refine ⟨⟨[], 5, ?_, fun h2 => by omega, fun _ => rfl⟩, _, _, _, _, hr, hLB, hlen, one_over _ hB (by rw [List.length_replicate]; omega) (by rw [List.length_replicate]; exact hs), fun h2 => by omega, fun _ => ⟨rfl, rfl, rfl⟩⟩
    unfold joinF joinL
    rw [if_neg (by rw [List.length_singleton]; decide), if_pos (by rw [List.length_replicate]; omega)]
end Go.Proofs.YtojagnoobaleaaaDoor.Ext
