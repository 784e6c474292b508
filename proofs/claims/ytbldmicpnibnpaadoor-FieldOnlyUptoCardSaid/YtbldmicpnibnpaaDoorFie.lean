/- Fields, in plain words. -/
import Derived.Test.YtbldmicpnibnpaaDoorSho
import Derived.Test.YtbldmicpnibnpaaDoorXax12
namespace Go.Proofs.YtbldmicpnibnpaaDoor.Pure
open Go.RowKit Go.Proofs.YtbldmicpnibnpaaDoor.Xa Go.Proofs.YtbldmicpnibnpaaDoor.Ext Go.Proofs.YtbldmicpnibnpaaDoorW.PrintWords Go.Proofs.YtbldmicpnibnpaaDoorW.PrintLast
set_option linter.unusedVariables false
set_option linter.unusedSimpArgs false
theorem lowB_idem (c : UInt8) : lowB (lowB c) = lowB c := by
  by_cases h : 65 ≤ c.toNat ∧ c.toNat ≤ 90
  · have h1 := lowB_yes h
    exact lowB_no (by rw [h1]; omega)
  · rw [lowB_no h, lowB_no h]
theorem lower_idem (s : ByteArray) : lower (lower s) = lower s := by
  unfold lower
  congr 1
  rw [Array.map_map]
  congr 1
  funext c
  exact lowB_idem c
theorem toList_inj {a b : ByteArray} : a.toList = b.toList ↔ a = b := by
  rw [ByteArray.toList_eq, ByteArray.toList_eq, Array.toList_inj]
  exact ⟨fun h => ByteArray.ext h, fun h => by rw [h]⟩
/-- So much stands in fields. -/
def tot (l : List S31) : Nat := (l.map (fun e => e.f0.size + e.f1.size)).sum
theorem tot_mem {l : List S31} {e : S31} (h : e ∈ l) : e.f0.size + e.f1.size ≤ tot l := by
  induction l with
  | nil => cases h
  | cons x l ih =>
    unfold tot at *
    rw [List.map_cons, List.sum_cons]
    rcases List.mem_cons.1 h with h | h
    · subst h; omega
    · have := ih h; omega
theorem tot_append (l m : List S31) : tot (l ++ m) = tot l + tot m := by simp [tot]
def valsF (l : List S31) (name : ByteArray) : List ByteArray := (l.filter (fun e => lower e.f0 = lower name)).map (·.f1)
theorem fold_f (a b : ByteArray) (ha : a.size ≤ 9223372036854775807) (hb : b.size ≤ 9223372036854775807) : token_Fold.f a b = some (decide (lower a = lower b)) := by
  unfold token_Fold.f token_Lower.f
  rw [if_pos ha, if_pos hb, bind_s, bind_s]
  congr 1
  rw [Bool.eq_iff_iff, beq_iff_eq, decide_eq_true_eq, toList_inj]
theorem drop_cons (l : List S31) (j : Nat) (hj : j < l.length) : l.drop j = rd_T31 l (j : Int) :: l.drop (j + 1) := by
  rw [List.drop_eq_getElem_cons hj]
  simp [rd_T31, List.getD_eq_getElem?_getD, List.getElem?_eq_getElem hj]
theorem rd_mem (l : List S31) (j : Nat) (hj : j < l.length) : rd_T31 l (j : Int) ∈ l := by
  have : rd_T31 l (j : Int) = l[j] := by simp [rd_T31, List.getD_eq_getElem?_getD, List.getElem?_eq_getElem hj]
  rw [this]; exact List.getElem_mem hj
theorem values_from (l : List S31) (name : ByteArray) (hl : l.length ≤ 1000000) (ht : tot l ≤ 100000000000) (hn : name.size ≤ 9223372036854775807) : ∀ (d j k : Nat) (acc : List ByteArray), j + d = l.length → d < k → acc.length ≤ j →
    field_values.l0 k name acc l (l.length : Int) (j : Int) = some (acc ++ valsF (l.drop j) name)
  | 0, j, k + 1, acc, h, _, _ => by
    rw [field_values.l0, if_neg (by omega), List.drop_eq_nil_of_le (by omega)]
    simp [valsF]
  | d + 1, j, k + 1, acc, h, hk, ha => by
    have hj : j < l.length := by omega
    have hm := tot_mem (rd_mem l j hj)
    rw [field_values.l0, if_pos (by omega), if_pos (by omega), if_pos (by omega), fold_f _ _ (by omega) hn, bind_s, drop_cons l j hj, w64 _ (by omega) (by omega), show ((j : Int) + 1) = ((j + 1 : Nat) : Int) by omega]
    generalize rd_T31 l (j : Int) = x
    have e1 : valsF (x :: l.drop (j + 1)) name = if lower x.f0 = lower name then x.f1 :: valsF (l.drop (j + 1)) name else valsF (l.drop (j + 1)) name := by
      unfold valsF
      by_cases hx : lower x.f0 = lower name
      · rw [List.filter_cons_of_pos (by simpa using hx), if_pos hx, List.map_cons]
      · rw [List.filter_cons_of_neg (by simpa using hx), if_neg hx]
    rw [e1]
    by_cases hx : lower x.f0 = lower name
    · rw [if_pos (decide_eq_true hx), if_pos hx, if_pos (by omega), values_from l name hl ht hn d (j + 1) k _ (by omega) (by omega) (by rw [List.length_append, List.length_singleton]; omega)]
      rw [List.append_assoc]; rfl
    · rw [if_neg (by rw [decide_eq_true_eq]; exact hx), if_neg hx, values_from l name hl ht hn d (j + 1) k acc (by omega) (by omega) (by omega)]
theorem values_f (l : List S31) (name : ByteArray) (k : Nat) (hl : l.length ≤ 1000000) (hk : l.length < k) (ht : tot l ≤ 100000000000) (hn : name.size ≤ 9223372036854775807) : field_values.f k l name = some (valsF l name) := by
  unfold field_values.f
  have := values_from l name hl ht hn l.length 0 k [] (by omega) hk (by simp)
  simpa using this
theorem join_le (sep : List UInt8) : ∀ xs : List (List UInt8), (Lib.join xs sep).length ≤ (xs.map List.length).sum + sep.length * xs.length
  | [] => by simp [Lib.join, List.intercalate]
  | [x] => by simp [Lib.join, List.intercalate]
  | x :: y :: r => by
    have ih := join_le sep (y :: r)
    have e : Lib.join (x :: y :: r) sep = x ++ sep ++ Lib.join (y :: r) sep := by simp [Lib.join, List.intercalate, List.intersperse]
    rw [e, List.length_append, List.length_append, List.map_cons, List.sum_cons, List.length_cons, Nat.mul_succ]
    omega
theorem vals_sum (l : List S31) (name : ByteArray) : ((valsF l name).map (fun s => s.data.toList.length)).sum ≤ tot l := by
  induction l with
  | nil => simp [valsF, tot]
  | cons e l ih =>
    unfold valsF tot at *
    rw [List.map_cons, List.sum_cons]
    by_cases hx : lower e.f0 = lower name
    · rw [List.filter_cons_of_pos (by simpa using hx), List.map_cons, List.map_cons, List.sum_cons]
      have : e.f1.data.toList.length = e.f1.size := Array.length_toList
      omega
    · rw [List.filter_cons_of_neg (by simpa using hx)]
      omega
theorem vals_len (l : List S31) (name : ByteArray) : (valsF l name).length ≤ l.length := by
  unfold valsF
  rw [List.length_map]
  exact List.length_filter_le _ _
def sepC : ByteArray := ⟨#[44, 32]⟩
def getF (l : List S31) (name : ByteArray) : ByteArray := joinB (valsF l name) sepC
theorem get_f (l : List S31) (name : ByteArray) (k : Nat) (hl : l.length ≤ 1000000) (hk : l.length < k) (ht : tot l ≤ 100000000000) (hn : name.size ≤ 9223372036854775807) : field_Get.f k l name = some (getF l name, decide (0 < (valsF l name).length)) := by
  unfold field_Get.f
  rw [values_f l name k hl hk ht hn, bind_s]
  have h1 := vals_len l name
  have h2 := vals_sum l name
  have h3 := join_le sepC.data.toList ((valsF l name).map (·.data.toList))
  rw [List.map_map, List.length_map] at h3
  have h4 : ((valsF l name).map (List.length ∘ fun s : ByteArray => s.data.toList)).sum = ((valsF l name).map (fun s => s.data.toList.length)).sum := rfl
  have h5 : sepC.data.toList.length = 2 := rfl
  rw [h4, h5] at h3
  unfold strings_Join.f
  have hc : (valsF l name).length ≤ 140737488355328 ∧ (Lib.join ((valsF l name).map (·.data.toList)) (⟨#[44, 32]⟩ : ByteArray).data.toList).length ≤ 140737488355328 := by
    constructor
    · omega
    · show (Lib.join ((valsF l name).map (·.data.toList)) sepC.data.toList).length ≤ _
      omega
  rw [if_pos hc, bind_s]
  congr 1
  congr 1
  simp
theorem few_f (l : List S31) (h : l.length ≤ 100) : transeptlaw10_few.f l = some l := by
  unfold transeptlaw10_few.f
  have hm : mn (l.length : Int) 100 = l.length := by unfold mn; rw [if_neg (by omega)]
  rw [bind_s, hm, if_pos (by omega), if_pos (by omega), bind_s, Int.toNat_natCast, List.take_length, if_pos (by simp; omega)]
  simp
end Go.Proofs.YtbldmicpnibnpaaDoor.Pure
