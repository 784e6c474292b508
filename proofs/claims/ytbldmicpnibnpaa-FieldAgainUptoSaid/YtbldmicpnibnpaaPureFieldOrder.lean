/- FieldOrder, in plain words. -/
import Derived.Test.YtbldmicpnibnpaaFie
import Derived.Test.YtbldmicpnibnpaaXax14
namespace Go.Proofs.Ytbldmicpnibnpaa.Pure
open Go.RowKit Go.Proofs.Ytbldmicpnibnpaa.Xa Go.Proofs.Ytbldmicpnibnpaa.Ext Go.Proofs.YtbldmicpnibnpaaW.PrintWords Go.Proofs.YtbldmicpnibnpaaW.PrintLast
set_option linter.unusedVariables false
set_option linter.unusedSimpArgs false
theorem vals_append (l m : List S31) (name : ByteArray) : valsF (l ++ m) name = valsF l name ++ valsF m name := by simp [valsF]
theorem vals_lower (l : List S31) (name : ByteArray) : valsF l (lower name) = valsF l name := by unfold valsF; rw [lower_idem]
theorem join_nil (sep : List UInt8) : Lib.join [] sep = [] := by simp [Lib.join, List.intercalate]
theorem join_append (sep : List UInt8) : ∀ xs ys : List (List UInt8), xs ≠ [] → ys ≠ [] → Lib.join (xs ++ ys) sep = Lib.join xs sep ++ sep ++ Lib.join ys sep
  | [x], y :: r, _, _ => by simp [Lib.join, List.intercalate, List.intersperse]
  | x :: z :: xs, y :: r, _, _ => by
    have ih := join_append sep (z :: xs) (y :: r) (by simp) (by simp)
    have e : ∀ (a b : List UInt8) (c : List (List UInt8)), Lib.join (a :: b :: c) sep = a ++ sep ++ Lib.join (b :: c) sep := fun a b c => by simp [Lib.join, List.intercalate, List.intersperse]
    rw [List.cons_append, List.cons_append, e, ← List.cons_append, ih, e]
    simp
theorem data_ext {a : ByteArray} {l : List UInt8} (h : a.data.toList = l) : a = ⟨l.toArray⟩ := by
  apply ByteArray.ext; rw [← h]
theorem joinB_data (xs : List ByteArray) (sep : ByteArray) : (joinB xs sep).data.toList = Lib.join (xs.map (·.data.toList)) sep.data.toList := by unfold joinB; simp
theorem str_app (a b : ByteArray) : (a ++ b).data.toList = a.data.toList ++ b.data.toList := by rw [ByteArray.data_append]; simp
theorem bytes_ext {a b : ByteArray} (h : a.data.toList = b.data.toList) : a = b := by apply ByteArray.ext; exact Array.toList_inj.1 h
theorem get_both (l m : List S31) (name : ByteArray) (h1 : valsF l name ≠ []) (h2 : valsF m name ≠ []) : getF (l ++ m) name = getF l name ++ sepC ++ getF m name := by
  apply bytes_ext
  unfold getF
  rw [vals_append, joinB_data, List.map_append, join_append _ _ _ (by simpa using h1) (by simpa using h2), str_app, str_app, joinB_data, joinB_data]
theorem get_left (l m : List S31) (name : ByteArray) (h2 : valsF m name = []) : getF (l ++ m) name = getF l name ++ getF m name := by
  apply bytes_ext
  unfold getF
  rw [vals_append, h2, List.append_nil, str_app, joinB_data, joinB_data]
  simp [join_nil]
theorem get_right (l m : List S31) (name : ByteArray) (h1 : valsF l name = []) : getF (l ++ m) name = getF l name ++ getF m name := by
  apply bytes_ext
  unfold getF
  rw [vals_append, h1, List.nil_append, str_app, joinB_data, joinB_data]
  simp [join_nil]
theorem get_size (l : List S31) (name : ByteArray) (hl : l.length ≤ 1000000) (ht : tot l ≤ 100000000) : (getF l name).size ≤ 200000000 := by
  have h1 := vals_len l name
  have h2 := vals_sum l name
  have h3 := join_le sepC.data.toList ((valsF l name).map (·.data.toList))
  rw [List.map_map, List.length_map] at h3
  have h4 : ((valsF l name).map (List.length ∘ fun s : ByteArray => s.data.toList)).sum = ((valsF l name).map (fun s => s.data.toList.length)).sum := rfl
  have h5 : sepC.data.toList.length = 2 := rfl
  rw [h4, h5] at h3
  have h6 : (getF l name).size = (getF l name).data.toList.length := Array.length_toList.symm
  rw [h6]
  unfold getF
  rw [joinB_data]
  omega
theorem tot_take (l : List S31) (n : Nat) : tot (l.take n) ≤ tot l := by
  have h := tot_append (l.take n) (l.drop n)
  rw [List.take_append_drop] at h
  omega
theorem FieldOrder (l m : List S31) (name : ByteArray) (hl : tot l ≤ 10000000) (hm : tot m ≤ 10000000) (hn : name.size ≤ 9223372036854775807) : transeptlaw10_FieldOrder.f 200 l m name = some true := by
  have cut : ∀ l : List S31, ∃ n : Nat, mn (l.length : Int) 50 = (n : Int) ∧ n ≤ l.length ∧ n ≤ 50 := fun l => by
    unfold mn
    split
    · exact ⟨50, rfl, by omega, by omega⟩
    · exact ⟨l.length, rfl, by omega, by omega⟩
  obtain ⟨a, ha, ha1, ha2⟩ := cut l
  obtain ⟨b, hb, hb1, hb2⟩ := cut m
  unfold transeptlaw10_FieldOrder.f
  rw [shown_f 200 (by omega), bind_s, ha, hb, if_pos (by omega), if_pos (by omega), Int.toNat_natCast, Int.toNat_natCast]
  obtain ⟨L, hL⟩ : ∃ L, l.take a = L := ⟨_, rfl⟩
  obtain ⟨M, hM⟩ : ∃ M, m.take b = M := ⟨_, rfl⟩
  have lL : L.length ≤ 50 := by rw [← hL, List.length_take]; omega
  have lM : M.length ≤ 50 := by rw [← hM, List.length_take]; omega
  have tL : tot L ≤ 10000000 := by rw [← hL]; have := tot_take l a; omega
  have tM : tot M ≤ 10000000 := by rw [← hM]; have := tot_take m b; omega
  rw [hL, hM, few_f L (by omega), bind_s, if_pos (by omega), if_pos (by omega), few_f M (by omega), bind_s]
  rw [get_f L name 200 (by omega) (by omega) (by omega) hn, bind_s]
  have hlow : token_Lower.f name = some (lower name) := by unfold token_Lower.f; rw [if_pos hn]
  rw [hlow, bind_s, get_f M (lower name) 200 (by omega) (by omega) (by omega) (by rw [lower_size]; exact hn), bind_s, bind_s]
  have tLM : tot (L ++ M) ≤ 100000000 := by rw [tot_append]; omega
  have lLM : (L ++ M).length ≤ 1000000 := by rw [List.length_append]; omega
  have gM : getF M (lower name) = getF M name := by unfold getF; rw [vals_lower]
  rw [gM, vals_lower]
  have sL := get_size L name (by omega) (by omega)
  have sM := get_size M name (by omega) (by omega)
  rw [List.nil_append, if_pos (by rw [List.length_nil]; omega), bind_s, if_pos (by omega), get_f (L ++ M) name 200 lLM (by rw [List.length_append]; omega) (by omega) hn, bind_s]
  dsimp only
  rw [if_pos (by omega), vals_append]
  by_cases h1 : valsF L name = []
  · rw [h1, if_neg (by simp), if_pos rfl, get_right L M name h1, if_pos rfl]
    simp
  · have p1 : 0 < (valsF L name).length := List.length_pos_iff.2 h1
    rw [if_pos (decide_eq_true p1)]
    by_cases h2 : valsF M name = []
    · rw [h2, if_neg (by simp), if_pos rfl, get_left L M name h2, if_pos rfl]
      simp
      omega
    · have p2 : 0 < (valsF M name).length := List.length_pos_iff.2 h2
      rw [if_pos (decide_eq_true p2), if_pos (by omega), if_pos (by rw [ByteArray.size_append]; show (getF L name).size + 2 + _ ≤ _; omega), if_pos rfl, get_both L M name h1 h2]
      rw [if_pos (show (getF L name ++ sepC ++ getF M name).toList = (getF L name ++ (⟨#[44, 32]⟩ : ByteArray) ++ getF M name).toList from rfl)]
      simp
      omega
end Go.Proofs.Ytbldmicpnibnpaa.Pure
