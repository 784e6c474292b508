/- FieldAgain, in plain words. -/
import Derived.Test.YtbldmicpnibnpaaNm1
import Derived.Test.YtbldmicpnibnpaaPureFieldOrder
import Derived.Test.YtbldmicpnibnpaaAgw
namespace Go.Proofs.Ytbldmicpnibnpaa.Pure
open Go.RowKit Go.Proofs.Ytbldmicpnibnpaa.Xa Go.Proofs.Ytbldmicpnibnpaa.Ext Go.Proofs.YtbldmicpnibnpaaW.PrintWords Go.Proofs.YtbldmicpnibnpaaW.PrintLast
set_option linter.unusedVariables false
set_option linter.unusedSimpArgs false
/-- Fields, each name once. -/
def combF (l : List S31) : List S31 := (namesF l).map (fun n => (⟨n, getF l n⟩ : S31))
theorem names_mem (l : List S31) (n : ByteArray) : n ∈ namesF l ↔ ∃ e ∈ l, lower e.f0 = n := by
  rw [names_eq, List.mem_map]
  constructor
  · rintro ⟨x, hx, rfl⟩
    obtain ⟨e, he, rfl⟩ := (nms_mem l x).1 hx
    exact ⟨e, he, data_ext rfl⟩
  · rintro ⟨e, he, rfl⟩
    exact ⟨nm e, (nms_mem l _).2 ⟨e, he, rfl⟩, (data_ext rfl).symm⟩
theorem names_low {l : List S31} {n : ByteArray} (h : n ∈ namesF l) : lower n = n := by
  obtain ⟨e, he, rfl⟩ := (names_mem l n).1 h
  exact lower_idem _
theorem names_nodup (l : List S31) : (namesF l).Nodup := by
  rw [names_eq]
  unfold List.Nodup
  rw [List.pairwise_map]
  refine (nms_nodup l).imp fun {a b} h he => h ?_
  have := congrArg (fun s : ByteArray => s.data.toList) he
  simpa using this
theorem names_len (l : List S31) : (namesF l).length ≤ l.length := by
  rw [names_eq, List.length_map]; exact nms_len l
theorem comb_names (l : List S31) : (combF l).map (·.f0) = namesF l := by
  unfold combF; rw [List.map_map]
  exact List.map_id' _
theorem comb_mem {l : List S31} {e : S31} (h : e ∈ combF l) : e.f0 ∈ namesF l ∧ e.f1 = getF l e.f0 := by
  obtain ⟨n, hn, rfl⟩ := List.mem_map.1 h
  exact ⟨hn, rfl⟩
theorem names_comb (l : List S31) : namesF (combF l) = namesF l := by
  rw [names_eq, names_eq]
  congr 1
  refine nms_ext fun x => ⟨?_, ?_⟩
  · rintro ⟨e, he, rfl⟩
    obtain ⟨e', he', h⟩ := (names_mem l _).1 (comb_mem he).1
    exact ⟨e', he', by unfold nm; rw [← h, lower_idem]⟩
  · rintro ⟨e, he, rfl⟩
    have h : lower e.f0 ∈ namesF l := (names_mem l _).2 ⟨e, he, rfl⟩
    exact ⟨⟨lower e.f0, getF l (lower e.f0)⟩, List.mem_map.2 ⟨_, h, rfl⟩, by unfold nm; rw [lower_idem]⟩
theorem filter_one {a : ByteArray} : ∀ {L : List ByteArray}, L.Nodup → a ∈ L → L.filter (fun x => decide (x = a)) = [a]
  | x :: L, hn, h => by
    have hn' := List.nodup_cons.1 hn
    by_cases hx : x = a
    · subst hx
      rw [List.filter_cons_of_pos (by simp), List.filter_eq_nil_iff.2 (fun y hy => by
        rw [decide_eq_true_eq]; intro hyx; subst hyx; exact hn'.1 hy)]
    · rw [List.filter_cons_of_neg (by simpa using hx)]
      rcases List.mem_cons.1 h with h | h
      · exact absurd h.symm hx
      · exact filter_one hn'.2 h
theorem vals_comb (l : List S31) (name : ByteArray) : valsF (combF l) name = ((namesF l).filter (fun n => decide (n = lower name))).map (getF l) := by
  unfold valsF combF
  rw [List.filter_map, List.map_map]
  have e : (namesF l).filter ((fun e : S31 => decide (lower e.f0 = lower name)) ∘ fun n => (⟨n, getF l n⟩ : S31)) = (namesF l).filter (fun n => decide (n = lower name)) := by
    refine List.filter_congr fun n hn => ?_
    show decide (lower n = lower name) = decide (n = lower name)
    rw [names_low hn]
  rw [e]
  rfl
theorem vals_in {l : List S31} {name : ByteArray} (h : lower name ∈ namesF l) : valsF (combF l) name = [getF l name] := by
  rw [vals_comb, filter_one (names_nodup l) h]
  show [getF l (lower name)] = [getF l name]
  unfold getF; rw [vals_lower]
theorem vals_out {l : List S31} {name : ByteArray} (h : lower name ∉ namesF l) : valsF (combF l) name = [] := by
  rw [vals_comb, List.filter_eq_nil_iff.2 (fun y hy => by rw [decide_eq_true_eq]; intro hyx; subst hyx; exact h hy)]
  rfl
theorem vals_none {l : List S31} {name : ByteArray} (h : lower name ∉ namesF l) : valsF l name = [] := by
  unfold valsF
  rw [List.filter_eq_nil_iff.2 (fun e he => by rw [decide_eq_true_eq]; intro hx; exact h ((names_mem l _).2 ⟨e, he, hx⟩))]
  rfl
theorem vals_some {l : List S31} {name : ByteArray} (h : lower name ∈ namesF l) : valsF l name ≠ [] := by
  obtain ⟨e, he, hx⟩ := (names_mem l _).1 h
  unfold valsF
  intro h0
  have := List.map_eq_nil_iff.1 h0
  have h1 : e ∈ l.filter (fun e => decide (lower e.f0 = lower name)) := List.mem_filter.2 ⟨he, decide_eq_true hx⟩
  rw [this] at h1
  cases h1
theorem joinB_one (s sep : ByteArray) : joinB [s] sep = s := by
  apply bytes_ext; rw [joinB_data]; simp [Lib.join, List.intercalate]
theorem get_comb (l : List S31) (name : ByteArray) : getF (combF l) name = getF l name := by
  have h1 : getF (combF l) name = joinB (valsF (combF l) name) sepC := rfl
  by_cases h : lower name ∈ namesF l
  · rw [h1, vals_in h]
    exact joinB_one _ _
  · rw [h1, vals_out h]
    unfold getF; rw [vals_none h]
theorem comb_comb (l : List S31) : combF (combF l) = combF l := by
  have h1 : combF (combF l) = (namesF (combF l)).map (fun n => (⟨n, getF (combF l) n⟩ : S31)) := rfl
  rw [h1, names_comb]
  exact List.map_congr_left fun n _ => by rw [get_comb]
theorem has_comb (l : List S31) (name : ByteArray) : decide (0 < (valsF (combF l) name).length) = decide (0 < (valsF l name).length) := by
  by_cases h : lower name ∈ namesF l
  · rw [vals_in h]
    have := List.length_pos_iff.2 (vals_some h)
    simp [this]
  · rw [vals_out h, vals_none h]
theorem name_size {l : List S31} {n : ByteArray} (h : n ∈ namesF l) : n.size ≤ tot l := by
  obtain ⟨e, he, rfl⟩ := (names_mem l n).1 h
  rw [lower_size]
  have := tot_mem he
  omega
theorem tot_map (l : List S31) (B : Nat) : ∀ L : List ByteArray, (∀ n ∈ L, n.size + (getF l n).size ≤ B) → tot (L.map (fun n => (⟨n, getF l n⟩ : S31))) ≤ B * L.length
  | [], _ => by simp [tot]
  | n :: L, h => by
    have ih := tot_map l B L fun n hn => h n (List.mem_cons_of_mem _ hn)
    have h1 := h n (List.mem_cons_self)
    have e : tot ((n :: L).map (fun n => (⟨n, getF l n⟩ : S31))) = (n.size + (getF l n).size) + tot (L.map (fun n => (⟨n, getF l n⟩ : S31))) := by
      unfold tot; rw [List.map_cons, List.map_cons, List.sum_cons]
    rw [e, List.length_cons, Nat.mul_succ]
    omega
theorem comb_len (l : List S31) : (combF l).length ≤ l.length := by
  unfold combF; rw [List.length_map]; exact names_len l
theorem comb_tot (l : List S31) (hl : l.length ≤ 100) (ht : tot l ≤ 10000000) : tot (combF l) ≤ 100000000000 := by
  have h := tot_map l 210000000 (namesF l) fun n hn => by
    have h1 := name_size hn
    have h2 := get_size l n (by omega) (by omega)
    omega
  have h3 := names_len l
  have h4 : 210000000 * (namesF l).length ≤ 210000000 * 100 := Nat.mul_le_mul_left _ (by omega)
  unfold combF
  omega
theorem names_f (l : List S31) (hl : l.length ≤ 1000000) (ht : tot l ≤ 100000000000) : field_Names.f l = some (namesF l) := by
  unfold field_Names.f
  rw [if_pos ⟨hl, fun e he => by have := tot_mem he; omega⟩]
theorem drop_names (L : List ByteArray) (j : Nat) (hj : j < L.length) : L.drop j = rdOf ByteArray.empty L (j : Int) :: L.drop (j + 1) := by
  rw [List.drop_eq_getElem_cons hj]
  simp [rdOf, List.getD_eq_getElem?_getD, List.getElem?_eq_getElem hj]
theorem rd_name (L : List ByteArray) (j : Nat) (hj : j < L.length) : rdOf ByteArray.empty L (j : Int) ∈ L := by
  have : rdOf ByteArray.empty L (j : Int) = L[j] := by simp [rdOf, List.getD_eq_getElem?_getD, List.getElem?_eq_getElem hj]
  rw [this]; exact List.getElem_mem hj
theorem comb_from (l : List S31) (L : List ByteArray) (m : Nat) (hl : l.length ≤ 1000000) (hk : l.length < m) (ht : tot l ≤ 100000000000) (hL : ∀ n ∈ L, n.size ≤ 9223372036854775807) (hLl : L.length ≤ 1000000) : ∀ (d j k : Nat) (acc : List S31), j + d = L.length → d + m < k → acc.length ≤ j →
    field_Combined.l0 k l acc L (L.length : Int) (j : Int) = some (acc ++ (L.drop j).map (fun n => (⟨n, getF l n⟩ : S31)))
  | 0, j, k + 1, acc, h, _, _ => by
    rw [field_Combined.l0, if_neg (by omega), List.drop_eq_nil_of_le (by omega)]
    simp
  | d + 1, j, k + 1, acc, h, hk', ha => by
    have hj : j < L.length := by omega
    have hn := hL _ (rd_name L j hj)
    rw [field_Combined.l0, if_pos (by omega), if_pos (by omega), if_pos (by omega), get_f l _ k hl (by omega) ht hn, bind_s, if_pos (by omega), drop_names L j hj, w64 _ (by omega) (by omega), show ((j : Int) + 1) = ((j + 1 : Nat) : Int) by omega,
      comb_from l L m hl hk ht hL hLl d (j + 1) k _ (by omega) (by omega) (by rw [List.length_append, List.length_singleton]; omega), List.map_cons, List.append_assoc]
    rfl
theorem comb_f (l : List S31) (k : Nat) (hl : l.length ≤ 1000) (hk : 3000 ≤ k) (ht : tot l ≤ 100000000000) : field_Combined.f k l = some (combF l) := by
  unfold field_Combined.f
  rw [names_f l (by omega) ht, bind_s]
  have h1 := names_len l
  have h := comb_from l (namesF l) 1001 (by omega) (by omega) ht (fun n hn => by have := name_size hn; omega) (by omega) (namesF l).length 0 k [] (by omega) (by omega) (by simp)
  simpa [combF] using h
def to47 (e : S31) : S47 := ⟨e.f0, e.f1⟩
theorem of_from (l : List S31) (hl : l.length ≤ 1000000) : ∀ (d j k : Nat) (acc : List S47), j + d = l.length → d < k → acc.length ≤ j →
    transeptlaw10_of.l0 k l acc (j : Int) = some (acc ++ (l.drop j).map to47)
  | 0, j, k + 1, acc, h, _, _ => by
    rw [transeptlaw10_of.l0, if_neg (by omega), List.drop_eq_nil_of_le (by omega)]
    simp
  | d + 1, j, k + 1, acc, h, hk, ha => by
    have hj : j < l.length := by omega
    rw [transeptlaw10_of.l0, if_pos (by omega), if_pos (by omega), if_pos (by omega), drop_cons l j hj, w64 _ (by omega) (by omega), show ((j : Int) + 1) = ((j + 1 : Nat) : Int) by omega,
      of_from l hl d (j + 1) k _ (by omega) (by omega) (by rw [List.length_append, List.length_singleton]; omega), List.map_cons, List.append_assoc]
    rfl
theorem of_f (l : List S31) (k : Nat) (hl : l.length ≤ 1000000) (hk : l.length < k) : transeptlaw10_of.f k l = some (l.map to47) := by
  unfold transeptlaw10_of.f
  have h := of_from l hl l.length 0 k [] (by omega) hk (by simp)
  simpa using h
theorem rd47 (l : List S31) (j : Nat) (hj : j < l.length) : rd_T47 (l.map to47) (j : Int) = to47 (rd_T31 l (j : Int)) := by
  simp [rd_T47, rd_T31, List.getD_eq_getElem?_getD, List.getElem?_eq_getElem hj]
theorem same_from (l : List S31) (hl : l.length ≤ 1000000) : ∀ (d j k : Nat), j + d = l.length → d < k → transeptlaw10_same.l0 k l (l.map to47) (j : Int) = some true
  | 0, j, k + 1, h, _ => by rw [transeptlaw10_same.l0, if_neg (by omega)]
  | d + 1, j, k + 1, h, hk => by
    have hj : j < l.length := by omega
    rw [transeptlaw10_same.l0, if_pos (by omega), if_pos (by omega), if_pos (by rw [List.length_map]; omega), rd47 l j hj, if_pos (show (rd_T31 l (j : Int)).f0.toList = (to47 (rd_T31 l (j : Int))).f0.toList from rfl), if_pos (show (rd_T31 l (j : Int)).f1.toList = (to47 (rd_T31 l (j : Int))).f1.toList from rfl), w64 _ (by omega) (by omega), show ((j : Int) + 1) = ((j + 1 : Nat) : Int) by omega]
    exact same_from l hl d (j + 1) k (by omega) (by omega)
theorem same_f (l : List S31) (k : Nat) (hl : l.length ≤ 1000000) (hk : l.length < k) : transeptlaw10_same.f k l (l.map to47) = some true := by
  unfold transeptlaw10_same.f
  rw [List.length_map, if_pos rfl]
  exact same_from l hl l.length 0 k (by omega) hk
theorem same9_from (L : List ByteArray) (hl : L.length ≤ 1000000) : ∀ (d j k : Nat), j + d = L.length → d < k → transeptref09_Same.l0 k L L (j : Int) = some true
  | 0, j, k + 1, h, _ => by rw [transeptref09_Same.l0, if_neg (by omega)]
  | d + 1, j, k + 1, h, hk => by
    have hj : j < L.length := by omega
    rw [transeptref09_Same.l0, if_pos (by omega), if_pos (by omega), if_pos (by omega), if_pos rfl, w64 _ (by omega) (by omega), show ((j : Int) + 1) = ((j + 1 : Nat) : Int) by omega]
    exact same9_from L hl d (j + 1) k (by omega) (by omega)
theorem same9_f (L : List ByteArray) (k : Nat) (hl : L.length ≤ 1000000) (hk : L.length < k) : transeptref09_Same.f k L L = some true := by
  unfold transeptref09_Same.f
  rw [if_pos rfl]
  exact same9_from L hl L.length 0 k (by omega) hk
theorem only_f (l : List S31) (name : ByteArray) (k : Nat) (hl : l.length ≤ 1000000) (hk : l.length < k) (ht : tot l ≤ 100000000000) (hn : name.size ≤ 9223372036854775807) : field_Only.f k l name = some (if (valsF l name).length = 1 then (rdOf ByteArray.empty (valsF l name) 0, true) else ((⟨#[]⟩ : ByteArray), false)) := by
  unfold field_Only.f
  rw [values_f l name k hl hk ht hn, bind_s]
  by_cases h : (valsF l name).length = 1
  · rw [if_pos (by omega), if_pos (by omega), if_pos h]
  · rw [if_neg (by omega), if_neg h]
theorem few_take (l : List S31) : ∃ n : Nat, n ≤ 100 ∧ transeptlaw10_few.f l = some (l.take n) := by
  obtain ⟨n, hn, h1, h2⟩ : ∃ n : Nat, mn (l.length : Int) 100 = (n : Int) ∧ n ≤ l.length ∧ n ≤ 100 := by
    unfold mn
    split
    · exact ⟨100, rfl, by omega, by omega⟩
    · exact ⟨l.length, rfl, by omega, by omega⟩
  refine ⟨n, h2, ?_⟩
  unfold transeptlaw10_few.f
  rw [bind_s, hn, if_pos (by omega), if_pos (by omega), bind_s, Int.toNat_natCast, if_pos (by rw [List.length_nil, List.length_take]; omega)]
  simp
theorem rd_comb (l : List S31) (i : Int) (h0 : 0 ≤ i) (h1 : i < (combF l).length) : ∃ (j : Nat) (hj : j < (nms l).length), i = j ∧ (rd_T31 (combF l) i).f0 = ⟨((nms l)[j]'hj).toArray⟩ := by
  have hlen : (combF l).length = (nms l).length := by unfold combF; rw [names_eq, List.length_map, List.length_map]
  refine ⟨i.toNat, by omega, by omega, ?_⟩
  have hj : i.toNat < (combF l).length := by omega
  have e : rd_T31 (combF l) i = (combF l)[i.toNat] := by simp [rd_T31, List.getD_eq_getElem?_getD, List.getElem?_eq_getElem hj]
  rw [e]
  simp [combF, names_eq]
theorem FieldAgain (l : List S31) (name : ByteArray) (hl : tot l ≤ 10000000) (hn : name.size ≤ 9223372036854775807) : ∃ l' c a one ns c47, Again 5000 l l' c name a one ns c47 := by
  obtain ⟨n, hn1, hfew⟩ := few_take l
  obtain ⟨L, hL⟩ : ∃ L, l.take n = L := ⟨_, rfl⟩
  rw [hL] at hfew
  have lL : L.length ≤ 100 := by rw [← hL, List.length_take]; omega
  have tL : tot L ≤ 10000000 := by rw [← hL]; have := tot_take l n; omega
  have lC := comb_len L
  have tC := comb_tot L lL tL
  refine ⟨L, combF L, getF L name, decide (0 < (valsF L name).length), namesF L, (combF L).map to47, ?_⟩
  constructor
  · exact shown_f 5000 (by omega)
  · exact hfew
  · exact comb_f L 5000 (by omega) (by omega) (by omega)
  · exact get_f L name 5000 (by omega) (by omega) (by omega) hn
  · rw [get_f (combF L) name 5000 (by omega) (by omega) tC hn, get_comb, has_comb]
  · rw [only_f (combF L) name 5000 (by omega) (by omega) tC hn]
    by_cases h : lower name ∈ namesF L
    · rw [vals_in h, if_pos (by rfl)]
      have := List.length_pos_iff.2 (vals_some h)
      rw [decide_eq_true this]
      rfl
    · rw [vals_out h, if_neg (by simp)]
      have h0 := vals_none h
      have e : getF L name = (⟨#[]⟩ : ByteArray) := by unfold getF; rw [h0]; rfl
      rw [e, h0]
      rfl
  · intro i h0 h1
    obtain ⟨j, hj, rfl, e⟩ := rd_comb L i h0 h1
    have hm : (rd_T31 (combF L) (j : Int)).f0 ∈ namesF L := (comb_mem (rd_mem (combF L) j (by omega))).1
    have hs := name_size hm
    unfold token_Lower.f
    rw [if_pos (by omega), names_low hm]
  · intro i h0 h1
    obtain ⟨j, hj, rfl, e⟩ := rd_comb L i (by omega) h1
    obtain ⟨j', hj', hjj, e'⟩ := rd_comb L ((j : Int) - 1) (by omega) (by omega)
    rw [e, e', ByteArray.toList_eq, ByteArray.toList_eq]
    exact nms_less L j' j (by omega) hj
  · have h := comb_f (combF L) 5000 (by omega) (by omega) tC
    rw [comb_comb] at h
    exact h
  · exact of_f (combF L) 5000 (by omega) (by omega)
  · exact same_f (combF L) 5000 (by omega) (by omega)
  · rw [names_f (combF L) (by omega) tC, names_comb]
  · exact names_f L (by omega) (by omega)
  · have := names_len L
    exact same9_f (namesF L) 5000 (by omega) (by omega)
  · omega
theorem again_walk (A0 : Option Addr) (c0 : Nat) (l : List S31) (name : ByteArray) (w : World) (hr0 : Kd.C k31 w A0 l.length l) (hc0 : l.length ≤ c0) (hl : tot l ≤ 10000000) (hn : name.size ≤ 9223372036854775807) :
    Calls Try.prog 4 #[.slice A0 l.length c0, .string name] w fun e w' => e = .returned (.bool true) ∧ Below w.heap.size w w' := by
  obtain ⟨l', c, a, one, ns, c47, h⟩ := FieldAgain l name hl hn
  exact again_calls A0 c0 5000 l l' c name a one ns c47 w hr0 hc0 h
end Go.Proofs.Ytbldmicpnibnpaa.Pure
