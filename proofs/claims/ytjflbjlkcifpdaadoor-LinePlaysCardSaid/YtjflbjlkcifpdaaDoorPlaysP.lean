/- LinePlays, in plain words: a line answers as the document says. -/
import Derived.Test.YtjflbjlkcifpdaaDoorRefP
import Derived.Test.YtjflbjlkcifpdaaDoorOverP
namespace Go.Proofs.YtjflbjlkcifpdaaDoor.Pure
open Go.RowKit Go.Proofs.YtjflbjlkcifpdaaDoor.Xa Go.Proofs.YtjflbjlkcifpdaaDoor.Ext Go.Proofs.YtjflbjlkcifpdaaDoorW.PrintWords Go.Proofs.YtjflbjlkcifpdaaDoorW.PrintLast
open Go.Maps (Tidy)
set_option linter.unusedVariables false
set_option linter.unusedSimpArgs false
/-- The table of the program and the document's. -/
theorem ways_goes : ∀ K : Fin 15, 4 ≤ K.val → (gF (K.val : Int)).1 = (wayOf (K.val : Int)).1 ∧ ((gF (K.val : Int)).2 ≥ 0 → (gF (K.val : Int)).2 = (wayOf (K.val : Int)).2) ∧ (¬ (gF (K.val : Int)).2 ≥ 0 → (wayOf (K.val : Int)).1 = [(wayOf (K.val : Int)).2]) ∧ (wayOf (K.val : Int)).1.length ≤ 10 := by decide
theorem way_pos : ∀ K : Fin 15, 4 ≤ K.val → (∀ s ∈ (wayOf (K.val : Int)).1, 0 < s) ∧ 0 ≤ (wayOf (K.val : Int)).2 := by decide
theorem kind_fin {e : S31} (h : rightS e = true) (h4 : 4 ≤ e.f0) : ∃ K : Fin 15, 4 ≤ K.val ∧ e.f0 = (K.val : Int) := by
  have hk := rightS_kind h
  obtain ⟨K, hK⟩ := Int.eq_ofNat_of_zero_le (show 0 ≤ e.f0 by omega)
  exact ⟨⟨K, by omega⟩, by simp; omega, hK⟩
theorem taken_in {X : LS} {e : S31} (ht : Taken X e) (h4 : 4 ≤ e.f0) : X.st e.f2 ∈ (wayOf e.f0).1 := by
  have hm := ht.may
  rw [may_res (may_c hm (by omega)) h4] at hm
  exact List.contains_iff_mem.1 hm
theorem taken_pos {X : LS} {e : S31} (ht : Taken X e) (h4 : 4 ≤ e.f0) : 0 < X.st e.f2 := by
  obtain ⟨K, hK4, hK⟩ := kind_fin ht.right h4
  have := taken_in ht h4
  rw [hK] at this
  exact (way_pos K hK4).1 _ this
theorem nv_nonneg {X : LS} {e : S31} (ht : Taken X e) (ha : ¬ Ext.alone e) : 0 ≤ nv e := by
  unfold nv
  split
  · omega
  · rename_i h3
    have hk := rightS_kind ht.right
    have h4 : 4 ≤ e.f0 := by
      have : ¬ (e.f0 = 1 ∨ e.f0 = 2) := ha
      omega
    obtain ⟨K, hK4, hK⟩ := kind_fin ht.right h4
    rw [hK]
    exact (way_pos K hK4).2
/-- An event of a fetch has a fetch. -/
theorem right_id {e : S31} (h : rightS e = true) (h3 : 3 ≤ e.f0) : e.f2 ≠ 0 := by
  unfold rightS rightF at h
  simp only [Bool.and_eq_true] at h
  have := h.1.1.2
  intro h0
  have h1 : (decide (e.f0 = 1) || decide (e.f0 = 2)) = false := by simp; omega
  rw [h1, h0] at this
  simp at this
/-- The fetches that were begun. -/
def sts (l : List S31) : List Int := (l.filter (fun e => e.f0 == 3)).map (·.f2)
structure Pl (X : LS) (l : List S31) : Prop where
  tidy : Tidy X.D
  c : X.c = l.length
  last : 0 < l.length → X.last = (rd_T31 l ((l.length : Int) - 1)).f1
  last0 : l.length = 0 → X.last = 0
  st : ∀ id, X.st id = refSt l id
  has : ∀ id, X.has id = (sts l).contains id
  size : X.size = 0 ↔ sts l = []
  op : X.op = ((sts l).countP (fun id => decide (X.st id > 0)) : Nat)
  nodup : (sts l).Nodup
  ids : ∀ id ∈ sts l, id ≠ 0
  op64 : X.op ≤ 64
theorem Pl.start : Pl L0 [] := ⟨tidy_L0, rfl, fun h => by simp at h, fun _ => rfl, fun _ => rfl, fun _ => rfl, by simp [sts]; rfl, rfl, by simp [sts], fun _ h => by simp [sts] at h, by decide⟩
theorem any_sts (l : List S31) (id : Int) (h0 : id ≠ 0) : l.any (isSt id) = (sts l).contains id := by
  induction l with
  | nil => rfl
  | cons e l ih =>
    rw [List.any_cons, ih]
    unfold sts isSt
    by_cases h3 : e.f0 = 3
    · rw [List.filter_cons_of_pos (by simp [h3]), List.map_cons, List.contains_cons]
      show (e.f0 == 3 && (id == 0 || e.f2 == id) || (sts l).contains id) = (id == e.f2 || (sts l).contains id)
      rw [beq_iff_eq.2 h3, beq_eq_false_iff_ne.2 h0, Bool.true_and, Bool.false_or, show (id == e.f2) = (e.f2 == id) from Bool.beq_comm]
    · rw [List.filter_cons_of_neg (by simp [h3])]
      simp [h3, sts]
theorem any_sts0 (l : List S31) : l.any (isSt 0) = !(sts l).isEmpty := by
  induction l with
  | nil => rfl
  | cons e l ih =>
    rw [List.any_cons, ih]
    unfold sts isSt
    by_cases h3 : e.f0 = 3
    · rw [List.filter_cons_of_pos (by simp [h3])]; simp [h3]
    · rw [List.filter_cons_of_neg (by simp [h3])]; simp [h3]
theorem refOp_sts (l m : List S31) : m.countP (isOp l) = (sts m).countP (fun id => decide (refSt l id > 0)) := by
  induction m with
  | nil => rfl
  | cons e m ih =>
    rw [List.countP_cons, ih]
    unfold sts isOp
    by_cases h3 : e.f0 = 3
    · rw [List.filter_cons_of_pos (by simp [h3]), List.map_cons, List.countP_cons]; simp [h3]
    · rw [List.filter_cons_of_neg (by simp [h3])]; simp [h3]
theorem Pl.opn {X : LS} {l : List S31} (h : Pl X l) : X.op = ((refOp l : Nat) : Int) := by
  rw [h.op, refOp, refOp_sts]
  congr 2
  funext id
  rw [h.st]
theorem sts_snoc (l : List S31) (e : S31) : sts (l ++ [e]) = if e.f0 = 3 then sts l ++ [e.f2] else sts l := by
  unfold sts
  rw [List.filter_append]
  by_cases h3 : e.f0 = 3
  · rw [if_pos h3]; simp [h3]
  · rw [if_neg h3]; simp [h3]
theorem refSt_snoc (l : List S31) (e : S31) (id : Int) : refSt (l ++ [e]) id = stepS id (refSt l id) e := by simp [refSt]
theorem countP_same {p q : Int → Bool} : ∀ (l : List Int), (∀ x ∈ l, q x = p x) → l.countP q = l.countP p
  | [], _ => rfl
  | x :: l, h => by rw [List.countP_cons, List.countP_cons, countP_same l (fun y hy => h y (List.mem_cons_of_mem _ hy)), h x (List.mem_cons_self ..)]
theorem countP_less {p q : Int → Bool} {x : Int} (hp : p x = true) (hq : q x = false) : ∀ (l : List Int), l.Nodup → x ∈ l → (∀ y, y ≠ x → q y = p y) → l.countP p = l.countP q + 1
  | y :: l, hn, hx, h => by
    rw [List.countP_cons, List.countP_cons]
    obtain ⟨h1, h2⟩ := List.nodup_cons.1 hn
    by_cases hy : y = x
    · subst hy
      rw [countP_same l (fun z hz => h z (fun hh => h1 (hh ▸ hz)))]
      simp [hp, hq]
    · have hx' : x ∈ l := by
        rcases List.mem_cons.1 hx with h | h
        · exact absurd h.symm hy
        · exact h
      rw [countP_less hp hq l h2 hx' h, h y hy]
      omega
theorem last_snoc (l : List S31) (e : S31) : rd_T31 (l ++ [e]) (((l ++ [e]).length : Int) - 1) = e := by
  simp [rd_T31, List.getD_eq_getElem?_getD]
theorem Pl.step {X : LS} {l : List S31} {e : S31} (h : Pl X l) (ht : Taken X e) : Pl (next X e) (l ++ [e]) := by
  have hk := rightS_kind ht.right
  by_cases ha : Ext.alone e
  · have h3 : e.f0 ≠ 3 := by rcases ha with ha | ha <;> omega
    have hs : sts (l ++ [e]) = sts l := by rw [sts_snoc, if_neg h3]
    refine ⟨next_tidy h.tidy, by rw [next_c, h.c]; simp, fun _ => by rw [next_last, last_snoc], fun h0 => by simp at h0, fun id => ?_, fun id => by rw [next_has_alone ha, hs]; exact h.has id, by rw [next_size_alone ha, hs]; exact h.size, ?_, by rw [hs]; exact h.nodup, by rw [hs]; exact h.ids, by rw [next_op_alone X ha]; exact h.op64⟩
    · rw [next_st_alone ha, h.st, refSt_snoc, stepS, if_neg (fun hh => hh.2 (by rcases ha with ha | ha <;> omega))]
    · rw [next_op_alone X ha, hs, h.op]
      congr 1
      exact countP_same _ (fun id _ => by rw [next_st_alone ha])
  · have hst : ∀ id, (next X e).st id = refSt (l ++ [e]) id := fun id => by
      rw [refSt_snoc]
      by_cases hid : id = e.f2
      · subst hid
        rw [next_st_same h.tidy ha, stepS, if_pos ⟨rfl, fun h3 => ha (show _ ∨ _ by omega)⟩]
        unfold nv
        by_cases h3 : e.f0 = 3
        · rw [if_pos h3, if_pos h3]
        · rw [if_neg h3, if_neg h3]
          have h4 : 4 ≤ e.f0 := by have : ¬ (e.f0 = 1 ∨ e.f0 = 2) := ha; omega
          obtain ⟨K, hK4, hK⟩ := kind_fin ht.right h4
          obtain ⟨_, w2, w3, _⟩ := ways_goes K hK4
          have hin := taken_in ht h4
          rw [hK] at hin ⊢
          by_cases hg : (gF (K.val : Int)).2 ≥ 0
          · rw [if_pos hg, w2 hg]
          · rw [if_neg hg]
            rw [w3 hg, List.mem_singleton] at hin
            rw [← h.st]; exact hin.symm
      · rw [next_st_other hid, h.st, stepS, if_neg (fun hh => hid hh.1.symm)]
    have hid0 : e.f2 ≠ 0 := right_id ht.right (by have : ¬ (e.f0 = 1 ∨ e.f0 = 2) := ha; omega)
    have hsz : (next X e).size ≠ 0 := has_size (next_has_same h.tidy ha) (next_tidy h.tidy)
    by_cases h3 : e.f0 = 3
    · have hs : sts (l ++ [e]) = sts l ++ [e.f2] := by rw [sts_snoc, if_pos h3]
      have hnew : e.f2 ∉ sts l := by
        have hm := ht.may
        rw [h3, may_sta (may_c hm (by omega)), h.has] at hm
        simpa using hm
      refine ⟨next_tidy h.tidy, by rw [next_c, h.c]; simp, fun _ => by rw [next_last, last_snoc], fun h0 => by simp at h0, hst, fun id => ?_, ?_, ?_, ?_, ?_, by rw [next_op_start X h3]; have := h.op64; have := ht.few h3; omega⟩
      · rw [hs]
        by_cases hid : id = e.f2
        · subst hid; rw [next_has_same h.tidy ha]; simp
        · rw [next_has_other hid, h.has]; simp [hid]
      · rw [hs]; exact ⟨fun hh => absurd hh hsz, fun hh => by simp at hh⟩
      · rw [next_op_start X h3, hs, List.countP_append, h.op]
        have e1 : (sts l).countP (fun id => decide ((next X e).st id > 0)) = (sts l).countP (fun id => decide (X.st id > 0)) :=
          countP_same _ (fun id hi => by rw [next_st_other (fun hh => hnew (hh ▸ hi))])
        rw [e1]
        have e2 : (next X e).st e.f2 = 1 := by rw [next_st_same h.tidy ha]; unfold nv; rw [if_pos h3]
        simp [e2]
      · rw [hs]
        exact List.nodup_append.2 ⟨h.nodup, by simp, fun a ha b hb hab => hnew (by rw [List.mem_singleton] at hb; subst hb; rw [← hab]; exact ha)⟩
      · rw [hs]; intro id hi
        rcases List.mem_append.1 hi with hi | hi
        · exact h.ids id hi
        · rw [List.mem_singleton] at hi; subst hi; exact hid0
    · have hs : sts (l ++ [e]) = sts l := by rw [sts_snoc, if_neg h3]
      have h4 : 4 ≤ e.f0 := by have : ¬ (e.f0 = 1 ∨ e.f0 = 2) := ha; omega
      have hpos := taken_pos ht h4
      have hin : e.f2 ∈ sts l := by
        have : X.has e.f2 = true := by
          cases hh : X.has e.f2 with
          | true => rfl
          | false => rw [st_none hh] at hpos; omega
        rw [h.has] at this
        exact List.contains_iff_mem.1 this
      have hnv := next_st_same h.tidy ha (e := e)
      refine ⟨next_tidy h.tidy, by rw [next_c, h.c]; simp, fun _ => by rw [next_last, last_snoc], fun h0 => by simp at h0, hst, fun id => ?_, ?_, ?_, by rw [hs]; exact h.nodup, by rw [hs]; exact h.ids, by rw [next_op_rest X ha h3]; have := h.op64; split <;> omega⟩
      · rw [hs]
        by_cases hid : id = e.f2
        · subst hid; rw [next_has_same h.tidy ha]; exact (List.contains_iff_mem.2 hin).symm
        · rw [next_has_other hid]; exact h.has id
      · rw [hs]; exact ⟨fun hh => absurd hh hsz, fun hh => by rw [hh] at hin; simp at hin⟩
      · rw [next_op_rest X ha h3, hs, h.op]
        have hnv2 : nv e = (wayOf e.f0).2 := by unfold nv; rw [if_neg h3]
        by_cases hz : (wayOf e.f0).2 = 0
        · rw [if_pos hz]
          rw [countP_less (p := fun id => decide (X.st id > 0)) (q := fun id => decide ((next X e).st id > 0)) (x := e.f2) (by simpa using hpos) (by simp [hnv, hnv2, hz]) (sts l) h.nodup hin (fun y hy => by rw [next_st_other hy])]
          omega
        · rw [if_neg hz]
          congr 1
          refine (countP_same _ (fun id hi => ?_)).symm
          by_cases hid : id = e.f2
          · subst hid
            have := nv_nonneg ht ha
            rw [hnv, hnv2, decide_eq_true hpos, decide_eq_true]
            rw [hnv2] at this
            omega
          · rw [next_st_other hid]
/-- The document's walk over the states that lead on. -/
theorem from_l0 (l : List S31) (fr : List Int) (s : Int) (a0 a1 a2 : Int) (a3 a4 a5 a6 : ByteArray) (a7 a8 a9 : Int) (hl : 0 < l.length) (hf : fr.length ≤ 10) : ∀ (d j k : Nat) (b : Bool), j + d = fr.length → d + 800 < k →
    ∃ k', 790 ≤ k' ∧ transeptref15_Feed.l0 k l b fr s (j : Int) a0 a1 a2 a3 a4 a5 a6 a7 a8 a9 = transeptref15_Feed.j2 k' l (b || (fr.drop j).contains s) a0 a1 a2 a3 a4 a5 a6 a7 a8 a9
  | 0, j, k + 1, b, h, hk => ⟨k, by omega, by rw [transeptref15_Feed.l0, if_neg (by omega), List.drop_eq_nil_of_le (by omega)]; simp⟩
  | d + 1, j, k + 1, b, h, hk => by
    have hj : j < fr.length := by omega
    have hr : rd fr (j : Int) = fr[j] := by simp [rd, List.getD_eq_getElem?_getD, List.getElem?_eq_getElem hj]
    rw [transeptref15_Feed.l0, if_pos (by omega), if_pos (by omega), wrapN j (by omega), List.drop_eq_getElem_cons hj, List.contains_cons]
    cases b with
    | true =>
      rw [if_pos rfl]
      obtain ⟨k', h1, h2⟩ := from_l0 l fr s a0 a1 a2 a3 a4 a5 a6 a7 a8 a9 hl hf d (j + 1) k true (by omega) (by omega)
      exact ⟨k', h1, by rw [h2]; simp⟩
    | false =>
      rw [if_neg (by decide), if_pos (by omega), hr]
      obtain ⟨k', h1, h2⟩ := from_l0 l fr s a0 a1 a2 a3 a4 a5 a6 a7 a8 a9 hl hf d (j + 1) k (fr[j] == s) (by omega) (by omega)
      exact ⟨k', h1, by rw [h2, Bool.false_or, show (s == fr[j]) = (fr[j] == s) from Bool.beq_comm]⟩
theorem j2_f {X : LS} {l : List S31} (h : Pl X l) (hl : l.length ≤ 200) (k : Nat) (hk : 790 ≤ k) (m : Bool) (a0 a1 a2 : Int) (a3 a4 a5 a6 : ByteArray) (a7 a8 a9 : Int) :
    transeptref15_Feed.j2 k l m a0 a1 a2 a3 a4 a5 a6 a7 a8 a9 = some (if m = true then (if a0 = 3 then (if X.op = 64 then 5 else 0) else 0) else 6) := by
  obtain ⟨k, rfl⟩ : ∃ k', k = k' + 1 := ⟨k - 1, by omega⟩
  rw [transeptref15_Feed.j2]
  by_cases hm : m = true
  · rw [if_pos hm, if_pos hm]
    by_cases h3 : a0 = 3
    · rw [if_pos h3, if_pos h3, open_f l k hl (by omega), bind_s, ← h.opn]
      by_cases ho : X.op = 64
      · rw [if_pos ho, if_pos (by omega)]
      · rw [if_neg ho, if_neg (by have := h.op64; omega)]
    · rw [if_neg h3, if_neg h3]
  · rw [if_neg hm, if_neg hm]
theorem j0_f {X : LS} {l : List S31} {e : S31} (h : Pl X l) (hl : l.length ≤ 200) (hr : rightS e = true) (k : Nat) (hk : 1000 ≤ k) (late : Bool) :
    transeptref15_Feed.j0 k l late e.f0 e.f1 e.f2 e.f3 e.f4 e.f5 e.f6 e.f7 e.f8 e.f9 = some (if late = true then 6 else if mayF X e.f0 e.f2 = true then (if e.f0 = 3 then (if X.op = 64 then 5 else 0) else 0) else 6) := by
  obtain ⟨k, rfl⟩ : ∃ k', k = k' + 1 := ⟨k - 1, by omega⟩
  rw [transeptref15_Feed.j0]
  by_cases hla : late = true
  · rw [if_pos hla, if_pos hla]
  rw [if_neg hla, if_neg hla]
  have hkd := rightS_kind hr
  by_cases h1 : e.f0 = 1
  · rw [if_pos h1, j2_f h hl k (by omega)]
    have : mayF X e.f0 e.f2 = ((l.length : Int) == 0) := by
      rw [h1, may_page, h.c, decC]
    rw [this]
  rw [if_neg h1]
  by_cases h0 : l.length = 0
  · have hm : mayF X e.f0 e.f2 = false := by
      unfold mayF
      rw [if_pos (.inr (by rw [h.c]; exact h0)), decide_eq_false (fun hh => h1 hh.1)]
    rw [hm]
    by_cases h2 : e.f0 = 2
    · rw [if_pos h2, if_neg (by omega), j2_f h hl k (by omega)]
    rw [if_neg h2]
    by_cases h3 : e.f0 = 3
    · rw [if_pos h3, if_neg (by omega), j2_f h hl k (by omega)]
    rw [if_neg h3, goes_f, bind_s, state_f l e.f2 k hl (by omega), bind_s]
    obtain ⟨k, rfl⟩ : ∃ k', k = k' + 1 := ⟨k - 1, by omega⟩
    rw [transeptref15_Feed.l0]
    split
    · rw [if_neg (by omega), j2_f h hl k (by omega)]; simp
    · rw [j2_f h hl k (by omega)]; simp
  have hc : X.c ≠ 0 := by rw [h.c]; exact h0
  by_cases h2 : e.f0 = 2
  · rw [if_pos h2, if_pos (by omega), started_f l 0 k hl (by omega), bind_s, j2_f h hl k (by omega), any_sts0]
    have : mayF X e.f0 e.f2 = !(!(sts l).isEmpty) := by
      rw [h2, may_pol hc, Bool.not_not]
      rw [show decide (X.size = 0) = decide (sts l = []) from decide_eq_decide.2 h.size]
      cases sts l <;> rfl
    rw [this]
  rw [if_neg h2]
  by_cases h3 : e.f0 = 3
  · rw [if_pos h3, if_pos (by omega), started_f l e.f2 k hl (by omega), bind_s, j2_f h hl k (by omega), any_sts l e.f2 (right_id hr (by omega))]
    have : mayF X e.f0 e.f2 = !((sts l).contains e.f2) := by rw [h3, may_sta hc, h.has]
    rw [this]
  rw [if_neg h3, goes_f, bind_s, state_f l e.f2 k hl (by omega), bind_s]
  obtain ⟨K, hK4, hK⟩ := kind_fin hr (by omega)
  obtain ⟨w1, _, _, w4⟩ := ways_goes K hK4
  obtain ⟨k', hk', he⟩ := from_l0 l (gF e.f0).1 (refSt l e.f2) e.f0 e.f1 e.f2 e.f3 e.f4 e.f5 e.f6 e.f7 e.f8 e.f9 (by omega) (by rw [hK, w1]; exact w4) (gF e.f0).1.length 0 k false (by omega) (by rw [hK, w1]; omega)
  rw [show ((0 : Nat) : Int) = 0 from rfl] at he
  rw [he, j2_f h hl k' hk']
  have : mayF X e.f0 e.f2 = (false || (List.drop 0 (gF e.f0).1).contains (refSt l e.f2)) := by
    rw [may_res hc (by omega), h.st, List.drop_zero, Bool.false_or, hK, w1]
  rw [this]
theorem feed_ref {X : LS} {l : List S31} {e : S31} (h : Pl X l) (hl : l.length ≤ 200) (ht : 0 ≤ e.f1) : transeptref15_Feed.f 2000 l e.f0 e.f1 e.f2 e.f3 e.f4 e.f5 e.f6 e.f7 e.f8 e.f9 = some (feedF X e).1 := by
  unfold transeptref15_Feed.f
  rw [ref_rightS 1960 e, bind_s]
  unfold feedF
  cases hr : rightS e with
  | false => rw [if_neg (by decide), if_pos rfl]
  | true =>
    rw [if_pos rfl, if_neg (show ¬ ((l.length : Int) ≥ 4096) by omega), if_neg (show ¬ (true = false) by decide), if_neg (show ¬ X.c = 4096 by rw [h.c]; omega)]
    have key : ∀ late : Bool, (late = true ↔ e.f1 < X.last) → transeptref15_Feed.j0 2000 l late e.f0 e.f1 e.f2 e.f3 e.f4 e.f5 e.f6 e.f7 e.f8 e.f9 = some ((if e.f1 < X.last then ((6 : Int), X) else if mayF X e.f0 e.f2 = false then (6, X) else if e.f0 = 3 then (if X.op = 64 then (5, X) else (0, ⟨X.c + 1, e.f1, X.op + 1, X.D.put (.int .u64 e.f2) (.lit (.int .i64 1))⟩)) else if e.f0 = 1 ∨ e.f0 = 2 then (0, ⟨X.c + 1, e.f1, X.op, X.D⟩) else (0, ⟨X.c + 1, e.f1, if (wayOf e.f0).2 = 0 then X.op - 1 else X.op, X.D.put (.int .u64 e.f2) (.lit (.int .i64 (wayOf e.f0).2))⟩)).1) := by
      intro late hlate
      rw [j0_f h hl hr 2000 (by omega)]
      congr 1
      by_cases h1 : e.f1 < X.last
      · rw [if_pos (hlate.2 h1), if_pos h1]
      · rw [if_neg (fun hh => h1 (hlate.1 hh)), if_neg h1]
        cases hm : mayF X e.f0 e.f2 with
        | false => rw [if_neg (by decide), if_pos rfl]
        | true =>
          rw [if_pos (show true = true from rfl), if_neg (show ¬ (true = false) by decide)]
          by_cases h3 : e.f0 = 3
          · rw [if_pos h3, if_pos h3]; split <;> rfl
          · rw [if_neg h3, if_neg h3]; split <;> rfl
    by_cases h0 : 0 < l.length
    · rw [if_pos (by omega), w64 _ (by omega) (by omega), if_pos (by omega), if_pos (by omega)]
      refine key _ ?_
      rw [decide_eq_true_eq, h.last h0]
    · rw [if_neg (by omega)]
      refine key _ ?_
      rw [h.last0 (by omega)]
      simp
      omega
end Go.Proofs.YtjflbjlkcifpdaaDoor.Pure
