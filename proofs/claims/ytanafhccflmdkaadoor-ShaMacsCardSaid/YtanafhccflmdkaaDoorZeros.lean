/- append of make, by hand. -/
import Derived.Test.YtanafhccflmdkaaDoorForks
import Derived.Lib.AppendZerosOnto
import Derived.Maps.AppendAt
namespace Go.Proofs.YtanafhccflmdkaaDoor.Ext
open Go.RowKit Go.Proofs.YtanafhccflmdkaaDoorW.PrintWords Go.Proofs.YtanafhccflmdkaaDoorW.PrintLast Go.Proofs.YtanafhccflmdkaaDoorW.PrintMore
set_option linter.unusedVariables false
set_option linter.unusedSimpArgs false
theorem u22 : Tryd.prog.underlying 22 = some (.slice 5) := Tryd.underlying22
theorem u3 : Tryd.prog.underlying 3 = some (.int .i64) := Tryd.underlying3
theorem i5 : ∃ i : TypeInfo, Tryd.prog.info? 5 = some i ∧ i.zero = some (.int .u8 0) ∧ i.size = 1 ∧ i.bytes = 1 := by
  obtain ⟨i0, hi, hz⟩ := Option.map_eq_some_iff.1 info5
  simp only [Prod.mk.injEq] at hz
  exact ⟨i0, hi, hz⟩
theorem zcs (m : Nat) : Builtin.zeroCells (Value.int .u8 0).cells m = (encs (Value.int .u8) (List.replicate m (0 : Int))).toArray := by
  apply Array.ext'
  simp only [Builtin.zeroCells, Value.cells, encs, List.map_replicate]
  apply List.ext_getElem?
  intro j
  by_cases hj : j < m
  · simp [hj, Nat.mod_one]
  · simp [hj]
/-- append(x, make([]byte, m)...) -/
theorem runs_zeros (W : World) (base : Nat) (ok : Nat → Prop) (v : Value) (xs : List Int) (m : Nat) (ty : TypeId) (HO : Kd.R (Kd.int .u8) 5 W base ok v xs) (hl : xs.length + m ≤ 1000000) (hbase : base ≤ W.heap.size) (hok : ∀ k, W.heap.size ≤ k → ok k) :
    ∃ v1 w1, (Builtin.append_ #[22, 3] ty #[v, .int .i64 (m : Int)]).run Tryd.prog W = .ok v1 w1 ∧ Kd.R (Kd.int .u8) 5 w1 base ok v1 (xs ++ List.replicate m 0) ∧ W.grownBy w1 v.ownBlock ∧ (v1.ownBlock = v.ownBlock ∨ v1.ownBlock = some W.heap.size) := by
  have hown := Kd.own_of_R HO
  obtain ⟨i, hi, hz, hs, hb⟩ := i5
  have hlen : (encs (Value.int .u8) (xs ++ List.replicate m 0)).length = (xs ++ List.replicate m 0).length := by simp [encs]
  have hxl : (encs (Value.int .u8) xs).length = xs.length := by simp [encs]
  have happ : encs (Value.int .u8) (xs ++ List.replicate m 0) = encs (Value.int .u8) xs ++ encs (Value.int .u8) (List.replicate m 0) := by simp [encs]
  have hzl : (encs (Value.int .u8) (List.replicate m (0 : Int))).length = m := by simp [encs]
  have hL : (xs ++ List.replicate m (0 : Int)).length = xs.length + m := by simp
  have hw : IntKind.i64.wrap (m : Int) = m := by rw [IntKind.wrap_i64]; omega
  have h48i : ¬ (281474976710656 < (m : Int)) := by omega
  have hneg : ¬ ((m : Int) < 0) := by omega
  suffices h : ∃ v1 w1, (Builtin.append_ #[22, 3] ty #[v, .int .i64 (m : Int)]).run Tryd.prog W = .ok v1 w1 ∧ w1.ownsRow base 5 1 v1 (xs ++ List.replicate m 0).length (encs (Value.int .u8) (xs ++ List.replicate m 0)) ∧ W.grownBy w1 v.ownBlock ∧ (v1.ownBlock = v.ownBlock ∨ v1.ownBlock = some W.heap.size) by
    obtain ⟨v1, w1, hr, h1, h2, h3⟩ := h
    refine ⟨v1, w1, hr, Kd.R_of_own h1 (fun k hk => ?_), h2, h3⟩
    rcases h3 with e1 | e1
    · exact HO.1 k (by rw [← e1]; exact hk)
    · rw [e1] at hk
      injection hk with hk
      exact hok _ (by omega)
  have grows : ∀ (bs : Option Addr) (cap : Nat), v = .slice bs xs.length cap → 0 < m → cap < xs.length + m → (Builtin.firstCells i.size xs.length (.slice bs xs.length cap)).run Tryd.prog W.drew = .ok (encs (Value.int .u8) xs).toArray W.drew →
      Builtin.nextslicecap (xs.length + m) cap * i.bytes ≤ 281474976710656 →
      ∃ v1 w1, (Builtin.append_ #[22, 3] ty #[v, .int .i64 (m : Int)]).run Tryd.prog W = .ok v1 w1 ∧ w1.ownsRow base 5 1 v1 (xs ++ List.replicate m 0).length (encs (Value.int .u8) (xs ++ List.replicate m 0)) ∧ W.grownBy w1 v.ownBlock ∧ (v1.ownBlock = v.ownBlock ∨ v1.ownBlock = some W.heap.size) := by
    rintro bs cap rfl h0 hc hold hfit
    have hr := Lib.run_append_grow_zeros W 22 3 ty 5 i (.int .u8 0) .i64 .i64 u22 u3 hi hz bs xs.length cap (encs (Value.int .u8) xs) hold m h0 (by omega) hc (by omega) (by rw [hb]; omega) hfit
    have hge := grownCap_ge W (xs.length + m) cap 5
    have hcm : grownCap W (xs.length + m) cap 5 ≤ maxLen := grownCap_le_maxLen W (xs.length + m) cap 5 (by simp only [maxLen]; omega)
    refine ⟨_, _, hr, ⟨by rw [hlen, Nat.mul_one], .inr ⟨W.heap.size, _, _, by rw [hL], hbase, heap_alloc_new W.drew _, by rw [hL]; exact hge, hcm, ?_, ?_⟩⟩, ⟨rfl, rfl, rfl, by simp, fun k hk _ => heap_alloc_old W.drew _ hk⟩, .inr rfl⟩
    · simp only [Array.size_append, List.size_toArray, size_zeroCells, hxl, Value.cells]
      simp; omega
    · rw [zcs]
      simp only [Array.toList_append, List.append_assoc]
      rw [← List.append_assoc, ← happ, ← hlen, Nat.mul_one]
      exact List.take_left
  have hw0 : IntKind.i64.wrap 0 = 0 := by decide
  by_cases hm : m = 0
  · subst hm
    refine ⟨v, W, ?_, by simpa using hown, World.grownBy.refl W _, .inl rfl⟩
    rcases hown.2 with ⟨rfl, hn⟩ | ⟨g, cap, cur, rfl, hbg, hg, hnc, hcm, hcs, htake⟩
    · simp [Builtin.append_, run_underlying u22, run_underlying u3, sizeOf, typeInfo, hi, hw0, asInt, asIntOf]
    · simp [Builtin.append_, run_underlying u22, run_underlying u3, sizeOf, typeInfo, hi, hw0, asInt, asIntOf, hnc, storeCells]
  rcases hown.2 with ⟨rfl, hn⟩ | ⟨g, cap, cur, rfl, hbg, hg, hnc, hcm, hcs, htake⟩
  · have hx : xs = [] := List.eq_nil_of_length_eq_zero hn
    subst hx
    exact grows none 0 rfl (by omega) (by simp; omega) (run_firstCells_none W.drew i.size 0 0 _) (by rw [hb, nextslicecap_zero (by simp; omega)]; simp at hl ⊢; omega)
  · by_cases hroom : xs.length + m ≤ cap
    · have hfit : xs.length * i.size + (encs (Value.int .u8) (List.replicate m (0 : Int))).length ≤ cur.size := by rw [hs, hzl]; omega
      have hst := run_storeCells_at Tryd.prog g (xs.length * i.size) 5 (encs (Value.int .u8) (List.replicate m (0 : Int))) 0 cur W hg (by simpa using hfit) (by intro u hu; simp only [encs, List.mem_map] at hu; obtain ⟨q, _, rfl⟩ := hu; rfl)
      simp only [Nat.add_zero] at hst
      have hm1 : ¬ (m * i.size = 0) := by rw [hs]; omega
      have hr : (Builtin.append_ #[22, 3] ty #[.slice (some ⟨g, 0, none⟩) xs.length cap, .int .i64 (m : Int)]).run Tryd.prog W = .ok (.slice (some ⟨g, 0, none⟩) (xs.length + m) cap) (W.setRow g (cur.toList.take (xs.length * i.size) ++ encs (Value.int .u8) (List.replicate m 0) ++ cur.toList.drop (xs.length * i.size + (encs (Value.int .u8) (List.replicate m (0 : Int))).length)).toArray) := by
        simp [Builtin.append_, run_underlying u22, run_underlying u3, sizeOf, typeInfo, zeroValue, hi, hz, hw, hneg, hb, h48i, asInt, asIntOf, hroom, hm1, zcs, Addr.add_lit, hst]
      refine ⟨_, _, hr, ⟨by rw [hlen, Nat.mul_one], .inr ⟨g, cap, _, by rw [hL], hbg, setRow_heap W g cur _ 5 _ hg, by rw [hL]; exact hroom, hcm, ?_, ?_⟩⟩, ⟨rfl, rfl, rfl, by simp, fun k _ hk => setRow_other W g k _ (fun e => hk (by simp [Value.ownBlock, e]))⟩, .inl rfl⟩
      · rw [hs, hzl]
        simp only [List.size_toArray, List.length_append, List.length_take, List.length_drop, Array.length_toList, hzl]
        omega
      · rw [hs]
        rw [htake, ← happ, ← hlen, Nat.mul_one]
        exact List.take_left
    · have holds : ∀ j u, (encs (Value.int .u8) xs)[j]? = some u → W.drew.cell? ((⟨g, 0, none⟩ : Addr).add j) = some u := by
        intro j u h_
        have := hown.cells (g := g) rfl j u h_
        simpa using this
      exact grows _ cap rfl (by omega) (by omega) (run_firstCells_some W.drew i.size _ ⟨g, 0, none⟩ _ _ _ (by rw [hs, hxl, Nat.mul_one]) holds) (growslice_fits (by omega) (by rw [hb]; omega))
theorem runs_app (W : World) (base : Nat) (ok : Nat → Prop) (v : Value) (xs ys : List Int) (A : Option Addr) (c : Nat) (ty : TypeId) (HO : Kd.R (Kd.int .u8) 5 W base ok v xs) (HC : Kd.C (Kd.int .u8) W A ys.length ys) (hl : xs.length + ys.length ≤ 1000000) (hbase : base ≤ W.heap.size) (hok : ∀ k, W.heap.size ≤ k → ok k) :
    ∃ v1 w1, (Builtin.append_ #[22, 22] ty #[v, .slice A ys.length c]).run Tryd.prog W = .ok v1 w1 ∧ Kd.R (Kd.int .u8) 5 w1 base ok v1 (xs ++ ys) ∧ W.grownBy w1 v.ownBlock ∧ (v1.ownBlock = v.ownBlock ∨ v1.ownBlock = some W.heap.size) := by
  have hown := Kd.own_of_R HO
  have HR := Kd.reads_of_C (d := (0 : Int)) HC
  obtain ⟨i, hi, hz, hs, hb⟩ := i5
  suffices h : ∃ v1 w1, (Builtin.append_ #[22, 22] ty #[v, .slice A ys.length c]).run Tryd.prog W = .ok v1 w1 ∧ w1.ownsRow base 5 1 v1 (xs ++ ys).length (encs (Value.int .u8) (xs ++ ys)) ∧ W.grownBy w1 v.ownBlock ∧ (v1.ownBlock = v.ownBlock ∨ v1.ownBlock = some W.heap.size) by
    obtain ⟨v1, w1, hr, h1, h2, h3⟩ := h
    refine ⟨v1, w1, hr, Kd.R_of_own h1 (fun k hk => ?_), h2, h3⟩
    rcases h3 with e1 | e1
    · exact HO.1 k (by rw [← e1]; exact hk)
    · rw [e1] at hk
      injection hk with hk
      exact hok _ (by omega)
  by_cases h0 : ys.length = 0
  · obtain rfl : ys = [] := List.eq_nil_of_length_eq_zero h0
    refine ⟨v, W, ?_, by simpa using hown, World.grownBy.refl W _, .inl rfl⟩
    rcases hown.2 with ⟨rfl, hn⟩ | ⟨g, cap, cur, rfl, _, _, hnc, _⟩ <;> rcases A with _ | ad
    · simp [Builtin.append_, run_underlying u22, sizeOf, typeInfo, hi, Builtin.lenOf, Builtin.firstCells]
    · simp [Builtin.append_, run_underlying u22, sizeOf, typeInfo, hi, Builtin.lenOf, Builtin.firstCells, loadCells, loadCellsFrom]
    · simp [Builtin.append_, run_underlying u22, sizeOf, typeInfo, hi, Builtin.lenOf, Builtin.firstCells, hnc, storeCells]
    · simp [Builtin.append_, run_underlying u22, sizeOf, typeInfo, hi, Builtin.lenOf, Builtin.firstCells, hnc, storeCells, loadCells, loadCellsFrom]
  · obtain ⟨ad, rfl, hc⟩ := HR.2.2 (by omega)
    have hcells : ∀ j u, (encs (Value.int .u8) ys)[j]? = some u → W.cell? (ad.add j) = some u := by
      intro j u hu
      have hj : j < ys.length := by
        rcases Nat.lt_or_ge j ys.length with h | h
        · exact h
        · simp [encs, List.getElem?_eq_none h] at hu
      rw [encs_get (d := (0 : Int)) ys j hj] at hu
      rw [← hu]
      exact hc j hj
    obtain ⟨v1, w1, hr, h2, h3, _, h5⟩ := run_append_own_at (P := Tryd.prog) W base 22 ty 5 i (.int .u8 0) 1 1 u22 hi hz hs hb rfl (by omega) v xs.length (encs (Value.int .u8) xs) hown ad ys.length c (encs (Value.int .u8) ys) (by simp [encs]) hcells
      (by intro u hu; simp only [encs, List.mem_map] at hu; obtain ⟨q, _, rfl⟩ := hu; rfl) (by simp only [maxLen]; omega) (by omega) hbase
    exact ⟨v1, w1, hr, by simpa [encs] using h2, h3, h5⟩
/-- An empty row that was just made. -/
theorem R_new (W : World) (base : Nat) (hb : base ≤ W.heap.size) : Kd.R (Kd.int .u8) 5 (W.alloc (.cells #[] 5)) base (fun _ => True) (.slice (some ⟨W.heap.size, 0, none⟩) 0 0) [] :=
  Kd.R_of_own (by simpa [encs] using World.ownsRow_lit (base := base) (e := 5) (size := 1) W #[] 0 hb (by decide) rfl) (fun _ _ => trivial)
theorem grown_below {w W w1 : World} {v : Value} {xs : List Int} {ok : Nat → Prop} (hg : W.grownBy w1 v.ownBlock) (HO : Kd.R (Kd.int .u8) 5 W w.heap.size ok v xs) (HB : Below w.heap.size w W) : Below w.heap.size w w1 :=
  HB.grown hg HB.size (Kd.R_base HO)
end Go.Proofs.YtanafhccflmdkaaDoor.Ext
