/- ShaPieces: what it holds, by hand. -/
import Derived.Deep.Matrix
import Derived.Great.BuildSlice
import Derived.Test.YtanafhccflmdkaaDoorZeros
import Derived.Test.YtanafhccflmdkaaDoorWApart
import Derived.Test.YtanafhccflmdkaaDoorShaG
namespace Go.Proofs.YtanafhccflmdkaaDoor.Ext
open Go.RowKit Go.Deep Go.ChangeShapes Go.WideShapes Go.Proofs.YtanafhccflmdkaaDoorW.PrintWords Go.Proofs.YtanafhccflmdkaaDoorW.PrintLast Go.Proofs.YtanafhccflmdkaaDoorW.PrintMore
set_option linter.unusedVariables false
set_option linter.unusedSimpArgs false
abbrev KdB : Kd (List Int) := Kd.slice 5 (Kd.int .u8)
theorem open_rows {H : Type} {enc : TypeId × Value → H} {W : World} {base fuel : Nat} {held : Bool} {a : Option Addr} {len cap : Nat} {x : DataW H × List MemPlace} (h : DataW.trod enc Tryd.prog W base (fun _ => true) held fuel 32 (Value.slice a len cap).cells.toList = some x) :
    ∃ l : List (List Int), l.length = len ∧ len ≤ cap ∧ (∀ b ∈ l, Bytes b) ∧ Kd.C KdB W a l.length l := by
  rcases open_int_rows Tryd.underlying32 Tryd.underlying22 Tryd.underlying5 (by kernel_rfl) (by kernel_rfl) h with ⟨hcs, _⟩ | ⟨ad, l, c, A, L, C, Z, hcs, _, hl, hm, _, hrow⟩
  · simp [Value.cells] at hcs
    obtain ⟨rfl, rfl, rfl⟩ := hcs
    exact ⟨[], rfl, Nat.le_refl _, fun _ h => by simp at h, rfl, by simp, fun h => by simp at h⟩
  · simp [Value.cells] at hcs
    obtain ⟨rfl, rfl, rfl⟩ := hcs
    refine ⟨(List.range len).map fun r => (Z r).take (L r), by simp, hl, fun b hb => ?_, rfl, by simp [maxLen] at hm ⊢; omega, fun _ => ⟨ad, rfl, fun j p hj => ?_⟩⟩
    · obtain ⟨r, hr, rfl⟩ := List.mem_map.1 hb
      obtain ⟨_, _, _, _, hw, _⟩ := hrow r (by have := List.mem_range.1 hr; omega)
      exact fun x hx => bytes_wf hw x (List.mem_of_mem_take hx)
    · rw [List.getElem?_map] at hj
      obtain ⟨r, hr, rfl⟩ := Option.map_eq_some_iff.1 hj
      obtain ⟨hjl, he⟩ := List.getElem?_eq_some_iff.1 hr
      rw [List.length_range] at hjl
      rw [List.getElem_range] at he
      subst he
      obtain ⟨h1, h2, h3, h4, h5, h6, h7⟩ := hrow j (by omega)
      have hlen : ((Z j).take (L j)).length = L j := by rw [List.length_take]; omega
      have hC : Kd.C (Kd.int .u8) W (A j) ((Z j).take (L j)).length ((Z j).take (L j)) := by
        refine Kd.C_of_reads (d := (0 : Int)) (h1 := fun _ => rfl) ⟨rfl, by simp only [maxLen] at h3; omega, fun hn => ?_⟩
        rw [hlen] at hn
        cases hA : A j with
        | none => exact absurd (h6 hA) (by omega)
        | some a' =>
          refine ⟨a', rfl, fun i hi => ?_⟩
          rw [hlen] at hi
          rw [(h7 a' hA).2 i (by omega)]
          simp [List.getD_eq_getElem?_getD, hi]
      refine ⟨[.slice (A j) ((Z j).take (L j)).length (C j)], rfl, ⟨A j, C j, rfl, by omega, hC⟩, fun i u hu => ?_⟩
      cases i with
      | zero =>
        simp at hu; subst hu
        have e : j * KdB.sz + 0 = j := by show j * 1 + 0 = j; omega
        rw [e, h1, ← List.length_take, hlen]
      | succ i => simp at hu
theorem rows_at {W : World} {A : Option Addr} {l : List (List Int)} (h : Kd.C KdB W A l.length l) (i : Nat) (b : List Int) (hb : l[i]? = some b) :
    ∃ ad A' c', A = some ad ∧ W.cell? (ad.add i) = some (.slice A' b.length c') ∧ b.length ≤ c' ∧ Kd.C (Kd.int .u8) W A' b.length b := by
  have hi : i < l.length := (List.getElem?_eq_some_iff.1 hb).1
  obtain ⟨ad, rfl, hc⟩ := h.2.2 (by omega)
  obtain ⟨c, hl, ⟨A', c', rfl, h1, h2⟩, h3⟩ := hc i b hb
  refine ⟨ad, A', c', rfl, ?_, h1, h2⟩
  have h4 := h3 0 _ rfl
  have e : i * KdB.sz + 0 = i := by show i * 1 + 0 = i; omega
  rw [e] at h4
  exact h4
theorem info40 : ∃ z, (Tryd.prog.info? 40).map (fun i => (i.zero, i.size, i.bytes)) = some (some z, 73, 104) ∧ z.cells.size = 73 := by
  have h : (Tryd.prog.info? 40).map (fun i => (i.zero.map (·.cells.size), i.size, i.bytes)) = some (some 73, 73, 104) := by kernel_rfl
  obtain ⟨i, hi, hz⟩ := Option.map_eq_some_iff.1 h
  simp only [Prod.mk.injEq] at hz
  obtain ⟨h1, h2, h3⟩ := hz
  obtain ⟨z, hz, hs⟩ := Option.map_eq_some_iff.1 h1
  exact ⟨z, by rw [hi]; simp [hz, h2, h3], hs⟩
theorem info25 : ∃ z, (Tryd.prog.info? 25).map (fun i => (i.zero, i.size, i.bytes)) = some (some z, 32, 32) ∧ z.cells.size = 32 := by
  have h : (Tryd.prog.info? 25).map (fun i => (i.zero.map (·.cells.size), i.size, i.bytes)) = some (some 32, 32, 32) := by kernel_rfl
  obtain ⟨i, hi, hz⟩ := Option.map_eq_some_iff.1 h
  simp only [Prod.mk.injEq] at hz
  obtain ⟨h1, h2, h3⟩ := hz
  obtain ⟨z, hz, hs⟩ := Option.map_eq_some_iff.1 h1
  exact ⟨z, by rw [hi]; simp [hz, h2, h3], hs⟩
theorem lit_big {ops : Array Oper} {rest : List Oper} {o : Oper} {a : Act} {w : World} {Q : Exit → Act → World → Prop} (hg : o.guard = none) (t e n : Nat) (x : Operand) (ho : o.op = .buildSlice t 1 #[(0, x)])
    (hu : Tryd.prog.underlying t = some (.slice e)) (bytes : Nat) (hie : ∃ z, (Tryd.prog.info? e).map (fun i => (i.zero, i.size, i.bytes)) = some (some z, n, bytes) ∧ z.cells.size = n) (hn : 0 < n) (hn2 : n ≤ 1000)
    (cs : Array Value) (hx : a.eval x = .agg cs) (hcs : cs.size = n)
    (h : wpList Tryd.prog ops Q rest (a.put o.dst (.slice (some ⟨w.heap.size, 0, none⟩) 1 1)) (w.alloc (.cells cs.toList.toArray e))) : wpList Tryd.prog ops Q (o :: rest) a w := by
  obtain ⟨z, hi, hz⟩ := hie
  obtain ⟨i, hi, hzz⟩ := Option.map_eq_some_iff.1 hi
  simp only [Prod.mk.injEq] at hzz
  obtain ⟨h1, h2, h3⟩ := hzz
  refine wpList_buildSlice hg t e 1 _ ho _ i z hu hi h1 (by rw [h2]; omega) (by rw [h2]; omega) ?_ h
  have h4 := Great.fill_whole hn [.agg cs] ((Array.range (1 * i.size)).map (z.cells[· % z.cells.size]!)) (by intro v hv; rw [List.mem_singleton.1 hv]; exact hcs) (by simp [h2])
  rw [h2] at h4 ⊢
  simpa [hx, Value.cells] using h4
end Go.Proofs.YtanafhccflmdkaaDoor.Ext
