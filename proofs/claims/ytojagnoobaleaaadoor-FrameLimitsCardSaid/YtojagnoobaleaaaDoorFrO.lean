/- A parameter that is a row of rows of bytes, opened. -/
import Derived.Deep.Matrix
import Derived.Test.YtojagnoobaleaaaDoorFrS
namespace Go.Proofs.YtojagnoobaleaaaDoor.Ext
open Go.RowKit Go.Deep Go.ChangeShapes Go.WideShapes Go.Proofs.YtojagnoobaleaaaDoorW.PrintWords Go.Proofs.YtojagnoobaleaaaDoorW.PrintLast Go.Proofs.YtojagnoobaleaaaDoorW.PrintMore
set_option linter.unusedVariables false
theorem open_rows {H : Type} {enc : TypeId × Value → H} {W : World} {base fuel : Nat} {held : Bool} {a : Option Addr} {len cap : Nat} {x : DataW H × List MemPlace} (h : DataW.trod enc Tryd.prog W base (fun _ => true) held fuel 24 (Value.slice a len cap).cells.toList = some x) :
    ∃ l : List (List Int), l.length = len ∧ len ≤ cap ∧ (∀ b ∈ l, Bytes b) ∧ Kd.C KdB W a l.length l := by
  rcases open_int_rows Tryd.underlying24 Tryd.underlying22 Tryd.underlying5 (by kernel_rfl) (by kernel_rfl) h with ⟨hcs, _⟩ | ⟨ad, l, c, A, L, C, Z, hcs, _, hl, hm, _, hrow⟩
  · simp [Value.cells] at hcs
    obtain ⟨rfl, rfl, rfl⟩ := hcs
    exact ⟨[], rfl, Nat.le_refl _, fun _ h => by simp at h, rfl, by simp, fun h => by simp at h⟩
  · simp [Value.cells] at hcs
    obtain ⟨rfl, rfl, rfl⟩ := hcs
    refine ⟨(List.range len).map fun r => (Z r).take (L r), by simp, hl, fun b hb => ?_, rfl, by simp [maxLen] at hm ⊢; omega, fun _ => ⟨ad, rfl, fun j p hj => ?_⟩⟩
    · obtain ⟨r, hr, rfl⟩ := List.mem_map.1 hb
      obtain ⟨_, _, _, _, hw, _⟩ := hrow r (by have := List.mem_range.1 hr; omega)
      exact (bytes_wf hw).take _
    · rw [List.getElem?_map] at hj
      obtain ⟨r, hr, rfl⟩ := Option.map_eq_some_iff.1 hj
      obtain ⟨hjl, he⟩ := List.getElem?_eq_some_iff.1 hr
      rw [List.length_range] at hjl
      rw [List.getElem_range] at he
      subst he
      obtain ⟨h1, h2, h3, h4, h5, h6, h7⟩ := hrow j (by omega)
      have hlen : ((Z j).take (L j)).length = L j := by rw [List.length_take]; omega
      have hC : Kd.C (Kd.int .u8) W (A j) ((Z j).take (L j)).length ((Z j).take (L j)) := by
        refine Kd.C_of_reads (d := (0 : Int)) (h1 := fun _ => rfl) ⟨rfl, by simp only [maxLen] at h3; omega, fun hn => ?_⟩
        rw [hlen] at hn
        cases hA : A j with
        | none => exact absurd (h6 hA) (by omega)
        | some a' =>
          refine ⟨a', rfl, fun i hi => ?_⟩
          rw [hlen] at hi
          rw [(h7 a' hA).2 i (by omega)]
          simp [List.getD_eq_getElem?_getD, hi]
      refine ⟨[.slice (A j) ((Z j).take (L j)).length (C j)], rfl, ⟨A j, C j, rfl, by omega, hC⟩, fun i u hu => ?_⟩
      cases i with
      | zero =>
        simp at hu; subst hu
        have e : j * KdB.sz + 0 = j := by show j * 1 + 0 = j; omega
        rw [e, h1, ← List.length_take, hlen]
      | succ i => simp at hu
end Go.Proofs.YtojagnoobaleaaaDoor.Ext
