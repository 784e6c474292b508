/- The row of the law CacheTwice, out of the walk by hand. No condition. -/
import Derived.Test.YtkomjplajfjpkaaRows
import Derived.Deep.Strs
import Derived.Test.YtkomjplajfjpkaaTwi
import Derived.WalkKit
import Derived.ProofKit
import Derived.OpenShut
import Derived.ShutString
import Derived.ChangeOld
import Derived.Below
import Derived.SizedLaws
import Derived.Test.YtkomjplajfjpkaaWSized
namespace Go.Proofs.Ytkomjplajfjpkaa.cacheTwice
open Go.ChangeShapes Go.WideShapes Go.ChangeAt Go.RowKit
open Go.ChangeMaps (open_string shut_string)
set_option linter.unusedVariables false
theorem own : ownKnob Try.prog.godebug = none := by kernel_rfl
theorem laidOut : laidOutB Try.prog = true := by kernel_rfl
theorem rowgen_ints {H : Type} {enc : TypeId × Value → H} {W : World} {base fuel : Nat} {held : Bool} {a : Option Addr} {len cap : Nat} {t e : TypeId} {k : IntKind} {x : DataW H × List MemPlace} (ht : Try.prog.underlying t = some (.slice e)) (he : Try.prog.underlying e = some (.int k)) (hc : Try.prog.cellsOf e = 1)
    (h : DataW.trod enc Try.prog W base (fun _ => true) held fuel t (Value.slice a len cap).cells.toList = some x) :
    ∃ l : List Int, l.length = len ∧ len ≤ cap ∧ (∀ y ∈ l, (Lit.int k y).wf = true) ∧ (Go.Proofs.YtkomjplajfjpkaaW.PrintWords.Kd.int k).C W a l.length l := by
  rcases open_ints ht he hc h with ⟨hcs, _⟩ | ⟨ad, l, c, zs, hcs, _, hl, hm, hz, _, hcell, hwz⟩
  · simp [Value.cells] at hcs
    obtain ⟨rfl, rfl, rfl⟩ := hcs
    exact ⟨[], rfl, Nat.le_refl _, fun _ h => by simp at h, rfl, by simp, fun h => by simp at h⟩
  · simp [Value.cells] at hcs
    obtain ⟨rfl, rfl, rfl⟩ := hcs
    have hzl : zs.length = cap := by simpa using hz
    have htl : (zs.take len).length = len := by rw [List.length_take]; omega
    refine ⟨zs.take len, htl, hl, fun y hy => hwz y (List.mem_of_mem_take hy), Go.Proofs.YtkomjplajfjpkaaW.PrintWords.Kd.C_of_reads (d := (0 : Int)) (h1 := fun _ => rfl) ⟨rfl, by rw [htl]; simp only [maxLen] at hm; omega, fun _ => ⟨ad, rfl, fun i hi => ?_⟩⟩⟩
    rw [htl] at hi
    rw [hcell i (by omega)]
    simp [List.getD_eq_getElem?_getD, hi]
theorem rowgen_strs {H : Type} {enc : TypeId × Value → H} {W : World} {base fuel : Nat} {held : Bool} {a : Option Addr} {len cap : Nat} {t e : TypeId} {x : DataW H × List MemPlace} (ht : Try.prog.underlying t = some (.slice e)) (he : Try.prog.underlying e = some .string) (hc : Try.prog.cellsOf e = 1)
    (h : DataW.trod enc Try.prog W base (fun _ => true) held fuel t (Value.slice a len cap).cells.toList = some x) :
    ∃ l : List ByteArray, l.length = len ∧ len ≤ cap ∧ (∀ y ∈ l, y.size ≤ maxLen) ∧ Go.Proofs.YtkomjplajfjpkaaW.PrintWords.Kd.string.C W a l.length l := by
  rcases Go.Deep.open_strs ht he hc h with ⟨hcs, _⟩ | ⟨ad, l, c, m, Sx, hcs, _, hl, hm, hmm, _, hx⟩
  · simp [Value.cells] at hcs
    obtain ⟨rfl, rfl, rfl⟩ := hcs
    exact ⟨[], rfl, Nat.le_refl _, fun _ h => by simp at h, rfl, by simp, fun h => by simp at h⟩
  · simp [Value.cells] at hcs
    obtain ⟨rfl, rfl, rfl⟩ := hcs
    obtain rfl : m = cap := by simpa using hmm
    have htl : ((List.range len).map Sx).length = len := by rw [List.length_map, List.length_range]
    refine ⟨(List.range len).map Sx, htl, hl, fun y hy => ?_, Go.Proofs.YtkomjplajfjpkaaW.PrintWords.Kd.C_of_reads (d := ByteArray.empty) (h1 := fun _ => rfl) ⟨rfl, by rw [htl]; simp only [maxLen] at hm; omega, fun _ => ⟨ad, rfl, fun i hi => ?_⟩⟩⟩
    · obtain ⟨i, hi, rfl⟩ := List.mem_map.1 hy
      exact (hx i (by have := List.mem_range.1 hi; omega)).2
    · rw [htl] at hi
      rw [(hx i (by omega)).1]
      simp [List.getD_eq_getElem?_getD, hi]
set_option maxRecDepth 100000 in
theorem lifted (os : Os) (started : os.Started) (H : Type) (enc : TypeId × Value → H) :
    ReturnsInHanded {} Try.checked os 7 .any (Rows.cacheTwiceSpec.pre6 enc Try.prog Try.f7 Rows.cacheTwiceRow.domain false) (Rows.cacheTwiceSpec.post enc Try.prog Try.f7 false true false false) := by
  refine returnsInHanded_of_change_sized (C := Try.checked) own started (by kernel_rfl) Try.func7
    (ChangeSpec.witness6 (enc := enc) (C := Try.checked) false ⟨#[], #[.slice none 0 0, .slice none 0 0, .int .u64 0], []⟩ 8 (by kernel_rfl) (by kernel_rfl) (by kernel_rfl) (by kernel_rfl)) ?_
  intro W base args ds gs before hval0 hW hcnd hsz0 _
  have hsz : (DataW.weightsEach Try.prog (Try.f7.params.toList ++ Rows.cacheTwiceSpec.plain.varTypes Try.prog) (ds ++ gs)).all (· ≤ reachBytes) = true := hsz0
  have hval : ∀ (j : Nat) t v, Try.f7.params[j]? = some t → args[j]? = some v → Value.okWide Try.prog W .any base t v := hval0
  have hW' := hW
  obtain ⟨p, q, hA0, hV, rfl, hfz, hnd⟩ := hW
  have hA : DataW.TrodAll enc Try.prog W 0 (fun _ => true) true Try.f7.params.toList args.toList ds p := hA0
  rw [Try.params7] at hA hval hsz
  obtain ⟨v0, vs0, d0, ds0, p0, q0, hargs, rfl, rfl, h0, r0⟩ := trodAll_cons hA
  obtain ⟨v1, vs1, d1, ds1, p1, q1, rfl, rfl, rfl, h1, r1⟩ := trodAll_cons r0
  obtain ⟨v2, vs2, d2, ds2, p2, q2, rfl, rfl, rfl, h2, r2⟩ := trodAll_cons r1
  obtain ⟨rfl, rfl, rfl⟩ := trodAll_nil r2
  obtain rfl : args = #[v0, v1, v2] := by cases args; simp_all
  obtain ⟨rfl, rfl⟩ := trodVars_none hV
  obtain ⟨a0, len0, c0, rfl⟩ := okWide_slice Try.underlying39 (hval 0 39 v0 rfl rfl)
  have k0 := h0
  have lt0 : ∀ x ∈ p0, x.block < W.heap.size := by obtain ⟨m, hm⟩ := k0; exact DataW.trod_lt m _ _ _ hm
  obtain ⟨m0, hm0⟩ := h0
  obtain ⟨l0, rfl, L0, W0, C0⟩ := rowgen_strs Try.underlying39 Try.underlying9 (by kernel_rfl) hm0
  obtain ⟨a1, len1, c1, rfl⟩ := okWide_slice Try.underlying40 (hval 1 40 v1 rfl rfl)
  have k1 := h1
  have lt1 : ∀ x ∈ p1, x.block < W.heap.size := by obtain ⟨m, hm⟩ := k1; exact DataW.trod_lt m _ _ _ hm
  obtain ⟨m1, hm1⟩ := h1
  obtain ⟨l1, rfl, L1, W1, C1⟩ := rowgen_ints (k := .u64) Try.underlying40 Try.underlying23 (by kernel_rfl) hm1
  obtain ⟨a2, rfl, rfl, rfl, W2⟩ := open_int Try.underlying23 (hval 2 23 v2 rfl rfl) h2
  clear hA0 hval0 hsz0 hsz
  refine (Ext.Twice a0 c0 l0 a1 c1 l1 a2 W C0 C1 W0 W1).mono fun e W' ⟨he, bel⟩ => ?_
  subst he
  exact ⟨_, rfl, _, _, _, [], _, [], hW', trodAll_mk1 (shut_bool Try.underlying4 _), (trodAll_cons_mk (Below.trod laidOut (by kernel_rfl) (of_decide_eq_true (by kernel_rfl)) k0 bel lt0) (trodAll_cons_mk (Below.trod laidOut (by kernel_rfl) (of_decide_eq_true (by kernel_rfl)) k1 bel lt1) (trodAll_cons_mk (shut_int Try.underlying23 W2) trodAll_mk0))), rfl, bel.frame _, fun h => by cases h⟩
theorem over : Rows.cacheTwiceRow.holds Try.pinned (OpenSpec.ofChange Rows.cacheTwiceSpec) :=
  OpenClaim.holds_of_wide 7 Try.f7 rfl rfl rfl rfl rfl rfl rfl ⟨rfl, rfl, rfl, rfl, rfl⟩ rfl rfl rfl rfl rfl (by kernel_rfl) Try.func7 (by kernel_rfl)
    (of_decide_eq_true (by kernel_rfl)) (by unfold Func.isWrapper; first | (rw [if_pos (by decide +kernel)]; kernel_rfl) | (rw [if_neg (by decide +kernel)]; exact ⟨rfl, rfl⟩))
    (fun os started H enc _ => lifted os started H enc)
theorem proved : Rows.CacheTwiceSaid := over
#print axioms proved
end Go.Proofs.Ytkomjplajfjpkaa.cacheTwice
namespace Go.Proofs.Ytkomjplajfjpkaa
/-- The row, under a short name, for the claim. -/
theorem cacheTwice_holds : Rows.CacheTwiceSaid := cacheTwice.proved
end Go.Proofs.Ytkomjplajfjpkaa
