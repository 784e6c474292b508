/- field.Get: by hand. -/
import Derived.Test.YtbldmicpnibnpaaDoorVal
namespace Go.Proofs.YtbldmicpnibnpaaDoor.Xa
open Go.RowKit Go.Proofs.YtbldmicpnibnpaaDoor.Ext Go.Proofs.YtbldmicpnibnpaaDoorW.PrintWords Go.Proofs.YtbldmicpnibnpaaDoorW.PrintLast Go.Proofs.YtbldmicpnibnpaaDoorW.PrintMore
set_option linter.unusedVariables false
set_option linter.unusedSimpArgs false
def joinB (xs : List ByteArray) (sep : ByteArray) : ByteArray := ⟨(Lib.join (xs.map (·.data.toList)) sep.data.toList).toArray⟩
def strings_Join.f (xs : List ByteArray) (sep : ByteArray) : Option ByteArray := if xs.length ≤ 140737488355328 ∧ (Lib.join (xs.map (·.data.toList)) sep.data.toList).length ≤ 140737488355328 then some (joinB xs sep) else none
theorem strings_Join.own {w : World} {base : Nat} {ok : Nat → Prop} {v : Value} {xs : List ByteArray} (hR : Kd.R Kd.string 9 w base ok v xs) (sep r : ByteArray) (h : strings_Join.f xs sep = some r) : Calls Tryd.prog 14 #[v, .string sep] w fun e w' => e = .returned (.string r) ∧ Below w.heap.size w w' := by
  unfold strings_Join.f at h
  split at h
  · rename_i hc
    obtain rfl := Option.some.inj h
    obtain ⟨A, c, rfl, hcap, hC⟩ := Kd.R_reads hR
    cases xs with
    | nil =>
      refine (Tryd.strings_Join_none A c sep w).mono ?_
      rintro e w' ⟨rfl, rfl⟩
      exact ⟨rfl, Below.refl _ _⟩
    | cons x xs =>
      obtain ⟨ad, hA, _⟩ := hC.2.2 (by simp)
      subst hA
      obtain ⟨g, rfl⟩ := Kd.R_head hR
      have hlt := Kd.R_lt hR g rfl
      refine (Tryd.strings_Join g 0 c (x :: xs) sep w (fun j y hy => ?_) hlt hc.1 hcap hc.2).mono ?_
      · obtain ⟨hj, hy2⟩ := List.getElem?_eq_some_iff.1 hy
        obtain ⟨ad2, h1, h2⟩ := Kd.at_string hC (j : Int) (by omega) (by omega)
        obtain rfl := Option.some.inj h1
        rw [Nat.zero_add]
        rw [add_plain] at h2
        simp only [Int.toNat_natCast] at h2
        rw [h2]
        simp [rdOf, List.getD_eq_getElem?_getD, hy]
      · rintro e w' ⟨rfl, hb⟩
        exact ⟨rfl, hb⟩
  · cases h
def field_Get.f (k : Nat) (l0 : List (S31)) (a1 : ByteArray) : Option (ByteArray × Bool) := (field_values.f k l0 a1).bind fun t109 => ((strings_Join.f t109 (⟨#[44, 32]⟩ : ByteArray)).bind fun t112 => (some (t112, decide ((t109.length : Int) > 0))))
theorem field_Get.mono : ∀ a0 a1 k, LeO (field_Get.f k a0 a1) (field_Get.f (k + 1) a0 a1) := by
  intro a0 a1 k
  unfold field_Get.f
  exact LeO.bind (field_values.mono _ _ _) (fun _ => LeO.refl _)
set_option maxHeartbeats 2000000 in
theorem field_Get.calls (k : Nat) (A0 : Option Addr) (c0 : Nat) (l0 : List (S31)) (a1 : ByteArray) (r1 : ByteArray) (r2 : Bool) (w : World) (hr0 : Kd.C k31 w A0 l0.length l0) (hc0 : l0.length ≤ c0) (h : field_Get.f k l0 a1 = some (r1, r2)) :
    Calls Tryd.prog 6 #[.slice A0 l0.length c0, .string a1] w fun e w' => e = .returned (.tuple #[.string r1, .bool r2]) ∧ Below w.heap.size w w' := by
  unfold field_Get.f at h
  obtain ⟨vs, h1, h⟩ := Option.bind_eq_some_iff.mp h
  obtain ⟨js, h2, h⟩ := Option.bind_eq_some_iff.mp h
  simp only [Option.some.injEq, Prod.mk.injEq] at h
  obtain ⟨rfl, rfl⟩ := h
  have H2 := Aside0.mk h2
  have H1 := Aside0.mk h1
  have HR := Aside0.mk hr0
  have HC := Aside0.mk hc0
  clear h1 h2 hr0 hc0
  go_enter Tryd.func6, Tryd.ntmps6
  go_wp2_with (fail)
  refine (field_values.calls k A0 c0 l0 a1 vs w HR.out HC.out H1.out).mono ?_
  rintro e w1 ⟨v, rfl, hR, hb⟩
  obtain ⟨A, c, hv, hcap, hC⟩ := Kd.R_reads hR
  subst hv
  have HO := Aside0.mk hR
  have HB := Aside0.mk hb
  clear hR hb hcap hC
  go_wp2_with (fail)
  refine (strings_Join.own HO.out _ js H2.out).mono ?_
  rintro e w2 ⟨rfl, hb2⟩
  have HB2 := Aside0.mk (below_then HB.out HB.out.size hb2)
  clear hb2
  go_wp2
  go_ret2
  exact ⟨by simp, HB2.out⟩
end Go.Proofs.YtbldmicpnibnpaaDoor.Xa
