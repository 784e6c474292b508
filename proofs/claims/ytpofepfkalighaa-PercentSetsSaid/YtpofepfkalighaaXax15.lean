-- Written by a program of this session (wip/tools/xprint.py), in the manner of the print of the kit.
import Derived.Test.YtpofepfkalighaaXax0
import Derived.Test.YtpofepfkalighaaXax4
import Derived.Test.YtpofepfkalighaaExt
namespace Go.Proofs.Ytpofepfkalighaa.Xa
open Go.RowKit Go.Proofs.Ytpofepfkalighaa.Ext Go.Proofs.YtpofepfkalighaaW.PrintWords Go.Proofs.YtpofepfkalighaaW.PrintLast Go.Proofs.YtpofepfkalighaaW.PrintMore
attribute [local go_sem] max2_int min2_int max_two min_two max_three min_three max_four min_four   -- for this text's walks alone
set_option linter.unusedVariables false
set_option linter.unusedSimpArgs false

/-! ### transeptlaw06_PercentSets: function 7 -/
mutual
def transeptlaw06_PercentSets.j0 : Nat → Int → Bool → Bool → Bool → Option (Bool)
  | 0, _, _, _, _ => none
  | k + 1, x0, x3, x4, x5 => transeptlaw06_PercentSets.l0 k x0 x3 x4 x5 1
def transeptlaw06_PercentSets.l0 : Nat → Int → Bool → Bool → Bool → Int → Option (Bool)
  | 0, _, _, _, _, _ => none
  | k + 1, x0, x3, x4, x5, x6 => if x6 ≤ 5 then ((percent_In.f x6 x0).bind fun t166 => (if x4 = true then (if t166 = true then (if x5 = true then (some false) else (transeptlaw06_PercentSets.l0 k x0 x3 x4 x5 (wrap64 (x6 + 1)))) else (some false)) else (if x5 = true then (if t166 = true then (some false) else (transeptlaw06_PercentSets.l0 k x0 x3 x4 x5 (wrap64 (x6 + 1)))) else (transeptlaw06_PercentSets.l0 k x0 x3 x4 x5 (wrap64 (x6 + 1)))))) else ((percent_In.f 3 x0).bind fun t167 => (if x3 = true then (if t167 = true then ((percent_In.f 4 x0).bind fun t168 => (if t168 = true then ((percent_In.f 5 x0).bind fun t169 => (some t169)) else (some false))) else (some true)) else (some false)))
end
def transeptlaw06_PercentSets.f (k : Nat) (a0 : Int) : Option (Bool) := (transeptlaw06_shown.f).bind fun t164 => ((percent_In.f 1 a0).bind fun t165 => (if a0 ≥ 48 then (if a0 ≤ 57 then (transeptlaw06_PercentSets.j0 k a0 t164 t165 true) else (if a0 ≥ 65 then (if a0 ≤ 90 then (transeptlaw06_PercentSets.j0 k a0 t164 t165 true) else (if a0 ≥ 97 then (if a0 ≤ 122 then (transeptlaw06_PercentSets.j0 k a0 t164 t165 true) else (if a0 = 37 then (transeptlaw06_PercentSets.j0 k a0 t164 t165 true) else (if a0 = 47 then (transeptlaw06_PercentSets.j0 k a0 t164 t165 true) else (if a0 = 45 then (transeptlaw06_PercentSets.j0 k a0 t164 t165 true) else (if a0 = 46 then (transeptlaw06_PercentSets.j0 k a0 t164 t165 true) else (transeptlaw06_PercentSets.j0 k a0 t164 t165 (a0 == 95))))))) else (if a0 = 37 then (transeptlaw06_PercentSets.j0 k a0 t164 t165 true) else (if a0 = 47 then (transeptlaw06_PercentSets.j0 k a0 t164 t165 true) else (if a0 = 45 then (transeptlaw06_PercentSets.j0 k a0 t164 t165 true) else (if a0 = 46 then (transeptlaw06_PercentSets.j0 k a0 t164 t165 true) else (transeptlaw06_PercentSets.j0 k a0 t164 t165 (a0 == 95)))))))) else (if a0 ≥ 97 then (if a0 ≤ 122 then (transeptlaw06_PercentSets.j0 k a0 t164 t165 true) else (if a0 = 37 then (transeptlaw06_PercentSets.j0 k a0 t164 t165 true) else (if a0 = 47 then (transeptlaw06_PercentSets.j0 k a0 t164 t165 true) else (if a0 = 45 then (transeptlaw06_PercentSets.j0 k a0 t164 t165 true) else (if a0 = 46 then (transeptlaw06_PercentSets.j0 k a0 t164 t165 true) else (transeptlaw06_PercentSets.j0 k a0 t164 t165 (a0 == 95))))))) else (if a0 = 37 then (transeptlaw06_PercentSets.j0 k a0 t164 t165 true) else (if a0 = 47 then (transeptlaw06_PercentSets.j0 k a0 t164 t165 true) else (if a0 = 45 then (transeptlaw06_PercentSets.j0 k a0 t164 t165 true) else (if a0 = 46 then (transeptlaw06_PercentSets.j0 k a0 t164 t165 true) else (transeptlaw06_PercentSets.j0 k a0 t164 t165 (a0 == 95))))))))) else (if a0 ≥ 65 then (if a0 ≤ 90 then (transeptlaw06_PercentSets.j0 k a0 t164 t165 true) else (if a0 ≥ 97 then (if a0 ≤ 122 then (transeptlaw06_PercentSets.j0 k a0 t164 t165 true) else (if a0 = 37 then (transeptlaw06_PercentSets.j0 k a0 t164 t165 true) else (if a0 = 47 then (transeptlaw06_PercentSets.j0 k a0 t164 t165 true) else (if a0 = 45 then (transeptlaw06_PercentSets.j0 k a0 t164 t165 true) else (if a0 = 46 then (transeptlaw06_PercentSets.j0 k a0 t164 t165 true) else (transeptlaw06_PercentSets.j0 k a0 t164 t165 (a0 == 95))))))) else (if a0 = 37 then (transeptlaw06_PercentSets.j0 k a0 t164 t165 true) else (if a0 = 47 then (transeptlaw06_PercentSets.j0 k a0 t164 t165 true) else (if a0 = 45 then (transeptlaw06_PercentSets.j0 k a0 t164 t165 true) else (if a0 = 46 then (transeptlaw06_PercentSets.j0 k a0 t164 t165 true) else (transeptlaw06_PercentSets.j0 k a0 t164 t165 (a0 == 95)))))))) else (if a0 ≥ 97 then (if a0 ≤ 122 then (transeptlaw06_PercentSets.j0 k a0 t164 t165 true) else (if a0 = 37 then (transeptlaw06_PercentSets.j0 k a0 t164 t165 true) else (if a0 = 47 then (transeptlaw06_PercentSets.j0 k a0 t164 t165 true) else (if a0 = 45 then (transeptlaw06_PercentSets.j0 k a0 t164 t165 true) else (if a0 = 46 then (transeptlaw06_PercentSets.j0 k a0 t164 t165 true) else (transeptlaw06_PercentSets.j0 k a0 t164 t165 (a0 == 95))))))) else (if a0 = 37 then (transeptlaw06_PercentSets.j0 k a0 t164 t165 true) else (if a0 = 47 then (transeptlaw06_PercentSets.j0 k a0 t164 t165 true) else (if a0 = 45 then (transeptlaw06_PercentSets.j0 k a0 t164 t165 true) else (if a0 = 46 then (transeptlaw06_PercentSets.j0 k a0 t164 t165 true) else (transeptlaw06_PercentSets.j0 k a0 t164 t165 (a0 == 95))))))))))
theorem transeptlaw06_PercentSets.mono_l : ∀ k, (∀ y0 y1 y2 y3, LeO (transeptlaw06_PercentSets.j0 k y0 y1 y2 y3) (transeptlaw06_PercentSets.j0 (k + 1) y0 y1 y2 y3)) ∧ (∀ y0 y1 y2 y3 y4, LeO (transeptlaw06_PercentSets.l0 k y0 y1 y2 y3 y4) (transeptlaw06_PercentSets.l0 (k + 1) y0 y1 y2 y3 y4))
  | 0 => ⟨fun _ _ _ _ r h => by simp [transeptlaw06_PercentSets.j0] at h, fun _ _ _ _ _ r h => by simp [transeptlaw06_PercentSets.l0] at h⟩
  | k + 1 => by
    obtain ⟨ih0, ih1⟩ := transeptlaw06_PercentSets.mono_l k
    refine ⟨?_, ?_⟩
    · intro y0 y1 y2 y3
      unfold transeptlaw06_PercentSets.j0
      repeat' first
      | (with_reducible exact ih0 _ _ _ _)
      | (with_reducible exact ih1 _ _ _ _ _)
      | (with_reducible exact LeO.refl _)
      | (with_reducible exact LeO.none _)
      | (with_reducible refine LeO.ite ?_ ?_)
      | (with_reducible refine LeO.bind ?_ (fun _ => ?_))
      | exact ih0 _ _ _ _
      | exact ih1 _ _ _ _ _
      | exact LeO.none _
      | refine LeO.ite ?_ ?_
      | refine LeO.bind ?_ (fun _ => ?_)
    · intro y0 y1 y2 y3 y4
      unfold transeptlaw06_PercentSets.l0
      repeat' first
      | (with_reducible exact ih0 _ _ _ _)
      | (with_reducible exact ih1 _ _ _ _ _)
      | (with_reducible exact LeO.refl _)
      | (with_reducible exact LeO.none _)
      | (with_reducible refine LeO.ite ?_ ?_)
      | (with_reducible refine LeO.bind ?_ (fun _ => ?_))
      | exact ih0 _ _ _ _
      | exact ih1 _ _ _ _ _
      | exact LeO.none _
      | refine LeO.ite ?_ ?_
      | refine LeO.bind ?_ (fun _ => ?_)
theorem transeptlaw06_PercentSets.mono : ∀ a0 k, LeO (transeptlaw06_PercentSets.f k a0) (transeptlaw06_PercentSets.f (k + 1) a0) := by
  intro a0 k
  obtain ⟨ih0, ih1⟩ := transeptlaw06_PercentSets.mono_l k
  unfold transeptlaw06_PercentSets.f
  repeat' first
      | (with_reducible exact ih0 _ _ _ _)
      | (with_reducible exact ih1 _ _ _ _ _)
      | (with_reducible exact LeO.refl _)
      | (with_reducible exact LeO.none _)
      | (with_reducible refine LeO.ite ?_ ?_)
      | (with_reducible refine LeO.bind ?_ (fun _ => ?_))
      | exact ih0 _ _ _ _
      | exact ih1 _ _ _ _ _
      | exact LeO.none _
      | refine LeO.ite ?_ ?_
      | refine LeO.bind ?_ (fun _ => ?_)
set_option maxHeartbeats 8000000 in
set_option maxRecDepth 100000 in
theorem transeptlaw06_PercentSets.calls (k : Nat) (a0 : Int) (r : Bool) (w : World) (hT_ : r = true) (h : transeptlaw06_PercentSets.f k a0 = some r) :
    Calls Try.prog 7 #[.int .u8 a0] w fun e w' => e = .returned (.bool r) ∧ Below w.heap.size w w' := by
  have HT := Aside0.mk hT_
  clear hT_
  have HB := Aside0.mk (Below.refl w.heap.size w)
  have H : ((transeptlaw06_shown.f).bind fun t164 => ((percent_In.f 1 a0).bind fun t165 => (if a0 ≥ 48 then (if a0 ≤ 57 then (transeptlaw06_PercentSets.j0 k a0 t164 t165 true) else (if a0 ≥ 65 then (if a0 ≤ 90 then (transeptlaw06_PercentSets.j0 k a0 t164 t165 true) else (if a0 ≥ 97 then (if a0 ≤ 122 then (transeptlaw06_PercentSets.j0 k a0 t164 t165 true) else (if a0 = 37 then (transeptlaw06_PercentSets.j0 k a0 t164 t165 true) else (if a0 = 47 then (transeptlaw06_PercentSets.j0 k a0 t164 t165 true) else (if a0 = 45 then (transeptlaw06_PercentSets.j0 k a0 t164 t165 true) else (if a0 = 46 then (transeptlaw06_PercentSets.j0 k a0 t164 t165 true) else (transeptlaw06_PercentSets.j0 k a0 t164 t165 (a0 == 95))))))) else (if a0 = 37 then (transeptlaw06_PercentSets.j0 k a0 t164 t165 true) else (if a0 = 47 then (transeptlaw06_PercentSets.j0 k a0 t164 t165 true) else (if a0 = 45 then (transeptlaw06_PercentSets.j0 k a0 t164 t165 true) else (if a0 = 46 then (transeptlaw06_PercentSets.j0 k a0 t164 t165 true) else (transeptlaw06_PercentSets.j0 k a0 t164 t165 (a0 == 95)))))))) else (if a0 ≥ 97 then (if a0 ≤ 122 then (transeptlaw06_PercentSets.j0 k a0 t164 t165 true) else (if a0 = 37 then (transeptlaw06_PercentSets.j0 k a0 t164 t165 true) else (if a0 = 47 then (transeptlaw06_PercentSets.j0 k a0 t164 t165 true) else (if a0 = 45 then (transeptlaw06_PercentSets.j0 k a0 t164 t165 true) else (if a0 = 46 then (transeptlaw06_PercentSets.j0 k a0 t164 t165 true) else (transeptlaw06_PercentSets.j0 k a0 t164 t165 (a0 == 95))))))) else (if a0 = 37 then (transeptlaw06_PercentSets.j0 k a0 t164 t165 true) else (if a0 = 47 then (transeptlaw06_PercentSets.j0 k a0 t164 t165 true) else (if a0 = 45 then (transeptlaw06_PercentSets.j0 k a0 t164 t165 true) else (if a0 = 46 then (transeptlaw06_PercentSets.j0 k a0 t164 t165 true) else (transeptlaw06_PercentSets.j0 k a0 t164 t165 (a0 == 95))))))))) else (if a0 ≥ 65 then (if a0 ≤ 90 then (transeptlaw06_PercentSets.j0 k a0 t164 t165 true) else (if a0 ≥ 97 then (if a0 ≤ 122 then (transeptlaw06_PercentSets.j0 k a0 t164 t165 true) else (if a0 = 37 then (transeptlaw06_PercentSets.j0 k a0 t164 t165 true) else (if a0 = 47 then (transeptlaw06_PercentSets.j0 k a0 t164 t165 true) else (if a0 = 45 then (transeptlaw06_PercentSets.j0 k a0 t164 t165 true) else (if a0 = 46 then (transeptlaw06_PercentSets.j0 k a0 t164 t165 true) else (transeptlaw06_PercentSets.j0 k a0 t164 t165 (a0 == 95))))))) else (if a0 = 37 then (transeptlaw06_PercentSets.j0 k a0 t164 t165 true) else (if a0 = 47 then (transeptlaw06_PercentSets.j0 k a0 t164 t165 true) else (if a0 = 45 then (transeptlaw06_PercentSets.j0 k a0 t164 t165 true) else (if a0 = 46 then (transeptlaw06_PercentSets.j0 k a0 t164 t165 true) else (transeptlaw06_PercentSets.j0 k a0 t164 t165 (a0 == 95)))))))) else (if a0 ≥ 97 then (if a0 ≤ 122 then (transeptlaw06_PercentSets.j0 k a0 t164 t165 true) else (if a0 = 37 then (transeptlaw06_PercentSets.j0 k a0 t164 t165 true) else (if a0 = 47 then (transeptlaw06_PercentSets.j0 k a0 t164 t165 true) else (if a0 = 45 then (transeptlaw06_PercentSets.j0 k a0 t164 t165 true) else (if a0 = 46 then (transeptlaw06_PercentSets.j0 k a0 t164 t165 true) else (transeptlaw06_PercentSets.j0 k a0 t164 t165 (a0 == 95))))))) else (if a0 = 37 then (transeptlaw06_PercentSets.j0 k a0 t164 t165 true) else (if a0 = 47 then (transeptlaw06_PercentSets.j0 k a0 t164 t165 true) else (if a0 = 45 then (transeptlaw06_PercentSets.j0 k a0 t164 t165 true) else (if a0 = 46 then (transeptlaw06_PercentSets.j0 k a0 t164 t165 true) else (transeptlaw06_PercentSets.j0 k a0 t164 t165 (a0 == 95))))))))))) = some r := h
  clear h
  replace H := Option.bind_eq_some_iff.mp H
  obtain ⟨t164, A20, H⟩ := H
  replace H : ((percent_In.f 1 a0).bind fun t165 => (if a0 ≥ 48 then (if a0 ≤ 57 then (transeptlaw06_PercentSets.j0 k a0 t164 t165 true) else (if a0 ≥ 65 then (if a0 ≤ 90 then (transeptlaw06_PercentSets.j0 k a0 t164 t165 true) else (if a0 ≥ 97 then (if a0 ≤ 122 then (transeptlaw06_PercentSets.j0 k a0 t164 t165 true) else (if a0 = 37 then (transeptlaw06_PercentSets.j0 k a0 t164 t165 true) else (if a0 = 47 then (transeptlaw06_PercentSets.j0 k a0 t164 t165 true) else (if a0 = 45 then (transeptlaw06_PercentSets.j0 k a0 t164 t165 true) else (if a0 = 46 then (transeptlaw06_PercentSets.j0 k a0 t164 t165 true) else (transeptlaw06_PercentSets.j0 k a0 t164 t165 (a0 == 95))))))) else (if a0 = 37 then (transeptlaw06_PercentSets.j0 k a0 t164 t165 true) else (if a0 = 47 then (transeptlaw06_PercentSets.j0 k a0 t164 t165 true) else (if a0 = 45 then (transeptlaw06_PercentSets.j0 k a0 t164 t165 true) else (if a0 = 46 then (transeptlaw06_PercentSets.j0 k a0 t164 t165 true) else (transeptlaw06_PercentSets.j0 k a0 t164 t165 (a0 == 95)))))))) else (if a0 ≥ 97 then (if a0 ≤ 122 then (transeptlaw06_PercentSets.j0 k a0 t164 t165 true) else (if a0 = 37 then (transeptlaw06_PercentSets.j0 k a0 t164 t165 true) else (if a0 = 47 then (transeptlaw06_PercentSets.j0 k a0 t164 t165 true) else (if a0 = 45 then (transeptlaw06_PercentSets.j0 k a0 t164 t165 true) else (if a0 = 46 then (transeptlaw06_PercentSets.j0 k a0 t164 t165 true) else (transeptlaw06_PercentSets.j0 k a0 t164 t165 (a0 == 95))))))) else (if a0 = 37 then (transeptlaw06_PercentSets.j0 k a0 t164 t165 true) else (if a0 = 47 then (transeptlaw06_PercentSets.j0 k a0 t164 t165 true) else (if a0 = 45 then (transeptlaw06_PercentSets.j0 k a0 t164 t165 true) else (if a0 = 46 then (transeptlaw06_PercentSets.j0 k a0 t164 t165 true) else (transeptlaw06_PercentSets.j0 k a0 t164 t165 (a0 == 95))))))))) else (if a0 ≥ 65 then (if a0 ≤ 90 then (transeptlaw06_PercentSets.j0 k a0 t164 t165 true) else (if a0 ≥ 97 then (if a0 ≤ 122 then (transeptlaw06_PercentSets.j0 k a0 t164 t165 true) else (if a0 = 37 then (transeptlaw06_PercentSets.j0 k a0 t164 t165 true) else (if a0 = 47 then (transeptlaw06_PercentSets.j0 k a0 t164 t165 true) else (if a0 = 45 then (transeptlaw06_PercentSets.j0 k a0 t164 t165 true) else (if a0 = 46 then (transeptlaw06_PercentSets.j0 k a0 t164 t165 true) else (transeptlaw06_PercentSets.j0 k a0 t164 t165 (a0 == 95))))))) else (if a0 = 37 then (transeptlaw06_PercentSets.j0 k a0 t164 t165 true) else (if a0 = 47 then (transeptlaw06_PercentSets.j0 k a0 t164 t165 true) else (if a0 = 45 then (transeptlaw06_PercentSets.j0 k a0 t164 t165 true) else (if a0 = 46 then (transeptlaw06_PercentSets.j0 k a0 t164 t165 true) else (transeptlaw06_PercentSets.j0 k a0 t164 t165 (a0 == 95)))))))) else (if a0 ≥ 97 then (if a0 ≤ 122 then (transeptlaw06_PercentSets.j0 k a0 t164 t165 true) else (if a0 = 37 then (transeptlaw06_PercentSets.j0 k a0 t164 t165 true) else (if a0 = 47 then (transeptlaw06_PercentSets.j0 k a0 t164 t165 true) else (if a0 = 45 then (transeptlaw06_PercentSets.j0 k a0 t164 t165 true) else (if a0 = 46 then (transeptlaw06_PercentSets.j0 k a0 t164 t165 true) else (transeptlaw06_PercentSets.j0 k a0 t164 t165 (a0 == 95))))))) else (if a0 = 37 then (transeptlaw06_PercentSets.j0 k a0 t164 t165 true) else (if a0 = 47 then (transeptlaw06_PercentSets.j0 k a0 t164 t165 true) else (if a0 = 45 then (transeptlaw06_PercentSets.j0 k a0 t164 t165 true) else (if a0 = 46 then (transeptlaw06_PercentSets.j0 k a0 t164 t165 true) else (transeptlaw06_PercentSets.j0 k a0 t164 t165 (a0 == 95)))))))))) = some r := H
  have A2 := Aside0.mk A20
  clear A20
  replace H := Option.bind_eq_some_iff.mp H
  obtain ⟨t165, A30, H⟩ := H
  replace H : (if a0 ≥ 48 then (if a0 ≤ 57 then (transeptlaw06_PercentSets.j0 k a0 t164 t165 true) else (if a0 ≥ 65 then (if a0 ≤ 90 then (transeptlaw06_PercentSets.j0 k a0 t164 t165 true) else (if a0 ≥ 97 then (if a0 ≤ 122 then (transeptlaw06_PercentSets.j0 k a0 t164 t165 true) else (if a0 = 37 then (transeptlaw06_PercentSets.j0 k a0 t164 t165 true) else (if a0 = 47 then (transeptlaw06_PercentSets.j0 k a0 t164 t165 true) else (if a0 = 45 then (transeptlaw06_PercentSets.j0 k a0 t164 t165 true) else (if a0 = 46 then (transeptlaw06_PercentSets.j0 k a0 t164 t165 true) else (transeptlaw06_PercentSets.j0 k a0 t164 t165 (a0 == 95))))))) else (if a0 = 37 then (transeptlaw06_PercentSets.j0 k a0 t164 t165 true) else (if a0 = 47 then (transeptlaw06_PercentSets.j0 k a0 t164 t165 true) else (if a0 = 45 then (transeptlaw06_PercentSets.j0 k a0 t164 t165 true) else (if a0 = 46 then (transeptlaw06_PercentSets.j0 k a0 t164 t165 true) else (transeptlaw06_PercentSets.j0 k a0 t164 t165 (a0 == 95)))))))) else (if a0 ≥ 97 then (if a0 ≤ 122 then (transeptlaw06_PercentSets.j0 k a0 t164 t165 true) else (if a0 = 37 then (transeptlaw06_PercentSets.j0 k a0 t164 t165 true) else (if a0 = 47 then (transeptlaw06_PercentSets.j0 k a0 t164 t165 true) else (if a0 = 45 then (transeptlaw06_PercentSets.j0 k a0 t164 t165 true) else (if a0 = 46 then (transeptlaw06_PercentSets.j0 k a0 t164 t165 true) else (transeptlaw06_PercentSets.j0 k a0 t164 t165 (a0 == 95))))))) else (if a0 = 37 then (transeptlaw06_PercentSets.j0 k a0 t164 t165 true) else (if a0 = 47 then (transeptlaw06_PercentSets.j0 k a0 t164 t165 true) else (if a0 = 45 then (transeptlaw06_PercentSets.j0 k a0 t164 t165 true) else (if a0 = 46 then (transeptlaw06_PercentSets.j0 k a0 t164 t165 true) else (transeptlaw06_PercentSets.j0 k a0 t164 t165 (a0 == 95))))))))) else (if a0 ≥ 65 then (if a0 ≤ 90 then (transeptlaw06_PercentSets.j0 k a0 t164 t165 true) else (if a0 ≥ 97 then (if a0 ≤ 122 then (transeptlaw06_PercentSets.j0 k a0 t164 t165 true) else (if a0 = 37 then (transeptlaw06_PercentSets.j0 k a0 t164 t165 true) else (if a0 = 47 then (transeptlaw06_PercentSets.j0 k a0 t164 t165 true) else (if a0 = 45 then (transeptlaw06_PercentSets.j0 k a0 t164 t165 true) else (if a0 = 46 then (transeptlaw06_PercentSets.j0 k a0 t164 t165 true) else (transeptlaw06_PercentSets.j0 k a0 t164 t165 (a0 == 95))))))) else (if a0 = 37 then (transeptlaw06_PercentSets.j0 k a0 t164 t165 true) else (if a0 = 47 then (transeptlaw06_PercentSets.j0 k a0 t164 t165 true) else (if a0 = 45 then (transeptlaw06_PercentSets.j0 k a0 t164 t165 true) else (if a0 = 46 then (transeptlaw06_PercentSets.j0 k a0 t164 t165 true) else (transeptlaw06_PercentSets.j0 k a0 t164 t165 (a0 == 95)))))))) else (if a0 ≥ 97 then (if a0 ≤ 122 then (transeptlaw06_PercentSets.j0 k a0 t164 t165 true) else (if a0 = 37 then (transeptlaw06_PercentSets.j0 k a0 t164 t165 true) else (if a0 = 47 then (transeptlaw06_PercentSets.j0 k a0 t164 t165 true) else (if a0 = 45 then (transeptlaw06_PercentSets.j0 k a0 t164 t165 true) else (if a0 = 46 then (transeptlaw06_PercentSets.j0 k a0 t164 t165 true) else (transeptlaw06_PercentSets.j0 k a0 t164 t165 (a0 == 95))))))) else (if a0 = 37 then (transeptlaw06_PercentSets.j0 k a0 t164 t165 true) else (if a0 = 47 then (transeptlaw06_PercentSets.j0 k a0 t164 t165 true) else (if a0 = 45 then (transeptlaw06_PercentSets.j0 k a0 t164 t165 true) else (if a0 = 46 then (transeptlaw06_PercentSets.j0 k a0 t164 t165 true) else (transeptlaw06_PercentSets.j0 k a0 t164 t165 (a0 == 95))))))))) = some r := H
  have A3 := Aside0.mk A30
  clear A30
  have HC4 := Aside0.mk H
  clear H
  go_enter Try.func7, Try.ntmps7
  go_upto_region 3 with (first | ((with_reducible refine gate_callee (f := 10) rfl ?_); refine goesL_ (some 9) rfl rfl Try.func10 (by kernel_rfl) rfl #[] rfl (by (try simp only [List.map_toArray, List.map_cons, List.map_nil]); first | done | rfl | (simp only [List.length_drop, List.length_take]; rfl)) ?_; (with_reducible refine (transeptlaw06_shown.calls  t164 _ A2.out).mono ?_); rintro e w5 ⟨rfl, hb⟩; refine ⟨_, rfl, ?_⟩; have n0_ := Aside0.mk (below_step (by repeat (first | (with_reducible first | exact HB.out | apply below_alloc | apply pw_below_drewN | apply below_drew1) | exact HB.out)) hb); clear HB; have HB := n0_; clear n0_; (try clear hb); (try clear hb2); (try clear hk); (try clear hi)) | ((with_reducible refine gate_callee (f := 11) rfl ?_); refine goesL_ (some 11) rfl rfl Try.func11 (by kernel_rfl) rfl #[.int .i64 1, .int .u8 a0] rfl (by (try simp only [List.map_toArray, List.map_cons, List.map_nil]); first | done | rfl | (simp only [List.length_drop, List.length_take]; rfl)) ?_; (with_reducible refine (percent_In.calls 1 a0 t165 _ A3.out).mono ?_); rintro e w6 ⟨rfl, hb⟩; refine ⟨_, rfl, ?_⟩; have n0_ := Aside0.mk (below_step (by repeat (first | (with_reducible first | exact HB.out | apply below_alloc | apply pw_below_drewN | apply below_drew1) | exact HB.out)) hb); clear HB; have HB := n0_; clear n0_; (try clear hb); (try clear hb2); (try clear hk); (try clear hi)))
  (try simp only [Act.put, List.setIfInBounds_toArray, List.set_cons_zero, List.set_cons_succ])
  go_cut [5] (fun v5 wc => ∃ (kq : Nat) (x5_3 : Bool), v5 = .bool x5_3 ∧ Aside0 (transeptlaw06_PercentSets.j0 kq a0 t164 t165 x5_3 = some r) ∧ Aside0 (kq ≤ k) ∧ Aside0 (Below w.heap.size w wc))
  case first =>
    have H := HC4.out
    clear HC4
    by_cases c7 : a0 ≥ 48
    · rw [if_pos c7] at H
      have c7b0 : decide (48 ≤ a0) = true := decide_eq_true c7
      clear c7
      (first | rw [c7b0] | (simp only [i64_w, i32_w]; rw [c7b0]) | skip)
      by_cases c8 : a0 ≤ 57
      · rw [if_pos c8] at H
        have c8b0 : decide (a0 ≤ 57) = true := decide_eq_true c8
        clear c8
        have H' := Aside0.mk H
        clear H
        go_wp2
        go_meet
        case rel => exact ⟨_, (true), (by first | rfl | (simp; done) | (simp [*]; done)), H', ⟨by first | omega | exact Nat.le_refl _⟩, ⟨by repeat (first | (with_reducible first | exact HB.out | apply below_alloc | apply pw_below_drewN | apply below_drew1) | exact HB.out)⟩⟩
      · rw [if_neg c8] at H
        have c8b0 : decide (a0 ≤ 57) = false := decide_eq_false c8
        clear c8
        by_cases c9 : a0 ≥ 65
        · rw [if_pos c9] at H
          have c9b0 : decide (65 ≤ a0) = true := decide_eq_true c9
          clear c9
          by_cases c10 : a0 ≤ 90
          · rw [if_pos c10] at H
            have c10b0 : decide (a0 ≤ 90) = true := decide_eq_true c10
            clear c10
            have H' := Aside0.mk H
            clear H
            go_wp2
            go_meet
            case rel => exact ⟨_, (true), (by first | rfl | (simp; done) | (simp [*]; done)), H', ⟨by first | omega | exact Nat.le_refl _⟩, ⟨by repeat (first | (with_reducible first | exact HB.out | apply below_alloc | apply pw_below_drewN | apply below_drew1) | exact HB.out)⟩⟩
          · rw [if_neg c10] at H
            have c10b0 : decide (a0 ≤ 90) = false := decide_eq_false c10
            clear c10
            by_cases c11 : a0 ≥ 97
            · rw [if_pos c11] at H
              have c11b0 : decide (97 ≤ a0) = true := decide_eq_true c11
              clear c11
              by_cases c12 : a0 ≤ 122
              · rw [if_pos c12] at H
                have c12b0 : decide (a0 ≤ 122) = true := decide_eq_true c12
                clear c12
                have H' := Aside0.mk H
                clear H
                go_wp2
                go_meet
                case rel => exact ⟨_, (true), (by first | rfl | (simp; done) | (simp [*]; done)), H', ⟨by first | omega | exact Nat.le_refl _⟩, ⟨by repeat (first | (with_reducible first | exact HB.out | apply below_alloc | apply pw_below_drewN | apply below_drew1) | exact HB.out)⟩⟩
              · rw [if_neg c12] at H
                have c12b0 : decide (a0 ≤ 122) = false := decide_eq_false c12
                clear c12
                by_cases c13 : a0 = 37
                · rw [if_pos c13] at H
                  have c13b0 : (a0 == 37) = true := beq_iff_eq.mpr c13
                  have c13b1 : (a0 != 37) = false := bne_eq_false_iff_eq.mpr c13
                  clear c13
                  have H' := Aside0.mk H
                  clear H
                  go_wp2
                  go_meet
                  case rel => exact ⟨_, (true), (by first | rfl | (simp; done) | (simp [*]; done)), H', ⟨by first | omega | exact Nat.le_refl _⟩, ⟨by repeat (first | (with_reducible first | exact HB.out | apply below_alloc | apply pw_below_drewN | apply below_drew1) | exact HB.out)⟩⟩
                · rw [if_neg c13] at H
                  have c13b0 : (a0 == 37) = false := beq_eq_false_iff_ne.mpr c13
                  have c13b1 : (a0 != 37) = true := bne_iff_ne.mpr c13
                  by_cases c14 : a0 = 47
                  · rw [if_pos c14] at H
                    have c14b0 : (a0 == 47) = true := beq_iff_eq.mpr c14
                    have c14b1 : (a0 != 47) = false := bne_eq_false_iff_eq.mpr c14
                    clear c14
                    have H' := Aside0.mk H
                    clear H
                    go_wp2
                    go_meet
                    case rel => exact ⟨_, (true), (by first | rfl | (simp; done) | (simp [*]; done)), H', ⟨by first | omega | exact Nat.le_refl _⟩, ⟨by repeat (first | (with_reducible first | exact HB.out | apply below_alloc | apply pw_below_drewN | apply below_drew1) | exact HB.out)⟩⟩
                  · rw [if_neg c14] at H
                    have c14b0 : (a0 == 47) = false := beq_eq_false_iff_ne.mpr c14
                    have c14b1 : (a0 != 47) = true := bne_iff_ne.mpr c14
                    by_cases c15 : a0 = 45
                    · rw [if_pos c15] at H
                      have c15b0 : (a0 == 45) = true := beq_iff_eq.mpr c15
                      have c15b1 : (a0 != 45) = false := bne_eq_false_iff_eq.mpr c15
                      clear c15
                      have H' := Aside0.mk H
                      clear H
                      go_wp2
                      go_meet
                      case rel => exact ⟨_, (true), (by first | rfl | (simp; done) | (simp [*]; done)), H', ⟨by first | omega | exact Nat.le_refl _⟩, ⟨by repeat (first | (with_reducible first | exact HB.out | apply below_alloc | apply pw_below_drewN | apply below_drew1) | exact HB.out)⟩⟩
                    · rw [if_neg c15] at H
                      have c15b0 : (a0 == 45) = false := beq_eq_false_iff_ne.mpr c15
                      have c15b1 : (a0 != 45) = true := bne_iff_ne.mpr c15
                      by_cases c16 : a0 = 46
                      · rw [if_pos c16] at H
                        have c16b0 : (a0 == 46) = true := beq_iff_eq.mpr c16
                        have c16b1 : (a0 != 46) = false := bne_eq_false_iff_eq.mpr c16
                        clear c16
                        have H' := Aside0.mk H
                        clear H
                        go_wp2
                        go_meet
                        case rel => exact ⟨_, (true), (by first | rfl | (simp; done) | (simp [*]; done)), H', ⟨by first | omega | exact Nat.le_refl _⟩, ⟨by repeat (first | (with_reducible first | exact HB.out | apply below_alloc | apply pw_below_drewN | apply below_drew1) | exact HB.out)⟩⟩
                      · rw [if_neg c16] at H
                        have c16b0 : (a0 == 46) = false := beq_eq_false_iff_ne.mpr c16
                        have c16b1 : (a0 != 46) = true := bne_iff_ne.mpr c16
                        have H' := Aside0.mk H
                        clear H
                        go_wp2
                        go_meet
                        case rel => exact ⟨_, ((a0 == 95)), (by first | rfl | (simp; done) | (simp [*]; done)), H', ⟨by first | omega | exact Nat.le_refl _⟩, ⟨by repeat (first | (with_reducible first | exact HB.out | apply below_alloc | apply pw_below_drewN | apply below_drew1) | exact HB.out)⟩⟩
            · rw [if_neg c11] at H
              have c11b0 : decide (97 ≤ a0) = false := decide_eq_false c11
              clear c11
              by_cases c17 : a0 = 37
              · rw [if_pos c17] at H
                have c17b0 : (a0 == 37) = true := beq_iff_eq.mpr c17
                have c17b1 : (a0 != 37) = false := bne_eq_false_iff_eq.mpr c17
                clear c17
                have H' := Aside0.mk H
                clear H
                go_wp2
                go_meet
                case rel => exact ⟨_, (true), (by first | rfl | (simp; done) | (simp [*]; done)), H', ⟨by first | omega | exact Nat.le_refl _⟩, ⟨by repeat (first | (with_reducible first | exact HB.out | apply below_alloc | apply pw_below_drewN | apply below_drew1) | exact HB.out)⟩⟩
              · rw [if_neg c17] at H
                have c17b0 : (a0 == 37) = false := beq_eq_false_iff_ne.mpr c17
                have c17b1 : (a0 != 37) = true := bne_iff_ne.mpr c17
                by_cases c18 : a0 = 47
                · rw [if_pos c18] at H
                  have c18b0 : (a0 == 47) = true := beq_iff_eq.mpr c18
                  have c18b1 : (a0 != 47) = false := bne_eq_false_iff_eq.mpr c18
                  clear c18
                  have H' := Aside0.mk H
                  clear H
                  go_wp2
                  go_meet
                  case rel => exact ⟨_, (true), (by first | rfl | (simp; done) | (simp [*]; done)), H', ⟨by first | omega | exact Nat.le_refl _⟩, ⟨by repeat (first | (with_reducible first | exact HB.out | apply below_alloc | apply pw_below_drewN | apply below_drew1) | exact HB.out)⟩⟩
                · rw [if_neg c18] at H
                  have c18b0 : (a0 == 47) = false := beq_eq_false_iff_ne.mpr c18
                  have c18b1 : (a0 != 47) = true := bne_iff_ne.mpr c18
                  by_cases c19 : a0 = 45
                  · rw [if_pos c19] at H
                    have c19b0 : (a0 == 45) = true := beq_iff_eq.mpr c19
                    have c19b1 : (a0 != 45) = false := bne_eq_false_iff_eq.mpr c19
                    clear c19
                    have H' := Aside0.mk H
                    clear H
                    go_wp2
                    go_meet
                    case rel => exact ⟨_, (true), (by first | rfl | (simp; done) | (simp [*]; done)), H', ⟨by first | omega | exact Nat.le_refl _⟩, ⟨by repeat (first | (with_reducible first | exact HB.out | apply below_alloc | apply pw_below_drewN | apply below_drew1) | exact HB.out)⟩⟩
                  · rw [if_neg c19] at H
                    have c19b0 : (a0 == 45) = false := beq_eq_false_iff_ne.mpr c19
                    have c19b1 : (a0 != 45) = true := bne_iff_ne.mpr c19
                    by_cases c20 : a0 = 46
                    · rw [if_pos c20] at H
                      have c20b0 : (a0 == 46) = true := beq_iff_eq.mpr c20
                      have c20b1 : (a0 != 46) = false := bne_eq_false_iff_eq.mpr c20
                      clear c20
                      have H' := Aside0.mk H
                      clear H
                      go_wp2
                      go_meet
                      case rel => exact ⟨_, (true), (by first | rfl | (simp; done) | (simp [*]; done)), H', ⟨by first | omega | exact Nat.le_refl _⟩, ⟨by repeat (first | (with_reducible first | exact HB.out | apply below_alloc | apply pw_below_drewN | apply below_drew1) | exact HB.out)⟩⟩
                    · rw [if_neg c20] at H
                      have c20b0 : (a0 == 46) = false := beq_eq_false_iff_ne.mpr c20
                      have c20b1 : (a0 != 46) = true := bne_iff_ne.mpr c20
                      have H' := Aside0.mk H
                      clear H
                      go_wp2
                      go_meet
                      case rel => exact ⟨_, ((a0 == 95)), (by first | rfl | (simp; done) | (simp [*]; done)), H', ⟨by first | omega | exact Nat.le_refl _⟩, ⟨by repeat (first | (with_reducible first | exact HB.out | apply below_alloc | apply pw_below_drewN | apply below_drew1) | exact HB.out)⟩⟩
        · rw [if_neg c9] at H
          have c9b0 : decide (65 ≤ a0) = false := decide_eq_false c9
          clear c9
          by_cases c21 : a0 ≥ 97
          · rw [if_pos c21] at H
            have c21b0 : decide (97 ≤ a0) = true := decide_eq_true c21
            clear c21
            by_cases c22 : a0 ≤ 122
            · rw [if_pos c22] at H
              have c22b0 : decide (a0 ≤ 122) = true := decide_eq_true c22
              clear c22
              have H' := Aside0.mk H
              clear H
              go_wp2
              go_meet
              case rel => exact ⟨_, (true), (by first | rfl | (simp; done) | (simp [*]; done)), H', ⟨by first | omega | exact Nat.le_refl _⟩, ⟨by repeat (first | (with_reducible first | exact HB.out | apply below_alloc | apply pw_below_drewN | apply below_drew1) | exact HB.out)⟩⟩
            · rw [if_neg c22] at H
              have c22b0 : decide (a0 ≤ 122) = false := decide_eq_false c22
              clear c22
              by_cases c23 : a0 = 37
              · rw [if_pos c23] at H
                have c23b0 : (a0 == 37) = true := beq_iff_eq.mpr c23
                have c23b1 : (a0 != 37) = false := bne_eq_false_iff_eq.mpr c23
                clear c23
                have H' := Aside0.mk H
                clear H
                go_wp2
                go_meet
                case rel => exact ⟨_, (true), (by first | rfl | (simp; done) | (simp [*]; done)), H', ⟨by first | omega | exact Nat.le_refl _⟩, ⟨by repeat (first | (with_reducible first | exact HB.out | apply below_alloc | apply pw_below_drewN | apply below_drew1) | exact HB.out)⟩⟩
              · rw [if_neg c23] at H
                have c23b0 : (a0 == 37) = false := beq_eq_false_iff_ne.mpr c23
                have c23b1 : (a0 != 37) = true := bne_iff_ne.mpr c23
                by_cases c24 : a0 = 47
                · rw [if_pos c24] at H
                  have c24b0 : (a0 == 47) = true := beq_iff_eq.mpr c24
                  have c24b1 : (a0 != 47) = false := bne_eq_false_iff_eq.mpr c24
                  clear c24
                  have H' := Aside0.mk H
                  clear H
                  go_wp2
                  go_meet
                  case rel => exact ⟨_, (true), (by first | rfl | (simp; done) | (simp [*]; done)), H', ⟨by first | omega | exact Nat.le_refl _⟩, ⟨by repeat (first | (with_reducible first | exact HB.out | apply below_alloc | apply pw_below_drewN | apply below_drew1) | exact HB.out)⟩⟩
                · rw [if_neg c24] at H
                  have c24b0 : (a0 == 47) = false := beq_eq_false_iff_ne.mpr c24
                  have c24b1 : (a0 != 47) = true := bne_iff_ne.mpr c24
                  by_cases c25 : a0 = 45
                  · rw [if_pos c25] at H
                    have c25b0 : (a0 == 45) = true := beq_iff_eq.mpr c25
                    have c25b1 : (a0 != 45) = false := bne_eq_false_iff_eq.mpr c25
                    clear c25
                    have H' := Aside0.mk H
                    clear H
                    go_wp2
                    go_meet
                    case rel => exact ⟨_, (true), (by first | rfl | (simp; done) | (simp [*]; done)), H', ⟨by first | omega | exact Nat.le_refl _⟩, ⟨by repeat (first | (with_reducible first | exact HB.out | apply below_alloc | apply pw_below_drewN | apply below_drew1) | exact HB.out)⟩⟩
                  · rw [if_neg c25] at H
                    have c25b0 : (a0 == 45) = false := beq_eq_false_iff_ne.mpr c25
                    have c25b1 : (a0 != 45) = true := bne_iff_ne.mpr c25
                    by_cases c26 : a0 = 46
                    · rw [if_pos c26] at H
                      have c26b0 : (a0 == 46) = true := beq_iff_eq.mpr c26
                      have c26b1 : (a0 != 46) = false := bne_eq_false_iff_eq.mpr c26
                      clear c26
                      have H' := Aside0.mk H
                      clear H
                      go_wp2
                      go_meet
                      case rel => exact ⟨_, (true), (by first | rfl | (simp; done) | (simp [*]; done)), H', ⟨by first | omega | exact Nat.le_refl _⟩, ⟨by repeat (first | (with_reducible first | exact HB.out | apply below_alloc | apply pw_below_drewN | apply below_drew1) | exact HB.out)⟩⟩
                    · rw [if_neg c26] at H
                      have c26b0 : (a0 == 46) = false := beq_eq_false_iff_ne.mpr c26
                      have c26b1 : (a0 != 46) = true := bne_iff_ne.mpr c26
                      have H' := Aside0.mk H
                      clear H
                      go_wp2
                      go_meet
                      case rel => exact ⟨_, ((a0 == 95)), (by first | rfl | (simp; done) | (simp [*]; done)), H', ⟨by first | omega | exact Nat.le_refl _⟩, ⟨by repeat (first | (with_reducible first | exact HB.out | apply below_alloc | apply pw_below_drewN | apply below_drew1) | exact HB.out)⟩⟩
          · rw [if_neg c21] at H
            have c21b0 : decide (97 ≤ a0) = false := decide_eq_false c21
            clear c21
            by_cases c27 : a0 = 37
            · rw [if_pos c27] at H
              have c27b0 : (a0 == 37) = true := beq_iff_eq.mpr c27
              have c27b1 : (a0 != 37) = false := bne_eq_false_iff_eq.mpr c27
              clear c27
              have H' := Aside0.mk H
              clear H
              go_wp2
              go_meet
              case rel => exact ⟨_, (true), (by first | rfl | (simp; done) | (simp [*]; done)), H', ⟨by first | omega | exact Nat.le_refl _⟩, ⟨by repeat (first | (with_reducible first | exact HB.out | apply below_alloc | apply pw_below_drewN | apply below_drew1) | exact HB.out)⟩⟩
            · rw [if_neg c27] at H
              have c27b0 : (a0 == 37) = false := beq_eq_false_iff_ne.mpr c27
              have c27b1 : (a0 != 37) = true := bne_iff_ne.mpr c27
              by_cases c28 : a0 = 47
              · rw [if_pos c28] at H
                have c28b0 : (a0 == 47) = true := beq_iff_eq.mpr c28
                have c28b1 : (a0 != 47) = false := bne_eq_false_iff_eq.mpr c28
                clear c28
                have H' := Aside0.mk H
                clear H
                go_wp2
                go_meet
                case rel => exact ⟨_, (true), (by first | rfl | (simp; done) | (simp [*]; done)), H', ⟨by first | omega | exact Nat.le_refl _⟩, ⟨by repeat (first | (with_reducible first | exact HB.out | apply below_alloc | apply pw_below_drewN | apply below_drew1) | exact HB.out)⟩⟩
              · rw [if_neg c28] at H
                have c28b0 : (a0 == 47) = false := beq_eq_false_iff_ne.mpr c28
                have c28b1 : (a0 != 47) = true := bne_iff_ne.mpr c28
                by_cases c29 : a0 = 45
                · rw [if_pos c29] at H
                  have c29b0 : (a0 == 45) = true := beq_iff_eq.mpr c29
                  have c29b1 : (a0 != 45) = false := bne_eq_false_iff_eq.mpr c29
                  clear c29
                  have H' := Aside0.mk H
                  clear H
                  go_wp2
                  go_meet
                  case rel => exact ⟨_, (true), (by first | rfl | (simp; done) | (simp [*]; done)), H', ⟨by first | omega | exact Nat.le_refl _⟩, ⟨by repeat (first | (with_reducible first | exact HB.out | apply below_alloc | apply pw_below_drewN | apply below_drew1) | exact HB.out)⟩⟩
                · rw [if_neg c29] at H
                  have c29b0 : (a0 == 45) = false := beq_eq_false_iff_ne.mpr c29
                  have c29b1 : (a0 != 45) = true := bne_iff_ne.mpr c29
                  by_cases c30 : a0 = 46
                  · rw [if_pos c30] at H
                    have c30b0 : (a0 == 46) = true := beq_iff_eq.mpr c30
                    have c30b1 : (a0 != 46) = false := bne_eq_false_iff_eq.mpr c30
                    clear c30
                    have H' := Aside0.mk H
                    clear H
                    go_wp2
                    go_meet
                    case rel => exact ⟨_, (true), (by first | rfl | (simp; done) | (simp [*]; done)), H', ⟨by first | omega | exact Nat.le_refl _⟩, ⟨by repeat (first | (with_reducible first | exact HB.out | apply below_alloc | apply pw_below_drewN | apply below_drew1) | exact HB.out)⟩⟩
                  · rw [if_neg c30] at H
                    have c30b0 : (a0 == 46) = false := beq_eq_false_iff_ne.mpr c30
                    have c30b1 : (a0 != 46) = true := bne_iff_ne.mpr c30
                    have H' := Aside0.mk H
                    clear H
                    go_wp2
                    go_meet
                    case rel => exact ⟨_, ((a0 == 95)), (by first | rfl | (simp; done) | (simp [*]; done)), H', ⟨by first | omega | exact Nat.le_refl _⟩, ⟨by repeat (first | (with_reducible first | exact HB.out | apply below_alloc | apply pw_below_drewN | apply below_drew1) | exact HB.out)⟩⟩
    · rw [if_neg c7] at H
      have c7b0 : decide (48 ≤ a0) = false := decide_eq_false c7
      clear c7
      (first | rw [c7b0] | (simp only [i64_w, i32_w]; rw [c7b0]) | skip)
      by_cases c31 : a0 ≥ 65
      · rw [if_pos c31] at H
        have c31b0 : decide (65 ≤ a0) = true := decide_eq_true c31
        clear c31
        by_cases c32 : a0 ≤ 90
        · rw [if_pos c32] at H
          have c32b0 : decide (a0 ≤ 90) = true := decide_eq_true c32
          clear c32
          have H' := Aside0.mk H
          clear H
          go_wp2
          go_meet
          case rel => exact ⟨_, (true), (by first | rfl | (simp; done) | (simp [*]; done)), H', ⟨by first | omega | exact Nat.le_refl _⟩, ⟨by repeat (first | (with_reducible first | exact HB.out | apply below_alloc | apply pw_below_drewN | apply below_drew1) | exact HB.out)⟩⟩
        · rw [if_neg c32] at H
          have c32b0 : decide (a0 ≤ 90) = false := decide_eq_false c32
          clear c32
          by_cases c33 : a0 ≥ 97
          · rw [if_pos c33] at H
            have c33b0 : decide (97 ≤ a0) = true := decide_eq_true c33
            clear c33
            by_cases c34 : a0 ≤ 122
            · rw [if_pos c34] at H
              have c34b0 : decide (a0 ≤ 122) = true := decide_eq_true c34
              clear c34
              have H' := Aside0.mk H
              clear H
              go_wp2
              go_meet
              case rel => exact ⟨_, (true), (by first | rfl | (simp; done) | (simp [*]; done)), H', ⟨by first | omega | exact Nat.le_refl _⟩, ⟨by repeat (first | (with_reducible first | exact HB.out | apply below_alloc | apply pw_below_drewN | apply below_drew1) | exact HB.out)⟩⟩
            · rw [if_neg c34] at H
              have c34b0 : decide (a0 ≤ 122) = false := decide_eq_false c34
              clear c34
              by_cases c35 : a0 = 37
              · rw [if_pos c35] at H
                have c35b0 : (a0 == 37) = true := beq_iff_eq.mpr c35
                have c35b1 : (a0 != 37) = false := bne_eq_false_iff_eq.mpr c35
                clear c35
                have H' := Aside0.mk H
                clear H
                go_wp2
                go_meet
                case rel => exact ⟨_, (true), (by first | rfl | (simp; done) | (simp [*]; done)), H', ⟨by first | omega | exact Nat.le_refl _⟩, ⟨by repeat (first | (with_reducible first | exact HB.out | apply below_alloc | apply pw_below_drewN | apply below_drew1) | exact HB.out)⟩⟩
              · rw [if_neg c35] at H
                have c35b0 : (a0 == 37) = false := beq_eq_false_iff_ne.mpr c35
                have c35b1 : (a0 != 37) = true := bne_iff_ne.mpr c35
                by_cases c36 : a0 = 47
                · rw [if_pos c36] at H
                  have c36b0 : (a0 == 47) = true := beq_iff_eq.mpr c36
                  have c36b1 : (a0 != 47) = false := bne_eq_false_iff_eq.mpr c36
                  clear c36
                  have H' := Aside0.mk H
                  clear H
                  go_wp2
                  go_meet
                  case rel => exact ⟨_, (true), (by first | rfl | (simp; done) | (simp [*]; done)), H', ⟨by first | omega | exact Nat.le_refl _⟩, ⟨by repeat (first | (with_reducible first | exact HB.out | apply below_alloc | apply pw_below_drewN | apply below_drew1) | exact HB.out)⟩⟩
                · rw [if_neg c36] at H
                  have c36b0 : (a0 == 47) = false := beq_eq_false_iff_ne.mpr c36
                  have c36b1 : (a0 != 47) = true := bne_iff_ne.mpr c36
                  by_cases c37 : a0 = 45
                  · rw [if_pos c37] at H
                    have c37b0 : (a0 == 45) = true := beq_iff_eq.mpr c37
                    have c37b1 : (a0 != 45) = false := bne_eq_false_iff_eq.mpr c37
                    clear c37
                    have H' := Aside0.mk H
                    clear H
                    go_wp2
                    go_meet
                    case rel => exact ⟨_, (true), (by first | rfl | (simp; done) | (simp [*]; done)), H', ⟨by first | omega | exact Nat.le_refl _⟩, ⟨by repeat (first | (with_reducible first | exact HB.out | apply below_alloc | apply pw_below_drewN | apply below_drew1) | exact HB.out)⟩⟩
                  · rw [if_neg c37] at H
                    have c37b0 : (a0 == 45) = false := beq_eq_false_iff_ne.mpr c37
                    have c37b1 : (a0 != 45) = true := bne_iff_ne.mpr c37
                    by_cases c38 : a0 = 46
                    · rw [if_pos c38] at H
                      have c38b0 : (a0 == 46) = true := beq_iff_eq.mpr c38
                      have c38b1 : (a0 != 46) = false := bne_eq_false_iff_eq.mpr c38
                      clear c38
                      have H' := Aside0.mk H
                      clear H
                      go_wp2
                      go_meet
                      case rel => exact ⟨_, (true), (by first | rfl | (simp; done) | (simp [*]; done)), H', ⟨by first | omega | exact Nat.le_refl _⟩, ⟨by repeat (first | (with_reducible first | exact HB.out | apply below_alloc | apply pw_below_drewN | apply below_drew1) | exact HB.out)⟩⟩
                    · rw [if_neg c38] at H
                      have c38b0 : (a0 == 46) = false := beq_eq_false_iff_ne.mpr c38
                      have c38b1 : (a0 != 46) = true := bne_iff_ne.mpr c38
                      have H' := Aside0.mk H
                      clear H
                      go_wp2
                      go_meet
                      case rel => exact ⟨_, ((a0 == 95)), (by first | rfl | (simp; done) | (simp [*]; done)), H', ⟨by first | omega | exact Nat.le_refl _⟩, ⟨by repeat (first | (with_reducible first | exact HB.out | apply below_alloc | apply pw_below_drewN | apply below_drew1) | exact HB.out)⟩⟩
          · rw [if_neg c33] at H
            have c33b0 : decide (97 ≤ a0) = false := decide_eq_false c33
            clear c33
            by_cases c39 : a0 = 37
            · rw [if_pos c39] at H
              have c39b0 : (a0 == 37) = true := beq_iff_eq.mpr c39
              have c39b1 : (a0 != 37) = false := bne_eq_false_iff_eq.mpr c39
              clear c39
              have H' := Aside0.mk H
              clear H
              go_wp2
              go_meet
              case rel => exact ⟨_, (true), (by first | rfl | (simp; done) | (simp [*]; done)), H', ⟨by first | omega | exact Nat.le_refl _⟩, ⟨by repeat (first | (with_reducible first | exact HB.out | apply below_alloc | apply pw_below_drewN | apply below_drew1) | exact HB.out)⟩⟩
            · rw [if_neg c39] at H
              have c39b0 : (a0 == 37) = false := beq_eq_false_iff_ne.mpr c39
              have c39b1 : (a0 != 37) = true := bne_iff_ne.mpr c39
              by_cases c40 : a0 = 47
              · rw [if_pos c40] at H
                have c40b0 : (a0 == 47) = true := beq_iff_eq.mpr c40
                have c40b1 : (a0 != 47) = false := bne_eq_false_iff_eq.mpr c40
                clear c40
                have H' := Aside0.mk H
                clear H
                go_wp2
                go_meet
                case rel => exact ⟨_, (true), (by first | rfl | (simp; done) | (simp [*]; done)), H', ⟨by first | omega | exact Nat.le_refl _⟩, ⟨by repeat (first | (with_reducible first | exact HB.out | apply below_alloc | apply pw_below_drewN | apply below_drew1) | exact HB.out)⟩⟩
              · rw [if_neg c40] at H
                have c40b0 : (a0 == 47) = false := beq_eq_false_iff_ne.mpr c40
                have c40b1 : (a0 != 47) = true := bne_iff_ne.mpr c40
                by_cases c41 : a0 = 45
                · rw [if_pos c41] at H
                  have c41b0 : (a0 == 45) = true := beq_iff_eq.mpr c41
                  have c41b1 : (a0 != 45) = false := bne_eq_false_iff_eq.mpr c41
                  clear c41
                  have H' := Aside0.mk H
                  clear H
                  go_wp2
                  go_meet
                  case rel => exact ⟨_, (true), (by first | rfl | (simp; done) | (simp [*]; done)), H', ⟨by first | omega | exact Nat.le_refl _⟩, ⟨by repeat (first | (with_reducible first | exact HB.out | apply below_alloc | apply pw_below_drewN | apply below_drew1) | exact HB.out)⟩⟩
                · rw [if_neg c41] at H
                  have c41b0 : (a0 == 45) = false := beq_eq_false_iff_ne.mpr c41
                  have c41b1 : (a0 != 45) = true := bne_iff_ne.mpr c41
                  by_cases c42 : a0 = 46
                  · rw [if_pos c42] at H
                    have c42b0 : (a0 == 46) = true := beq_iff_eq.mpr c42
                    have c42b1 : (a0 != 46) = false := bne_eq_false_iff_eq.mpr c42
                    clear c42
                    have H' := Aside0.mk H
                    clear H
                    go_wp2
                    go_meet
                    case rel => exact ⟨_, (true), (by first | rfl | (simp; done) | (simp [*]; done)), H', ⟨by first | omega | exact Nat.le_refl _⟩, ⟨by repeat (first | (with_reducible first | exact HB.out | apply below_alloc | apply pw_below_drewN | apply below_drew1) | exact HB.out)⟩⟩
                  · rw [if_neg c42] at H
                    have c42b0 : (a0 == 46) = false := beq_eq_false_iff_ne.mpr c42
                    have c42b1 : (a0 != 46) = true := bne_iff_ne.mpr c42
                    have H' := Aside0.mk H
                    clear H
                    go_wp2
                    go_meet
                    case rel => exact ⟨_, ((a0 == 95)), (by first | rfl | (simp; done) | (simp [*]; done)), H', ⟨by first | omega | exact Nat.le_refl _⟩, ⟨by repeat (first | (with_reducible first | exact HB.out | apply below_alloc | apply pw_below_drewN | apply below_drew1) | exact HB.out)⟩⟩
      · rw [if_neg c31] at H
        have c31b0 : decide (65 ≤ a0) = false := decide_eq_false c31
        clear c31
        by_cases c43 : a0 ≥ 97
        · rw [if_pos c43] at H
          have c43b0 : decide (97 ≤ a0) = true := decide_eq_true c43
          clear c43
          by_cases c44 : a0 ≤ 122
          · rw [if_pos c44] at H
            have c44b0 : decide (a0 ≤ 122) = true := decide_eq_true c44
            clear c44
            have H' := Aside0.mk H
            clear H
            go_wp2
            go_meet
            case rel => exact ⟨_, (true), (by first | rfl | (simp; done) | (simp [*]; done)), H', ⟨by first | omega | exact Nat.le_refl _⟩, ⟨by repeat (first | (with_reducible first | exact HB.out | apply below_alloc | apply pw_below_drewN | apply below_drew1) | exact HB.out)⟩⟩
          · rw [if_neg c44] at H
            have c44b0 : decide (a0 ≤ 122) = false := decide_eq_false c44
            clear c44
            by_cases c45 : a0 = 37
            · rw [if_pos c45] at H
              have c45b0 : (a0 == 37) = true := beq_iff_eq.mpr c45
              have c45b1 : (a0 != 37) = false := bne_eq_false_iff_eq.mpr c45
              clear c45
              have H' := Aside0.mk H
              clear H
              go_wp2
              go_meet
              case rel => exact ⟨_, (true), (by first | rfl | (simp; done) | (simp [*]; done)), H', ⟨by first | omega | exact Nat.le_refl _⟩, ⟨by repeat (first | (with_reducible first | exact HB.out | apply below_alloc | apply pw_below_drewN | apply below_drew1) | exact HB.out)⟩⟩
            · rw [if_neg c45] at H
              have c45b0 : (a0 == 37) = false := beq_eq_false_iff_ne.mpr c45
              have c45b1 : (a0 != 37) = true := bne_iff_ne.mpr c45
              by_cases c46 : a0 = 47
              · rw [if_pos c46] at H
                have c46b0 : (a0 == 47) = true := beq_iff_eq.mpr c46
                have c46b1 : (a0 != 47) = false := bne_eq_false_iff_eq.mpr c46
                clear c46
                have H' := Aside0.mk H
                clear H
                go_wp2
                go_meet
                case rel => exact ⟨_, (true), (by first | rfl | (simp; done) | (simp [*]; done)), H', ⟨by first | omega | exact Nat.le_refl _⟩, ⟨by repeat (first | (with_reducible first | exact HB.out | apply below_alloc | apply pw_below_drewN | apply below_drew1) | exact HB.out)⟩⟩
              · rw [if_neg c46] at H
                have c46b0 : (a0 == 47) = false := beq_eq_false_iff_ne.mpr c46
                have c46b1 : (a0 != 47) = true := bne_iff_ne.mpr c46
                by_cases c47 : a0 = 45
                · rw [if_pos c47] at H
                  have c47b0 : (a0 == 45) = true := beq_iff_eq.mpr c47
                  have c47b1 : (a0 != 45) = false := bne_eq_false_iff_eq.mpr c47
                  clear c47
                  have H' := Aside0.mk H
                  clear H
                  go_wp2
                  go_meet
                  case rel => exact ⟨_, (true), (by first | rfl | (simp; done) | (simp [*]; done)), H', ⟨by first | omega | exact Nat.le_refl _⟩, ⟨by repeat (first | (with_reducible first | exact HB.out | apply below_alloc | apply pw_below_drewN | apply below_drew1) | exact HB.out)⟩⟩
                · rw [if_neg c47] at H
                  have c47b0 : (a0 == 45) = false := beq_eq_false_iff_ne.mpr c47
                  have c47b1 : (a0 != 45) = true := bne_iff_ne.mpr c47
                  by_cases c48 : a0 = 46
                  · rw [if_pos c48] at H
                    have c48b0 : (a0 == 46) = true := beq_iff_eq.mpr c48
                    have c48b1 : (a0 != 46) = false := bne_eq_false_iff_eq.mpr c48
                    clear c48
                    have H' := Aside0.mk H
                    clear H
                    go_wp2
                    go_meet
                    case rel => exact ⟨_, (true), (by first | rfl | (simp; done) | (simp [*]; done)), H', ⟨by first | omega | exact Nat.le_refl _⟩, ⟨by repeat (first | (with_reducible first | exact HB.out | apply below_alloc | apply pw_below_drewN | apply below_drew1) | exact HB.out)⟩⟩
                  · rw [if_neg c48] at H
                    have c48b0 : (a0 == 46) = false := beq_eq_false_iff_ne.mpr c48
                    have c48b1 : (a0 != 46) = true := bne_iff_ne.mpr c48
                    have H' := Aside0.mk H
                    clear H
                    go_wp2
                    go_meet
                    case rel => exact ⟨_, ((a0 == 95)), (by first | rfl | (simp; done) | (simp [*]; done)), H', ⟨by first | omega | exact Nat.le_refl _⟩, ⟨by repeat (first | (with_reducible first | exact HB.out | apply below_alloc | apply pw_below_drewN | apply below_drew1) | exact HB.out)⟩⟩
        · rw [if_neg c43] at H
          have c43b0 : decide (97 ≤ a0) = false := decide_eq_false c43
          clear c43
          by_cases c49 : a0 = 37
          · rw [if_pos c49] at H
            have c49b0 : (a0 == 37) = true := beq_iff_eq.mpr c49
            have c49b1 : (a0 != 37) = false := bne_eq_false_iff_eq.mpr c49
            clear c49
            have H' := Aside0.mk H
            clear H
            go_wp2
            go_meet
            case rel => exact ⟨_, (true), (by first | rfl | (simp; done) | (simp [*]; done)), H', ⟨by first | omega | exact Nat.le_refl _⟩, ⟨by repeat (first | (with_reducible first | exact HB.out | apply below_alloc | apply pw_below_drewN | apply below_drew1) | exact HB.out)⟩⟩
          · rw [if_neg c49] at H
            have c49b0 : (a0 == 37) = false := beq_eq_false_iff_ne.mpr c49
            have c49b1 : (a0 != 37) = true := bne_iff_ne.mpr c49
            by_cases c50 : a0 = 47
            · rw [if_pos c50] at H
              have c50b0 : (a0 == 47) = true := beq_iff_eq.mpr c50
              have c50b1 : (a0 != 47) = false := bne_eq_false_iff_eq.mpr c50
              clear c50
              have H' := Aside0.mk H
              clear H
              go_wp2
              go_meet
              case rel => exact ⟨_, (true), (by first | rfl | (simp; done) | (simp [*]; done)), H', ⟨by first | omega | exact Nat.le_refl _⟩, ⟨by repeat (first | (with_reducible first | exact HB.out | apply below_alloc | apply pw_below_drewN | apply below_drew1) | exact HB.out)⟩⟩
            · rw [if_neg c50] at H
              have c50b0 : (a0 == 47) = false := beq_eq_false_iff_ne.mpr c50
              have c50b1 : (a0 != 47) = true := bne_iff_ne.mpr c50
              by_cases c51 : a0 = 45
              · rw [if_pos c51] at H
                have c51b0 : (a0 == 45) = true := beq_iff_eq.mpr c51
                have c51b1 : (a0 != 45) = false := bne_eq_false_iff_eq.mpr c51
                clear c51
                have H' := Aside0.mk H
                clear H
                go_wp2
                go_meet
                case rel => exact ⟨_, (true), (by first | rfl | (simp; done) | (simp [*]; done)), H', ⟨by first | omega | exact Nat.le_refl _⟩, ⟨by repeat (first | (with_reducible first | exact HB.out | apply below_alloc | apply pw_below_drewN | apply below_drew1) | exact HB.out)⟩⟩
              · rw [if_neg c51] at H
                have c51b0 : (a0 == 45) = false := beq_eq_false_iff_ne.mpr c51
                have c51b1 : (a0 != 45) = true := bne_iff_ne.mpr c51
                by_cases c52 : a0 = 46
                · rw [if_pos c52] at H
                  have c52b0 : (a0 == 46) = true := beq_iff_eq.mpr c52
                  have c52b1 : (a0 != 46) = false := bne_eq_false_iff_eq.mpr c52
                  clear c52
                  have H' := Aside0.mk H
                  clear H
                  go_wp2
                  go_meet
                  case rel => exact ⟨_, (true), (by first | rfl | (simp; done) | (simp [*]; done)), H', ⟨by first | omega | exact Nat.le_refl _⟩, ⟨by repeat (first | (with_reducible first | exact HB.out | apply below_alloc | apply pw_below_drewN | apply below_drew1) | exact HB.out)⟩⟩
                · rw [if_neg c52] at H
                  have c52b0 : (a0 == 46) = false := beq_eq_false_iff_ne.mpr c52
                  have c52b1 : (a0 != 46) = true := bne_iff_ne.mpr c52
                  have H' := Aside0.mk H
                  clear H
                  go_wp2
                  go_meet
                  case rel => exact ⟨_, ((a0 == 95)), (by first | rfl | (simp; done) | (simp [*]; done)), H', ⟨by first | omega | exact Nat.le_refl _⟩, ⟨by repeat (first | (with_reducible first | exact HB.out | apply below_alloc | apply pw_below_drewN | apply below_drew1) | exact HB.out)⟩⟩
  case rest =>
    clear HC4
    try clear c1
    try clear c2
    try clear p2
    try clear c3
    try clear c4
    try clear c5
    try clear c7
    try clear c7b0
    try clear c8
    try clear c8b0
    try clear c9
    try clear c9b0
    try clear c10
    try clear c10b0
    try clear c11
    try clear c11b0
    try clear c12
    try clear c12b0
    try clear c13
    try clear c13b0
    try clear c13b1
    try clear c14
    try clear c14b0
    try clear c14b1
    try clear c15
    try clear c15b0
    try clear c15b1
    try clear c16
    try clear c16b0
    try clear c16b1
    try clear c17
    try clear c17b0
    try clear c17b1
    try clear c18
    try clear c18b0
    try clear c18b1
    try clear c19
    try clear c19b0
    try clear c19b1
    try clear c20
    try clear c20b0
    try clear c20b1
    try clear c21
    try clear c21b0
    try clear c22
    try clear c22b0
    try clear c23
    try clear c23b0
    try clear c23b1
    try clear c24
    try clear c24b0
    try clear c24b1
    try clear c25
    try clear c25b0
    try clear c25b1
    try clear c26
    try clear c26b0
    try clear c26b1
    try clear c27
    try clear c27b0
    try clear c27b1
    try clear c28
    try clear c28b0
    try clear c28b1
    try clear c29
    try clear c29b0
    try clear c29b1
    try clear c30
    try clear c30b0
    try clear c30b1
    try clear c31
    try clear c31b0
    try clear c32
    try clear c32b0
    try clear c33
    try clear c33b0
    try clear c34
    try clear c34b0
    try clear c35
    try clear c35b0
    try clear c35b1
    try clear c36
    try clear c36b0
    try clear c36b1
    try clear c37
    try clear c37b0
    try clear c37b1
    try clear c38
    try clear c38b0
    try clear c38b1
    try clear c39
    try clear c39b0
    try clear c39b1
    try clear c40
    try clear c40b0
    try clear c40b1
    try clear c41
    try clear c41b0
    try clear c41b1
    try clear c42
    try clear c42b0
    try clear c42b1
    try clear c43
    try clear c43b0
    try clear c44
    try clear c44b0
    try clear c45
    try clear c45b0
    try clear c45b1
    try clear c46
    try clear c46b0
    try clear c46b1
    try clear c47
    try clear c47b0
    try clear c47b1
    try clear c48
    try clear c48b0
    try clear c48b1
    try clear c49
    try clear c49b0
    try clear c49b1
    try clear c50
    try clear c50b0
    try clear c50b1
    try clear c51
    try clear c51b0
    try clear c51b1
    try clear c52
    try clear c52b0
    try clear c52b1
    obtain ⟨kq, x5_3, rfl, HA, HJ3, HB⟩ := hcut
    cases kq with
    | zero => exact absurd HA.out (by simp [transeptlaw06_PercentSets.j0])
    | succ kj3 =>
      have H := HA.out
      clear HA
      simp only [transeptlaw06_PercentSets.j0] at H
      have H' := Aside0.mk H
      clear H
      go_wp2
      go_loopg [6] kj3 (fun kq v6 w' => ∃ (x6_2 : Int), v6 = .int .i64 x6_2 ∧ Aside0 (transeptlaw06_PercentSets.l0 kq a0 t164 t165 x5_3 x6_2 = some r) ∧ Aside0 (kq ≤ kj3) ∧ Aside0 (Below w.heap.size w w'))
      case atStart => exact ⟨(1), (by first | rfl | (simp; done) | (simp [*]; done)), H', ⟨Nat.le_refl _⟩, ⟨by repeat (first | (with_reducible first | exact HB.out | apply below_alloc | apply pw_below_drewN | apply below_drew1) | exact HB.out)⟩⟩
      case round =>
        clear H'
        try clear c1
        try clear c2
        try clear p2
        try clear c3
        try clear c4
        try clear c5
        try clear c7
        try clear c7b0
        try clear c8
        try clear c8b0
        try clear c9
        try clear c9b0
        try clear c10
        try clear c10b0
        try clear c11
        try clear c11b0
        try clear c12
        try clear c12b0
        try clear c13
        try clear c13b0
        try clear c13b1
        try clear c14
        try clear c14b0
        try clear c14b1
        try clear c15
        try clear c15b0
        try clear c15b1
        try clear c16
        try clear c16b0
        try clear c16b1
        try clear c17
        try clear c17b0
        try clear c17b1
        try clear c18
        try clear c18b0
        try clear c18b1
        try clear c19
        try clear c19b0
        try clear c19b1
        try clear c20
        try clear c20b0
        try clear c20b1
        try clear c21
        try clear c21b0
        try clear c22
        try clear c22b0
        try clear c23
        try clear c23b0
        try clear c23b1
        try clear c24
        try clear c24b0
        try clear c24b1
        try clear c25
        try clear c25b0
        try clear c25b1
        try clear c26
        try clear c26b0
        try clear c26b1
        try clear c27
        try clear c27b0
        try clear c27b1
        try clear c28
        try clear c28b0
        try clear c28b1
        try clear c29
        try clear c29b0
        try clear c29b1
        try clear c30
        try clear c30b0
        try clear c30b1
        try clear c31
        try clear c31b0
        try clear c32
        try clear c32b0
        try clear c33
        try clear c33b0
        try clear c34
        try clear c34b0
        try clear c35
        try clear c35b0
        try clear c35b1
        try clear c36
        try clear c36b0
        try clear c36b1
        try clear c37
        try clear c37b0
        try clear c37b1
        try clear c38
        try clear c38b0
        try clear c38b1
        try clear c39
        try clear c39b0
        try clear c39b1
        try clear c40
        try clear c40b0
        try clear c40b1
        try clear c41
        try clear c41b0
        try clear c41b1
        try clear c42
        try clear c42b0
        try clear c42b1
        try clear c43
        try clear c43b0
        try clear c44
        try clear c44b0
        try clear c45
        try clear c45b0
        try clear c45b1
        try clear c46
        try clear c46b0
        try clear c46b1
        try clear c47
        try clear c47b0
        try clear c47b1
        try clear c48
        try clear c48b0
        try clear c48b1
        try clear c49
        try clear c49b0
        try clear c49b1
        try clear c50
        try clear c50b0
        try clear c50b1
        try clear c51
        try clear c51b0
        try clear c51b1
        try clear c52
        try clear c52b0
        try clear c52b1
        try clear p2
        obtain ⟨x6_2, rfl, HA, HK2, HB⟩ := hrel
        cases gk with
        | zero => exact absurd HA.out (by simp [transeptlaw06_PercentSets.l0])
        | succ k2 =>
          have H := HA.out
          clear HA
          simp only [transeptlaw06_PercentSets.l0] at H
          by_cases c53 : x6_2 ≤ 5
          · rw [if_pos c53] at H
            have c53b0 : decide (x6_2 ≤ 5) = true := decide_eq_true c53
            clear c53
            replace H := Option.bind_eq_some_iff.mp H
            obtain ⟨t166, A540, H⟩ := H
            replace H : (if t165 = true then (if t166 = true then (if x5_3 = true then (some false) else (transeptlaw06_PercentSets.l0 k2 a0 t164 t165 x5_3 (wrap64 (x6_2 + 1)))) else (some false)) else (if x5_3 = true then (if t166 = true then (some false) else (transeptlaw06_PercentSets.l0 k2 a0 t164 t165 x5_3 (wrap64 (x6_2 + 1)))) else (transeptlaw06_PercentSets.l0 k2 a0 t164 t165 x5_3 (wrap64 (x6_2 + 1))))) = some r := H
            have A54 := Aside0.mk A540
            clear A540
            by_cases c55 : t165 = true
            · subst c55
              have H1 : (if t166 = true then (if x5_3 = true then (some false) else (transeptlaw06_PercentSets.l0 k2 a0 t164 true x5_3 (wrap64 (x6_2 + 1)))) else (some false)) = some r := by rw [if_pos rfl] at H; exact H
              clear H
              have H := H1
              clear H1
              by_cases c56 : t166 = true
              · subst c56
                have H1 : (if x5_3 = true then (some false) else (transeptlaw06_PercentSets.l0 k2 a0 t164 true x5_3 (wrap64 (x6_2 + 1)))) = some r := by rw [if_pos rfl] at H; exact H
                clear H
                have H := H1
                clear H1
                by_cases c57 : x5_3 = true
                · subst c57
                  have H1 : (some false) = some r := by rw [if_pos rfl] at H; exact H
                  clear H
                  have H := H1
                  clear H1
                  exact absurd HT.out (by rw [← Option.some.inj H]; decide)
                · replace c57 := Bool.eq_false_iff.mpr c57
                  subst c57
                  have H1 : (transeptlaw06_PercentSets.l0 k2 a0 t164 true false (wrap64 (x6_2 + 1))) = some r := by rw [if_neg (show ¬ (false = true) by decide)] at H; exact H
                  clear H
                  have H := H1
                  clear H1
                  have H' := Aside0.mk H
                  clear H
                  go_wp2_with (first | ((with_reducible refine gate_callee (f := 11) rfl ?_); refine goesL_ (some 60) rfl rfl Try.func11 (by kernel_rfl) rfl #[.int .i64 x6_2, .int .u8 a0] rfl (by (try simp only [List.map_toArray, List.map_cons, List.map_nil]); first | done | rfl | (simp only [List.length_drop, List.length_take]; rfl)) ?_; (with_reducible refine (percent_In.calls x6_2 a0 true _ A54.out).mono ?_); rintro e w58 ⟨rfl, hb⟩; refine ⟨_, rfl, ?_⟩; have n0_ := Aside0.mk (below_step (by repeat (first | (with_reducible first | exact HB.out | apply below_alloc | apply pw_below_drewN | apply below_drew1) | exact HB.out)) hb); clear HB; have HB := n0_; clear n0_; (try clear hb); (try clear hb2); (try clear hk); (try clear hi)))
                  go_roundg k2
                  case measure => have := HJ3.out; have := HK2.out; omega
                  case rel => exact ⟨(wrap64 (x6_2 + 1)), (by first | rfl | (simp; done) | (simp [*]; done)), H', ⟨by have := HJ3.out; have := HK2.out; omega⟩, ⟨by repeat (first | (with_reducible first | exact HB.out | apply below_alloc | apply pw_below_drewN | apply below_drew1) | exact HB.out)⟩⟩
              · replace c56 := Bool.eq_false_iff.mpr c56
                subst c56
                have H1 : (some false) = some r := by rw [if_neg (show ¬ (false = true) by decide)] at H; exact H
                clear H
                have H := H1
                clear H1
                exact absurd HT.out (by rw [← Option.some.inj H]; decide)
            · replace c55 := Bool.eq_false_iff.mpr c55
              subst c55
              have H1 : (if x5_3 = true then (if t166 = true then (some false) else (transeptlaw06_PercentSets.l0 k2 a0 t164 false x5_3 (wrap64 (x6_2 + 1)))) else (transeptlaw06_PercentSets.l0 k2 a0 t164 false x5_3 (wrap64 (x6_2 + 1)))) = some r := by rw [if_neg (show ¬ (false = true) by decide)] at H; exact H
              clear H
              have H := H1
              clear H1
              by_cases c59 : x5_3 = true
              · subst c59
                have H1 : (if t166 = true then (some false) else (transeptlaw06_PercentSets.l0 k2 a0 t164 false true (wrap64 (x6_2 + 1)))) = some r := by rw [if_pos rfl] at H; exact H
                clear H
                have H := H1
                clear H1
                by_cases c60 : t166 = true
                · subst c60
                  have H1 : (some false) = some r := by rw [if_pos rfl] at H; exact H
                  clear H
                  have H := H1
                  clear H1
                  exact absurd HT.out (by rw [← Option.some.inj H]; decide)
                · replace c60 := Bool.eq_false_iff.mpr c60
                  subst c60
                  have H1 : (transeptlaw06_PercentSets.l0 k2 a0 t164 false true (wrap64 (x6_2 + 1))) = some r := by rw [if_neg (show ¬ (false = true) by decide)] at H; exact H
                  clear H
                  have H := H1
                  clear H1
                  have H' := Aside0.mk H
                  clear H
                  go_wp2_with (first | ((with_reducible refine gate_callee (f := 11) rfl ?_); refine goesL_ (some 60) rfl rfl Try.func11 (by kernel_rfl) rfl #[.int .i64 x6_2, .int .u8 a0] rfl (by (try simp only [List.map_toArray, List.map_cons, List.map_nil]); first | done | rfl | (simp only [List.length_drop, List.length_take]; rfl)) ?_; (with_reducible refine (percent_In.calls x6_2 a0 false _ A54.out).mono ?_); rintro e w61 ⟨rfl, hb⟩; refine ⟨_, rfl, ?_⟩; have n0_ := Aside0.mk (below_step (by repeat (first | (with_reducible first | exact HB.out | apply below_alloc | apply pw_below_drewN | apply below_drew1) | exact HB.out)) hb); clear HB; have HB := n0_; clear n0_; (try clear hb); (try clear hb2); (try clear hk); (try clear hi)))
                  go_roundg k2
                  case measure => have := HJ3.out; have := HK2.out; omega
                  case rel => exact ⟨(wrap64 (x6_2 + 1)), (by first | rfl | (simp; done) | (simp [*]; done)), H', ⟨by have := HJ3.out; have := HK2.out; omega⟩, ⟨by repeat (first | (with_reducible first | exact HB.out | apply below_alloc | apply pw_below_drewN | apply below_drew1) | exact HB.out)⟩⟩
              · replace c59 := Bool.eq_false_iff.mpr c59
                subst c59
                have H1 : (transeptlaw06_PercentSets.l0 k2 a0 t164 false false (wrap64 (x6_2 + 1))) = some r := by rw [if_neg (show ¬ (false = true) by decide)] at H; exact H
                clear H
                have H := H1
                clear H1
                have H' := Aside0.mk H
                clear H
                go_wp2_with (first | ((with_reducible refine gate_callee (f := 11) rfl ?_); refine goesL_ (some 60) rfl rfl Try.func11 (by kernel_rfl) rfl #[.int .i64 x6_2, .int .u8 a0] rfl (by (try simp only [List.map_toArray, List.map_cons, List.map_nil]); first | done | rfl | (simp only [List.length_drop, List.length_take]; rfl)) ?_; (with_reducible refine (percent_In.calls x6_2 a0 t166 _ A54.out).mono ?_); rintro e w62 ⟨rfl, hb⟩; refine ⟨_, rfl, ?_⟩; have n0_ := Aside0.mk (below_step (by repeat (first | (with_reducible first | exact HB.out | apply below_alloc | apply pw_below_drewN | apply below_drew1) | exact HB.out)) hb); clear HB; have HB := n0_; clear n0_; (try clear hb); (try clear hb2); (try clear hk); (try clear hi)))
                go_roundg k2
                case measure => have := HJ3.out; have := HK2.out; omega
                case rel => exact ⟨(wrap64 (x6_2 + 1)), (by first | rfl | (simp; done) | (simp [*]; done)), H', ⟨by have := HJ3.out; have := HK2.out; omega⟩, ⟨by repeat (first | (with_reducible first | exact HB.out | apply below_alloc | apply pw_below_drewN | apply below_drew1) | exact HB.out)⟩⟩
          · rw [if_neg c53] at H
            have c53b0 : decide (x6_2 ≤ 5) = false := decide_eq_false c53
            clear c53
            replace H := Option.bind_eq_some_iff.mp H
            obtain ⟨t167, A630, H⟩ := H
            replace H : (if t164 = true then (if t167 = true then ((percent_In.f 4 a0).bind fun t168 => (if t168 = true then ((percent_In.f 5 a0).bind fun t169 => (some t169)) else (some false))) else (some true)) else (some false)) = some r := H
            have A63 := Aside0.mk A630
            clear A630
            by_cases c64 : t164 = true
            · subst c64
              have H1 : (if t167 = true then ((percent_In.f 4 a0).bind fun t168 => (if t168 = true then ((percent_In.f 5 a0).bind fun t169 => (some t169)) else (some false))) else (some true)) = some r := by rw [if_pos rfl] at H; exact H
              clear H
              have H := H1
              clear H1
              by_cases c65 : t167 = true
              · subst c65
                have H1 : ((percent_In.f 4 a0).bind fun t168 => (if t168 = true then ((percent_In.f 5 a0).bind fun t169 => (some t169)) else (some false))) = some r := by rw [if_pos rfl] at H; exact H
                clear H
                have H := H1
                clear H1
                replace H := Option.bind_eq_some_iff.mp H
                obtain ⟨t168, A660, H⟩ := H
                replace H : (if t168 = true then ((percent_In.f 5 a0).bind fun t169 => (some t169)) else (some false)) = some r := H
                have A66 := Aside0.mk A660
                clear A660
                by_cases c67 : t168 = true
                · subst c67
                  have H1 : ((percent_In.f 5 a0).bind fun t169 => (some t169)) = some r := by rw [if_pos rfl] at H; exact H
                  clear H
                  have H := H1
                  clear H1
                  replace H := Option.bind_eq_some_iff.mp H
                  obtain ⟨t169, A680, H⟩ := H
                  replace H : (some t169) = some r := H
                  have A68 := Aside0.mk A680
                  clear A680
                  obtain rfl := Option.some.inj H
                  go_wp2_with (first | ((with_reducible refine gate_callee (f := 11) rfl ?_); refine goesL_ (some 73) rfl rfl Try.func11 (by kernel_rfl) rfl #[.int .i64 3, .int .u8 a0] rfl (by (try simp only [List.map_toArray, List.map_cons, List.map_nil]); first | done | rfl | (simp only [List.length_drop, List.length_take]; rfl)) ?_; (with_reducible refine (percent_In.calls 3 a0 true _ A63.out).mono ?_); rintro e w69 ⟨rfl, hb⟩; refine ⟨_, rfl, ?_⟩; have n0_ := Aside0.mk (below_step (by repeat (first | (with_reducible first | exact HB.out | apply below_alloc | apply pw_below_drewN | apply below_drew1) | exact HB.out)) hb); clear HB; have HB := n0_; clear n0_; (try clear hb); (try clear hb2); (try clear hk); (try clear hi)) | (go_at_call 11; (with_reducible refine (percent_In.calls 4 a0 true _ A66.out).mono ?_); rintro e w70 ⟨rfl, hb⟩; have n0_ := Aside0.mk (below_step (by repeat (first | (with_reducible first | exact HB.out | apply below_alloc | apply pw_below_drewN | apply below_drew1) | exact HB.out)) hb); clear HB; have HB := n0_; clear n0_; (try clear hb); (try clear hb2); (try clear hk); (try clear hi)) | (go_at_call 11; (with_reducible refine (percent_In.calls 5 a0 t169 _ A68.out).mono ?_); rintro e w71 ⟨rfl, hb⟩; have n0_ := Aside0.mk (below_step (by repeat (first | (with_reducible first | exact HB.out | apply below_alloc | apply pw_below_drewN | apply below_drew1) | exact HB.out)) hb); clear HB; have HB := n0_; clear n0_; (try clear hb); (try clear hb2); (try clear hk); (try clear hi)))
                  go_ret
                  exact ⟨by first | rfl | (simp [errW_none, errW_some] <;> rfl) | (simp [*, errW_none, errW_some] <;> rfl), by repeat (first | (with_reducible first | exact HB.out | apply below_alloc | apply pw_below_drewN | apply below_drew1) | exact HB.out)⟩
                · replace c67 := Bool.eq_false_iff.mpr c67
                  subst c67
                  have H1 : (some false) = some r := by rw [if_neg (show ¬ (false = true) by decide)] at H; exact H
                  clear H
                  have H := H1
                  clear H1
                  exact absurd HT.out (by rw [← Option.some.inj H]; decide)
              · replace c65 := Bool.eq_false_iff.mpr c65
                subst c65
                have H1 : (some true) = some r := by rw [if_neg (show ¬ (false = true) by decide)] at H; exact H
                clear H
                have H := H1
                clear H1
                obtain rfl := Option.some.inj H
                go_wp2_with (first | ((with_reducible refine gate_callee (f := 11) rfl ?_); refine goesL_ (some 73) rfl rfl Try.func11 (by kernel_rfl) rfl #[.int .i64 3, .int .u8 a0] rfl (by (try simp only [List.map_toArray, List.map_cons, List.map_nil]); first | done | rfl | (simp only [List.length_drop, List.length_take]; rfl)) ?_; (with_reducible refine (percent_In.calls 3 a0 false _ A63.out).mono ?_); rintro e w72 ⟨rfl, hb⟩; refine ⟨_, rfl, ?_⟩; have n0_ := Aside0.mk (below_step (by repeat (first | (with_reducible first | exact HB.out | apply below_alloc | apply pw_below_drewN | apply below_drew1) | exact HB.out)) hb); clear HB; have HB := n0_; clear n0_; (try clear hb); (try clear hb2); (try clear hk); (try clear hi)))
                go_ret
                exact ⟨by first | rfl | (simp [errW_none, errW_some] <;> rfl) | (simp [*, errW_none, errW_some] <;> rfl), by repeat (first | (with_reducible first | exact HB.out | apply below_alloc | apply pw_below_drewN | apply below_drew1) | exact HB.out)⟩
            · replace c64 := Bool.eq_false_iff.mpr c64
              subst c64
              have H1 : (some false) = some r := by rw [if_neg (show ¬ (false = true) by decide)] at H; exact H
              clear H
              have H := H1
              clear H1
              exact absurd HT.out (by rw [← Option.some.inj H]; decide)

/-- THE ONE PURE STATEMENT of transeptlaw06_PercentSets: yours. -/
def transeptlaw06_PercentSets.Pure : Prop := ∀ (a0 : Int), (Lit.int .u8 a0).wf = true → ∃ k, transeptlaw06_PercentSets.f k a0 = some true
theorem transeptlaw06_PercentSets.walk (P : transeptlaw06_PercentSets.Pure) (a0 : Int) (w : World) (w0 : (Lit.int .u8 a0).wf = true) :
    Calls Try.prog 7 #[.int .u8 a0] w fun e w' => e = .returned (.bool true) ∧ Below w.heap.size w w' := by
  obtain ⟨k, h⟩ := P a0 w0
  refine (transeptlaw06_PercentSets.calls k a0 true w rfl h).mono ?_
  rintro e w' ⟨rfl, hd⟩
  exact ⟨rfl, hd⟩

end Go.Proofs.Ytpofepfkalighaa.Xa
