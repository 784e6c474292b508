/- slices.Clone of bytes: its contract by hand. -/
import Derived.Test.YtojagnoobaleaaaDoorFrB
import Derived.WalkSpells
namespace Go.Proofs.YtojagnoobaleaaaDoor.Ext
open Go.RowKit Go.Proofs.YtojagnoobaleaaaDoorW.PrintWords Go.Proofs.YtojagnoobaleaaaDoorW.PrintLast Go.Proofs.YtojagnoobaleaaaDoorW.PrintMore
set_option linter.unusedVariables false
set_option linter.unusedSimpArgs false
theorem eql_nil (a : Option Addr) (n c : Nat) (w : World) : (binOp .eql 22 (.slice a n c) (.slice none 0 0)).run Tryd.prog w = .ok (.bool a.isNone) w := by
  simp only [binOp]
  simp [Op.equal, Op.maxDepth, Lib.run_equalIn_slice_nil w 9999 22 5 a n c 0 0 Tryd.underlying22]
set_option maxHeartbeats 1000000 in
theorem clone_calls (A : Option Addr) (c n : Nat) (l : List Int) (w : World) (hn : l.length = n) (hr : Kd.C (Kd.int .u8) w A n l) (hc : n ≤ c) (h : n ≤ 140737488355000) :
    Calls Tryd.prog 24 #[.slice A n c] w fun e w' => ∃ v, e = .returned v ∧ Kd.R (Kd.int .u8) 5 w' w.heap.size (fun _ => True) v l ∧ Below w.heap.size w w' := by
  cases A with
  | none =>
    have hl : l = [] := by
      cases l with
      | nil => rfl
      | cons a l =>
        obtain ⟨ad, hA, _⟩ := Kd.at_int hr 0 (by omega) (by simp only [List.length_cons] at hn; omega)
        cases hA
    subst hl
    have ke := fun W => eql_nil none n c W
    go_enter Tryd.func24, Tryd.ntmps24
    go_wp2
    go_ret
    exact ⟨_, rfl, Kd.R_nil _ _ _ _ _, Below.refl _ _⟩
  | some ad =>
    have HR := Aside0.mk hr
    have HN := Aside0.mk hn
    have ke := fun W => eql_nil (some ad) n c W
    have HE := Aside0.mk (own_lit w w.heap.size 5 .u8 [] (Nat.le_refl _) (by simp))
    clear hr hn
    go_enter Tryd.func24, Tryd.ntmps24
    go_wp2_with ((at_builtin; refine Kd.R_append_row (Value.int .u8) 0 (h1 := fun _ => rfl) (w0 := w) w.heap.size (by rfl) (.tmp 5) (.tmp 6) 22 5 (.int .u8 0) 1 rfl Tryd.underlying22 info5 rfl (by decide) (.slice (some ⟨w.heap.size, 0, none⟩) 0 0) [] l (some ad) n c (fun _ => True) rfl rfl (fun _ _ => trivial) ?aO ?aR ?aB ?aS ?aL ?_))
    case aO => exact Kd.R_of_own HE.out (fun _ _ => trivial)
    case aR => exact Kd.C_alloc HR.out _
    case aB => exact below_alloc (Below.refl _ _) _
    case aS => simp
    case aL => simp only [List.length_nil]; omega
    intro v1 w1 hv hb hg _
    have HV := Aside0.mk hv
    have HB := Aside0.mk hb
    clear hv hb hg
    go_wp2
    go_ret
    exact ⟨_, rfl, HV.out, HB.out⟩
end Go.Proofs.YtojagnoobaleaaaDoor.Ext
