/- The contracts of percent.In and percent.value, by hand. -/
import Derived.Test.YtpofepfkalighaaSet
namespace Go.Proofs.Ytpofepfkalighaa.Ext
open Go.RowKit Go.Proofs.YtpofepfkalighaaW.PrintWords Go.Proofs.YtpofepfkalighaaW.PrintMore
set_option linter.unusedVariables false

theorem field34a (W : World) : (Instr.field 34 (.agg #[.func (.func 25) #[] #[]]) 0).run Try.prog W = .ok (.func (.func 25) #[] #[]) W := by kernel_rfl
theorem field34c (W : World) : (Instr.field 34 (.agg #[.func (.func 27) #[] #[]]) 0).run Try.prog W = .ok (.func (.func 27) #[] #[]) W := by kernel_rfl
theorem field34b (W : World) (g h : Nat) : (Instr.field 34 (.agg #[.func (.func 30) #[] #[.pointer (some ⟨g, 0, none⟩), .pointer (some ⟨h, 0, none⟩)]]) 0).run Try.prog W = .ok (.func (.func 30) #[] #[.pointer (some ⟨g, 0, none⟩), .pointer (some ⟨h, 0, none⟩)]) W := by kernel_rfl
theorem lamA (c : Int) (m : ByteArray) (g h : Nat) (w : World) (h0 : w.heap[g]? = some (.cells #[f25] 34 (0, 0))) (h1 : w.heap[h]? = some (.cells #[.string m] 9 (0, 0))) :
    Calls Try.prog 30 #[.int .u8 c, .pointer (some ⟨g, 0, none⟩), .pointer (some ⟨h, 0, none⟩)] w fun e w' => e = .returned (.bool (inC0 c || hasB m c)) ∧ Drawn0 w w' :=
  lam30a c m _ _ w (blk_cell h0 0) (blk_cell h1 0)
theorem lamB (c : Int) (m m0 : ByteArray) (g h g0 h0 : Nat) (w : World) (k0 : w.heap[g]? = some (.cells #[fW g0 h0] 34 (0, 0))) (k1 : w.heap[h]? = some (.cells #[.string m] 9 (0, 0)))
    (k2 : w.heap[g0]? = some (.cells #[f25] 34 (0, 0))) (k3 : w.heap[h0]? = some (.cells #[.string m0] 9 (0, 0))) :
    Calls Try.prog 30 #[.int .u8 c, .pointer (some ⟨g, 0, none⟩), .pointer (some ⟨h, 0, none⟩)] w fun e w' => e = .returned (.bool ((inC0 c || hasB m0 c) || hasB m c)) ∧ Drawn0 w w' :=
  lam30b c m _ _ m0 _ _ w (blk_cell k0 0) (blk_cell k1 0) (blk_cell k2 0) (blk_cell k3 0)
set_option maxHeartbeats 2000000 in
set_option maxRecDepth 100000 in
theorem in_calls (n c : Int) (w : World) :
    Calls Try.prog 11 #[.int .i64 n, .int .u8 c] w fun e w' => e = .returned (.bool (inSet n c)) ∧ Below w.heap.size w w' := by
  go_enter Try.func11, Try.ntmps11
  go_wp2_with (fail)
  refine (sets_calls n _).mono ?_
  rintro e w1 ⟨v, rfl, hs, hb⟩
  have HB := Aside0.mk hb
  clear hb
  rcases hs with ⟨rfl, hv⟩ | ⟨g, h, m, rfl, k0, k1, hv⟩ | ⟨g, h, m, g0, h0, m0, rfl, k0, k1, k2, k3, hv⟩ | ⟨rfl, hv⟩
  · have HV := Aside0.mk (hv c)
    clear hv
    unfold f25
    have hf := field34a w1
    go_wp2_with (fail)
    refine (lam25 c _).mono ?_
    rintro e w2 ⟨rfl, ⟨d, rfl⟩⟩
    go_wp2_with (fail)
    go_ret
    exact ⟨by rw [HV.out]; rfl, pw_below_drewN HB.out _⟩
  · have HV := Aside0.mk (hv c)
    clear hv
    unfold fW
    have hf := field34b w1 g h
    go_wp2_with (fail)
    refine (lamA c m g h _ k0 k1).mono ?_
    rintro e w2 ⟨rfl, ⟨d, rfl⟩⟩
    go_wp2_with (fail)
    go_ret
    exact ⟨by rw [HV.out]; rfl, pw_below_drewN HB.out _⟩
  · have HV := Aside0.mk (hv c)
    clear hv
    simp only [fW]
    have hf := field34b w1 g h
    go_wp2_with (fail)
    refine (lamB c m m0 g h g0 h0 _ k0 k1 k2 k3).mono ?_
    rintro e w2 ⟨rfl, ⟨d, rfl⟩⟩
    go_wp2_with (fail)
    go_ret
    exact ⟨by rw [HV.out]; rfl, pw_below_drewN HB.out _⟩
  · have HV := Aside0.mk (hv c)
    clear hv
    unfold f27
    have hf := field34c w1
    go_wp2_with (fail)
    refine (lam27 c _).mono ?_
    rintro e w2 ⟨rfl, ⟨d, rfl⟩⟩
    go_wp2_with (fail)
    go_ret
    exact ⟨by rw [HV.out]; rfl, pw_below_drewN HB.out _⟩
def upper (c : Int) : Int := if 97 ≤ c ∧ c ≤ 102 then c - 32 else c
def sD : ByteArray := ⟨#[48, 49, 50, 51, 52, 53, 54, 55, 56, 57, 65, 66, 67, 68, 69, 70]⟩
def val (c : Int) : Int := Lib.indexByte sD.data.toList (upper c).toNat.toUInt8
theorem value_calls (c : Int) (w : World) (h0 : 0 ≤ c) (h1 : c < 256) :
    Calls Try.prog 23 #[.int .u8 c] w fun e w' => e = .returned (.int .i64 (val c)) ∧ w' = w := by
  go_enter Try.func23, Try.ntmps23
  by_cases a : 97 ≤ c
  · have a1 : decide (97 ≤ c) = true := by simp [a]
    by_cases b : c ≤ 102
    · have b1 : decide (c ≤ 102) = true := by simp [b]
      go_wp2_with (fail)
      refine (Try.strings_IndexByte _ _ _).mono ?_
      rintro e w2 ⟨rfl, rfl⟩
      go_wp2_with (fail)
      go_ret
      refine ⟨?_, rfl⟩
      unfold val upper
      rw [if_pos ⟨a, b⟩]
      rfl
    · have b1 : decide (c ≤ 102) = false := by simp [b]
      go_wp2_with (fail)
      refine (Try.strings_IndexByte _ _ _).mono ?_
      rintro e w2 ⟨rfl, rfl⟩
      go_wp2_with (fail)
      go_ret
      refine ⟨?_, rfl⟩
      unfold val upper
      rw [if_neg (by omega)]
      rfl
  · have a1 : decide (97 ≤ c) = false := by simp [a]
    go_wp2_with (fail)
    refine (Try.strings_IndexByte _ _ _).mono ?_
    rintro e w2 ⟨rfl, rfl⟩
    go_wp2_with (fail)
    go_ret
    refine ⟨?_, rfl⟩
    unfold val upper
    rw [if_neg (by omega)]
    rfl
end Go.Proofs.Ytpofepfkalighaa.Ext
