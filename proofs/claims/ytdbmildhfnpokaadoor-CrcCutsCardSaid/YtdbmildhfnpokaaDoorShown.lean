/- The law's own small case: its walk, by hand (it makes bytes of constant texts). -/
import Derived.Test.YtdbmildhfnpokaaDoorCrc
import Derived.Lib.SlBytesConst
namespace Go.Proofs.YtdbmildhfnpokaaDoor.Ext
open Go.RowKit Go.Proofs.YtdbmildhfnpokaaDoorW.PrintWords Go.Proofs.YtdbmildhfnpokaaDoorW.PrintLast Go.Proofs.YtdbmildhfnpokaaDoorW.PrintMore
set_option linter.unusedVariables false

/-- A row of constant bytes that was just laid reads so. -/
theorem reads_lit (w : World) (xs : List Int) (fr : Nat × Nat) (h : xs.length ≤ 9223372036854775807) : Kd.C (Kd.int .u8) (w.alloc (.cells (nums .u8 xs).toArray 5 fr)) (some ⟨w.heap.size, 0, none⟩) xs.length xs := by
  refine Kd.C_of_reads (d := (0 : Int)) (h1 := fun _ => rfl) ⟨rfl, h, fun hn => ⟨_, rfl, fun j hj => ?_⟩⟩
  rw [add_plain, cell_of_row _ _ _ _ _ _ (heap_alloc_new w _)]
  simp [nums, List.getElem?_eq_getElem hj, List.getD_eq_getElem?_getD]

set_option maxHeartbeats 1000000 in
theorem sum_calls (A0 : Option Addr) (c0 : Nat) (l0 : List Int) (r : Int) (w : World) (hG : Glob w) (hr0 : Kd.C (Kd.int .u8) w A0 l0.length l0) (hc0 : l0.length ≤ c0) (h : crc_More.f 0 l0 = some r) :
    Calls Tryd.prog 10 #[.slice A0 l0.length c0] w fun e w' => e = .returned (.int .u32 r) ∧ Drawn0 w w' := by
  have HG := Aside0.mk hG
  have HR := Aside0.mk hr0
  have HH := Aside0.mk h
  clear hG hr0 h
  go_enter Tryd.func10, Tryd.ntmps10
  go_wp2_with fail
  refine (crc_More.calls 0 A0 c0 l0 r w HG.out HR.out hc0 HH.out).mono ?_
  rintro e w' ⟨rfl, ⟨nd, rfl⟩⟩
  go_wp2
  go_ret
  exact ⟨rfl, ⟨⟨nd, rfl⟩⟩⟩

set_option maxHeartbeats 1000000 in
theorem shown_calls (w : World) (hG : Glob w) : Calls Tryd.prog 9 #[] w fun e w' => e = .returned (.bool true) ∧ Below w.heap.size w w' := by
  have kc := fun (w : World) (C : Array Value) (n c : Nat) => Lib.run_convert_bytes_const (P := Tryd.prog) w 22 5 C n c Tryd.underlying22 Tryd.underlying5
  have e1 : crc_More.f 0 [49, 50, 51, 52, 53, 54, 55, 56, 57] = some 3421780262 := by decide +kernel
  have e2 : crc_More.f 0 [] = some 0 := by decide +kernel
  have e3 : crc_More.f 0 [49, 50, 51, 52] = some 2615402659 := by decide +kernel
  have e4 : crc_More.f 2615402659 [53, 54, 55, 56, 57] = some 3421780262 := by decide +kernel
  have E1 := Aside0.mk e1
  have E2 := Aside0.mk e2
  have E3 := Aside0.mk e3
  have E4 := Aside0.mk e4
  have HG := Aside0.mk hG
  clear e1 e2 e3 e4 hG
  go_enter Tryd.func9, Tryd.ntmps9
  go_wp2_with fail
  refine (sum_calls (some ⟨w.heap.size, 0, none⟩) 9 [49, 50, 51, 52, 53, 54, 55, 56, 57] _ _ (HG.out.alloc _) (reads_lit w [49, 50, 51, 52, 53, 54, 55, 56, 57] (9, 10) (by decide)) (by decide) E1.out).mono ?_
  rintro e w1 ⟨rfl, hd⟩
  have HB1 := Aside0.mk (below_then (below_alloc (Below.refl w.heap.size w) _) (by simp) hd.below)
  clear hd
  go_wp2_with fail
  refine (sum_calls none 0 [] _ _ (HG.out.below HB1.out) (Kd.C_nil _ _) (by decide) E2.out).mono ?_
  rintro e w2 ⟨rfl, hd⟩
  have HB2 := Aside0.mk (below_then HB1.out HB1.out.size hd.below)
  clear hd HB1
  go_wp2_with fail
  refine (sum_calls (some ⟨w2.heap.size, 0, none⟩) 4 [49, 50, 51, 52] _ _ ((HG.out.below HB2.out).alloc _) (reads_lit w2 [49, 50, 51, 52] (4, 5) (by decide)) (by decide) E3.out).mono ?_
  rintro e w3 ⟨rfl, hd⟩
  have HB3 := Aside0.mk (below_then (below_then HB2.out HB2.out.size (below_alloc (Below.refl _ w2) _)) (by have := HB2.out.size; simp; omega) hd.below)
  clear hd HB2
  go_wp2_with fail
  refine (crc_More.calls 2615402659 (some ⟨w3.heap.size, 0, none⟩) 5 [53, 54, 55, 56, 57] _ _ ((HG.out.below HB3.out).alloc _) (reads_lit w3 [53, 54, 55, 56, 57] (5, 6) (by decide)) (by decide) E4.out).mono ?_
  rintro e w4 ⟨rfl, hd⟩
  have HB4 := Aside0.mk (below_then (below_then HB3.out HB3.out.size (below_alloc (Below.refl _ w3) _)) (by have := HB3.out.size; simp; omega) hd.below)
  clear hd HB3
  go_wp2
  go_ret
  exact ⟨rfl, HB4.out⟩

def transeptlaw02_shown.f : Option Bool := some true
theorem transeptlaw02_shown.calls (r : Bool) (w : World) (hG : Glob w) (h : transeptlaw02_shown.f = some r) : Calls Tryd.prog 9 #[] w fun e w' => e = .returned (.bool r) ∧ Below w.heap.size w w' := by
  obtain rfl := Option.some.inj h
  exact shown_calls w hG
end Go.Proofs.YtdbmildhfnpokaaDoor.Ext
