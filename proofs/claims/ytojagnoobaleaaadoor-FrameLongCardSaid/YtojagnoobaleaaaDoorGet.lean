import Derived.Test.YtojagnoobaleaaaDoorProg
import Derived.Lib.Hide
import Derived.Test.YtojagnoobaleaaaDoorGetM
import Derived.Test.YtojagnoobaleaaaDoorWWords
import Derived.Test.YtojagnoobaleaaaDoorWLast
import Derived.Test.YtojagnoobaleaaaDoorWMore
namespace Go.Proofs.YtojagnoobaleaaaDoor.Ext
open Go.RowKit Go.Proofs.YtojagnoobaleaaaDoorW.PrintWords Go.Proofs.YtojagnoobaleaaaDoorW.PrintLast Go.Proofs.YtojagnoobaleaaaDoorW.PrintMore
set_option linter.unusedVariables false

theorem add_blk (a : Addr) (i : Nat) : (a.add i).block = a.block := by unfold Addr.add; split <;> rfl

set_option maxHeartbeats 1000000 in
theorem next_some (w : World) (g n c i : Nat) (ad : Addr) (x : Int) (h0 : w.cell? ⟨g, 0, none⟩ = some (.slice (some ad) n c)) (h1 : w.cell? ⟨g, 1, none⟩ = some (.int .i64 i))
    (hf : w.frozen? ⟨g, 1, none⟩ = false) (hx : w.cell? (ad.add i) = some (.int .u8 x)) (hg : ad.block ≠ g) (hi : i < n) (hn : n ≤ 140737488355328) :
    Calls Tryd.prog 45 #[.pointer (some ⟨g, 0, none⟩)] w fun e w' => e = .returned (.tuple #[.int .u8 x, .bool true]) ∧ ∃ m, w' = (w.setCell ⟨g, 1, none⟩ (.int .i64 (i + 1))).drewN m := by
  have e1 : ((i : Int) == (n : Int)) = false := by rw [beq_eq_false_iff_ne]; omega
  go_enter Tryd.func45, Tryd.ntmps45
  go_wp2
  go_quiet (fail)
  go_wp2
  obtain ⟨W, hW⟩ : ∃ W, W = (w.drewN nq).setCell { block := g, off := 1 } (Value.int IntKind.i64 (↑i + 1)) := ⟨_, rfl⟩
  have k0 : W.cell? ⟨g, 0, none⟩ = some (.slice (some ad) n c) := by rw [hW]; exact (World.cell?_setCell_other _ _ _ _ (by simp)).trans h0
  have k1 : W.cell? ⟨g, 1, none⟩ = some (.int .i64 (i + 1)) := by rw [hW]; exact World.cell?_setCell_same _ _ _ (by simpa using h1)
  have kx : W.cell? (ad.add i) = some (.int .u8 x) := by rw [hW]; exact (World.cell?_setCell_other _ _ _ _ (by intro e; exact hg (by rw [← add_blk ad i, ← e]))).trans hx
  have HW := Lib.hid hW
  rw [← hW]
  clear h0 h1 hx hf hW
  obtain ⟨n0, hn0⟩ : ∃ n0, n0 = nq := ⟨_, rfl⟩
  rw [← hn0] at HW
  go_quiet (fail)
  go_wp2
  go_ret2
  exact ⟨rfl, n0 + nq, by rw [HW.out, show ((w.drewN n0).setCell _ _) = (w.setCell _ _).drewN n0 from rfl, World.drewN_drewN]⟩

set_option maxHeartbeats 1000000 in
theorem next_none (w : World) (g n c : Nat) (A : Option Addr) (h0 : w.cell? ⟨g, 0, none⟩ = some (.slice A n c)) (h1 : w.cell? ⟨g, 1, none⟩ = some (.int .i64 n)) :
    Calls Tryd.prog 45 #[.pointer (some ⟨g, 0, none⟩)] w fun e w' => e = .returned (.tuple #[.int .u8 0, .bool false]) ∧ ∃ m, w' = w.drewN m := by
  go_enter Tryd.func45, Tryd.ntmps45
  go_wp2
  go_quiet (fail)
  go_wp2
  go_ret2
  exact ⟨rfl, nq, rfl⟩

def gl : Nat → Int → List Int → Int × Int × Int
  | i, _, [] => (0, i, 2)
  | i, n, c :: r => if (i = 9 ∧ 1 < c) ∨ (0 < i ∧ c = 0) then (0, i, 3) else if c < 128 then (n + c * 2 ^ (7 * i), i + 1, 0) else gl (i + 1) (n + (c - 128) * 2 ^ (7 * i)) r

/-- Where the reader stands behind the run. -/
def atOf (x : Int × Int × Int) : Int := if x.2.2 = 3 then x.2.1 + 1 else x.2.1

abbrev Fv (g : Nat) : Value := .func (.func 45) #[.pointer (some ⟨g, 0, none⟩)] #[]
set_option maxHeartbeats 1000000 in
theorem number_calls (w0 w : World) (A : Option Addr) (c : Nat) (l : List Int) (hr : Kd.C (Kd.int .u8) w0 A l.length l) (hl : ∀ x ∈ l, 0 ≤ x ∧ x < 256) (hn : l.length ≤ 140737488355328)
    (hB : Below w0.heap.size w0 w) (hb : w.heap[w0.heap.size]? = some (.cells #[.slice A l.length c, .int .i64 0] 77 (0, 0))) :
    Calls Tryd.prog 44 #[Fv w0.heap.size] w fun e w' => e = .returned (.tuple #[.int .u64 (gl 0 0 l).1, .int .i64 (gl 0 0 l).2.2]) ∧ Below w0.heap.size w0 w' ∧ w'.heap[w0.heap.size]? = some (.cells #[.slice A l.length c, .int .i64 (atOf (gl 0 0 l))] 77 (0, 0)) := by
  go_enter Tryd.func44, Tryd.ntmps44
  go_wp2
  go_loopg [2, 7] 10 (fun m v2 v7 wr => ∃ (i : Nat) (nn : Int), v7 = .int .i64 i ∧ v2 = .int .u64 nn ∧ i + m = 10 ∧ i ≤ 9 ∧ Aside (gl i nn (l.drop i) = gl 0 0 l) ∧ i ≤ l.length ∧ 0 ≤ nn ∧ Aside (nn < 2 ^ (7 * i)) ∧
    Aside (Below w0.heap.size w0 wr) ∧ Aside (wr.heap[w0.heap.size]? = some (.cells #[.slice A l.length c, .int .i64 i] 77 (0, 0))))
  case atStart => exact ⟨0, 0, rfl, rfl, by omega, by omega, by simp [Aside], by omega, by omega, by simp [Aside], hB, hb⟩
  case round =>
    obtain ⟨i, nn, rfl, rfl, hm, hi9, HG, hil, hn0, HN, HB, Hb⟩ := hrel
    clear hB hb
    have c0 : wr.cell? ⟨w0.heap.size, 0, none⟩ = some (.slice A l.length c) := blk_cell Hb.out 0
    have c1 : wr.cell? ⟨w0.heap.size, 1, none⟩ = some (.int .i64 i) := blk_cell Hb.out 1
    have cf : wr.frozen? ⟨w0.heap.size, 1, none⟩ = false := blk_frozen Hb.out 1
    by_cases hlt : i < l.length
    · obtain ⟨ad, rfl, hx0⟩ := Kd.at_int hr i (by omega) (by omega)
      have hx1 : w0.cell? (ad.add i) = some (.int .u8 (rd l i)) := hx0
      have hadb := World.block_lt_of_cell? w0 _ hx1
      rw [add_blk] at hadb
      have hx : wr.cell? (ad.add i) = some (.int .u8 (rd l i)) := pw_cell_below HB.out hx1
      have hmem : rd l i ∈ l := by unfold rd; rw [show (i : Int).toNat = i from rfl, List.getD_eq_getElem?_getD, List.getElem?_eq_getElem hlt]; exact List.getElem_mem hlt
      have hrx := hl _ hmem
      obtain ⟨x, hxd⟩ : ∃ x, x = rd l i := ⟨_, rfl⟩
      rw [← hxd] at hx hrx
      have HX := Lib.hid hxd
      obtain ⟨hx0', hx256⟩ := hrx
      clear hxd hmem hx0 hx1 hr hl
      go_wp2_with fail
      refine (next_some wr _ _ _ i ad x c0 c1 cf hx (by omega) hlt hn).mono ?_
      rintro e w' ⟨rfl, m, hw'⟩
      have HW := Lib.hid hw'
      clear hw' c0 c1 cf hx
      have hd : l.drop i = x :: l.drop (i + 1) := by
        rw [List.drop_eq_getElem_cons hlt, HX.out]; unfold rd
        rw [show (i : Int).toNat = i from rfl, List.getD_eq_getElem?_getD, List.getElem?_eq_getElem hlt]; rfl
      have hG := HG.out
      rw [hd] at hG
      have HG2 := Lib.hid hG
      have WB : Aside (Below w0.heap.size w0 w') := by rw [HW.out]; exact pw_below_drewN (HB.out.setCell (Nat.le_refl _) _) _
      have Wb : Aside (w'.heap[w0.heap.size]? = some (.cells #[.slice (some ad) l.length c, .int .i64 (i + 1)] 77 (0, 0))) := by
        rw [HW.out]; exact blk_put Hb.out 1 _ rfl
      clear HW HX HG hG hd HB Hb
      by_cases b1 : i = 9 ∧ 1 < x ∨ 0 < i ∧ x = 0
      · have hr : gl 0 0 l = (0, (i : Int), 3) := by rw [← HG2.out, gl, if_pos b1]
        have HR := Lib.hid hr
        clear hr
        rcases b1 with ⟨rfl, b2⟩ | ⟨b1, rfl⟩
        · go_wp2
          go_ret2
          rw [HR.out]
          exact ⟨rfl, WB.out, Wb.out⟩
        · by_cases b9 : i = 9
          · subst b9
            go_wp2
            go_ret2
            rw [HR.out]
            exact ⟨rfl, WB.out, Wb.out⟩
          · go_wp2
            go_ret2
            rw [HR.out]
            exact ⟨rfl, WB.out, Wb.out⟩
      · have b2 : i = 9 → x ≤ 1 := fun h => by have := fun h2 => b1 (.inl ⟨h, h2⟩); omega
        have b3 : 0 < i → x ≠ 0 := fun h h2 => b1 (.inr ⟨h, h2⟩)
        have hr : gl 0 0 l = if x < 128 then (nn + x * 2 ^ (7 * i), (i : Int) + 1, 0) else gl (i + 1) (nn + (x - 128) * 2 ^ (7 * i)) (l.drop (i + 1)) := by rw [← HG2.out, gl, if_neg b1]
        have HR := Lib.hid hr
        clear hr b1
        have SO := Lib.hid (step_or i nn x hi9 b2 hn0 HN.out hx0' hx256)
        by_cases b4 : x < 128
        · have E : Hid (gl 0 0 l = (nn + (x % 128) * 2 ^ (7 * i), (i : Int) + 1, 0)) := by rw [Hid, HR.out, if_pos b4, Int.emod_eq_of_lt hx0' b4]
          clear HR
          have b6 : 0 < i ∨ i = 0 := by omega
          rcases b6 with b6 | rfl
          · have b7 := b3 b6
            clear b3
            by_cases b9 : i = 9
            · have b8 := b2 b9
              clear b2
              subst b9
              have d1 : decide (1 < x) = false := by simpa using b8
              have d2 : (x == 0) = false := by simpa using b7
              go_wp2
              all_goals
                go_ret2
                rw [E.out]
                refine ⟨?_, WB.out, Wb.out⟩
                first | exact congrArg (fun z => Ending.returned (.tuple #[.int .u64 z, .int .i64 0])) SO.out.1
            · clear b2
              go_wp2
              all_goals
                go_ret2
                rw [E.out]
                refine ⟨?_, WB.out, Wb.out⟩
                first | exact congrArg (fun z => Ending.returned (.tuple #[.int .u64 z, .int .i64 0])) SO.out.1
          · clear b3 b2
            have S0 := SO.out.1
            rw [show (2 : Int) ^ (7 * 0) = 1 from rfl, Int.mul_one, Int.mul_one] at S0
            have S1 := Lib.hid S0
            clear S0
            go_wp2
            go_ret2
            rw [E.out]
            refine ⟨?_, WB.out, Wb.out⟩
            exact congrArg (fun z => Ending.returned (.tuple #[.int .u64 z, .int .i64 0])) (S1.out.trans (by rw [show (2 : Int) ^ (7 * 0) = 1 from rfl, Int.mul_one]))
        · have b5 : i ≠ 9 := fun h => by have := b2 h; omega
          have E : Hid (gl (i + 1) (nn + (x % 128) * 2 ^ (7 * i)) (l.drop (i + 1)) = gl 0 0 l) := by
            rw [Hid, HR.out, if_neg b4, show x % 128 = x - 128 by omega]
          clear HR
          clear b2
          have b6 : 0 < i ∨ i = 0 := by omega
          rcases b6 with b6 | rfl
          · have b7 := b3 b6
            clear b3
            go_wp2
            go_roundg (gk - 1)
            case measure => omega
            case rel => exact ⟨i + 1, nn + (x % 128) * 2 ^ (7 * i), by go_num, congrArg (Value.int .u64) SO.out.1, by omega, by omega, E.out, by omega, SO.out.2.1, SO.out.2.2, WB.out, Wb.out⟩
          · clear b3
            have S0 := SO.out.1
            rw [show (2 : Int) ^ (7 * 0) = 1 from rfl, Int.mul_one] at S0
            have S1 := Lib.hid S0
            clear S0
            go_wp2
            go_roundg (gk - 1)
            case measure => omega
            case rel => exact ⟨0 + 1, nn + (x % 128) * 2 ^ (7 * 0), by go_num, congrArg (Value.int .u64) S1.out, by omega, by omega, E.out, by omega, SO.out.2.1, SO.out.2.2, WB.out, Wb.out⟩
    · obtain rfl : i = l.length := by omega
      go_wp2_with fail
      refine (next_none wr _ _ _ A c0 c1).mono ?_
      rintro e w' ⟨rfl, m, hw'⟩
      have HW := Lib.hid hw'
      clear hw' c0 c1 cf
      go_wp2
      go_ret2
      have hG := HG.out
      simp [gl] at hG
      rw [← hG]
      refine ⟨rfl, ?_, ?_⟩
      · rw [HW.out]; exact pw_below_drewN HB.out _
      · rw [HW.out]; exact Hb.out

theorem gl_form : ∀ (l : List Int) (i : Nat) (n : Int), (i : Int) ≤ (gl i n l).2.1 ∧ (gl i n l).2.1 ≤ i + l.length ∧ ((gl i n l).2.2 = 3 → (gl i n l).1 = 0)
  | [], i, n => by simp [gl]
  | c :: r, i, n => by
    have ih := gl_form r (i + 1) (n + (c - 128) * 2 ^ (7 * i))
    rw [gl]
    split
    · simp; omega
    · split
      · simp; omega
      · refine ⟨?_, ?_, ih.2.2⟩
        · have := ih.1; omega
        · have := ih.2.1; simp only [List.length_cons]; omega

/-- What Get answers, of bytes that are bytes. -/
def number_Get.f (l0 : List Int) : Option (Int × Int × Int) := if l0.all (fun x => decide (0 ≤ x) && decide (x < 256)) && decide (l0.length ≤ 140737488355328) then some (gl 0 0 l0) else none

set_option maxHeartbeats 1000000 in
theorem number_Get.calls (A0 : Option Addr) (c0 : Nat) (l0 : List Int) (r1 : Int) (r2 : Int) (r3 : Int) (w : World) (hr0 : Kd.C (Kd.int .u8) w A0 l0.length l0) (hc0 : l0.length ≤ c0) (h : number_Get.f l0 = some (r1, r2, r3)) :
    Calls Tryd.prog 40 #[.slice A0 l0.length c0] w fun e w' => e = .returned (.tuple #[.int .u64 r1, .int .i64 r2, .int .i64 r3]) ∧ Below w.heap.size w w' := by
  unfold number_Get.f at h
  split at h
  case isFalse => simp at h
  case isTrue hh =>
    simp only [Bool.and_eq_true, List.all_eq_true, decide_eq_true_eq] at hh
    obtain ⟨hl, hn⟩ := hh
    have hG := Option.some.inj h
    have HG := Lib.hid hG
    clear h hG hc0
    go_enter Tryd.func40, Tryd.ntmps40
    go_wp2_with fail
    refine (number_calls w _ A0 c0 l0 hr0 hl hn ((Below.refl _ _).alloc (Nat.le_refl _) _) (blk_new _ _)).mono ?_
    rintro e w' ⟨rfl, hB', hb'⟩
    have HB := Aside0.mk hB'
    rw [HG.out] at hb'
    have h1 := blk_cell hb' 1
    simp only [atOf] at h1
    have HE := HG.out
    generalize hx : gl 0 0 l0 = X at HE
    subst HE
    clear hB' hb' hl HG
    have hb1 := (gl_form l0 0 0).1
    have hb2 := (gl_form l0 0 0).2.1
    have hb3 := (gl_form l0 0 0).2.2
    rw [hx] at hb1 hb2 hb3
    simp only at hb1 hb2 hb3
    clear hx
    by_cases e3 : r3 = 3
    · obtain rfl := hb3 e3
      clear hb3
      subst e3
      simp only [if_true] at h1
      have h2 : w'.cell? ⟨w.heap.size, 1, none⟩ = some (.int .i64 (r2 + 1)) := h1
      clear h1
      go_wp2
      go_quiet (fail)
      go_wp2
      go_ret3
      exact ⟨rfl, pw_below_drewN HB.out _⟩
    · clear hb3
      simp only [if_neg e3] at h1
      have h2 : w'.cell? ⟨w.heap.size, 1, none⟩ = some (.int .i64 r2) := h1
      have hbe : (r3 == 3) = false := by simpa using e3
      clear h1 e3
      go_wp2
      go_quiet (fail)
      go_wp2
      go_ret3
      exact ⟨rfl, pw_below_drewN HB.out _⟩
end Go.Proofs.YtojagnoobaleaaaDoor.Ext
