/- Plain facts on numbers: how seven bits are joined to a number that is being read. -/
import Derived.Laws.BitsLemmas
import Derived.Test.YtmlhlcdamppbfaaDoorProg
import Derived.Lib.Hide
import Derived.Test.YtmlhlcdamppbfaaDoorWWords
import Derived.Test.YtmlhlcdamppbfaaDoorWLast
import Derived.Test.YtmlhlcdamppbfaaDoorWMore
namespace Go.Proofs.YtmlhlcdamppbfaaDoor.Ext

theorem wrap_u64_in (n : Int) (h0 : 0 ≤ n) (h1 : n < 2 ^ 64) : IntKind.u64.wrap n = n := by
  simp [IntKind.wrap, IntKind.bits, IntKind.signed]; omega
theorem and127 (x : Int) (h0 : 0 ≤ x) (h1 : x < 256) : bits .and .u8 x 127 = x % 128 := bits_mask .u8 8 (by decide) wraps_u8 7 (by decide) x h0 h1
theorem or_shift (j : Nat) (a q : Int) (ha : 0 ≤ a) (hj : a < 2 ^ j) (h64 : a < 2 ^ 64) (hq : 0 ≤ q) (hp : q * 2 ^ j < 2 ^ 64) : bits .or .u64 a (q * 2 ^ j) = a + q * 2 ^ j := by
  obtain ⟨a, rfl⟩ := Int.eq_ofNat_of_zero_le ha
  obtain ⟨q, rfl⟩ := Int.eq_ofNat_of_zero_le hq
  have hj' : a < 2 ^ j := by exact_mod_cast hj
  have ha' : a < 2 ^ 64 := by exact_mod_cast h64
  have hp' : q * 2 ^ j < 2 ^ 64 := by exact_mod_cast hp
  have e : (q : Int) * 2 ^ j = ((q * 2 ^ j : Nat) : Int) := by simp
  have hs : a + q * 2 ^ j = a ||| (q * 2 ^ j) := by
    rw [Nat.or_comm, Nat.mul_comm q, ← Nat.two_pow_add_eq_or_of_lt hj' q]; omega
  rw [e, (bits_nat .u64 64 (by decide) (fun n h0 h1 => wrap_u64_in n h0 h1) a _ ha' hp').2, ← hs]; simp
theorem pow7 (i : Nat) (hi : i ≤ 9) : (2 : Int) ^ (7 * i) ≤ 2 ^ 63 ∧ (i ≤ 8 → (2 : Int) ^ (7 * i) ≤ 2 ^ 56) ∧ (2 : Int) ^ (7 * (i + 1)) = 128 * 2 ^ (7 * i) ∧ 0 < (2 : Int) ^ (7 * i) := by
  have : i = 0 ∨ i = 1 ∨ i = 2 ∨ i = 3 ∨ i = 4 ∨ i = 5 ∨ i = 6 ∨ i = 7 ∨ i = 8 ∨ i = 9 := by omega
  rcases this with rfl | rfl | rfl | rfl | rfl | rfl | rfl | rfl | rfl | rfl <;> decide
theorem step_or (i : Nat) (nn x : Int) (hi : i ≤ 9) (h9 : i = 9 → x ≤ 1) (h0 : 0 ≤ nn) (hn : nn < 2 ^ (7 * i)) (hx0 : 0 ≤ x) (hx : x < 256) :
    bits .or .u64 nn (IntKind.u64.wrap (IntKind.u64.wrap (bits .and .u8 x 127) * 2 ^ (7 * i))) = nn + (x % 128) * 2 ^ (7 * i) ∧ 0 ≤ nn + (x % 128) * 2 ^ (7 * i) ∧ nn + (x % 128) * 2 ^ (7 * i) < 2 ^ (7 * (i + 1)) := by
  obtain ⟨p1, p2, p3, p4⟩ := pow7 i hi
  rw [p3]
  have os := or_shift (7 * i) nn (x % 128) h0 hn (by omega) (by omega)
  generalize (2 : Int) ^ (7 * i) = P at *
  have hq0 : 0 ≤ x % 128 := by omega
  have hq1 : x % 128 < 128 := by omega
  have hm0 : 0 ≤ x % 128 * P := Int.mul_nonneg hq0 (by omega)
  have hm1 : x % 128 * P ≤ 127 * P := Int.mul_le_mul_of_nonneg_right (by omega) (by omega)
  have hm2 : x % 128 * P < 2 ^ 64 := by
    by_cases h : i = 9
    · have hx1 := h9 h
      have : x % 128 * P ≤ 1 * P := Int.mul_le_mul_of_nonneg_right (by omega) (by omega)
      omega
    · have := p2 (by omega)
      omega
  rw [and127 x hx0 hx, wrap_u64_in _ hq0 (by omega), wrap_u64_in _ hm0 hm2]
  refine ⟨?_, by omega, by omega⟩
  exact os hm2
end Go.Proofs.YtmlhlcdamppbfaaDoor.Ext
namespace Go.Proofs.YtmlhlcdamppbfaaDoor.Ext
open Go.RowKit Go.Proofs.YtmlhlcdamppbfaaDoorW.PrintWords Go.Proofs.YtmlhlcdamppbfaaDoorW.PrintLast Go.Proofs.YtmlhlcdamppbfaaDoorW.PrintMore
set_option linter.unusedVariables false

theorem add_blk (a : Addr) (i : Nat) : (a.add i).block = a.block := by unfold Addr.add; split <;> rfl

set_option maxHeartbeats 1000000 in
theorem next_some (w : World) (g n c i : Nat) (ad : Addr) (x : Int) (h0 : w.cell? ⟨g, 0, none⟩ = some (.slice (some ad) n c)) (h1 : w.cell? ⟨g, 1, none⟩ = some (.int .i64 i))
    (hf : w.frozen? ⟨g, 1, none⟩ = false) (hx : w.cell? (ad.add i) = some (.int .u8 x)) (hg : ad.block ≠ g) (hi : i < n) (hn : n ≤ 140737488355328) :
    Calls Tryd.prog 45 #[.pointer (some ⟨g, 0, none⟩)] w fun e w' => e = .returned (.tuple #[.int .u8 x, .bool true]) ∧ ∃ m, w' = (w.setCell ⟨g, 1, none⟩ (.int .i64 (i + 1))).drewN m := by
  have e1 : ((i : Int) == (n : Int)) = false := by rw [beq_eq_false_iff_ne]; omega
  go_enter Tryd.func45, Tryd.ntmps45
  go_wp2
  go_quiet (fail)
  go_wp2
  obtain ⟨W, hW⟩ : ∃ W, W = (w.drewN nq).setCell { block := g, off := 1 } (Value.int IntKind.i64 (↑i + 1)) := ⟨_, rfl⟩
  have k0 : W.cell? ⟨g, 0, none⟩ = some (.slice (some ad) n c) := by rw [hW]; exact (World.cell?_setCell_other _ _ _ _ (by simp)).trans h0
  have k1 : W.cell? ⟨g, 1, none⟩ = some (.int .i64 (i + 1)) := by rw [hW]; exact World.cell?_setCell_same _ _ _ (by simpa using h1)
  have kx : W.cell? (ad.add i) = some (.int .u8 x) := by rw [hW]; exact (World.cell?_setCell_other _ _ _ _ (by intro e; exact hg (by rw [← add_blk ad i, ← e]))).trans hx
  have HW := Lib.hid hW
  rw [← hW]
  clear h0 h1 hx hf hW
  obtain ⟨n0, hn0⟩ : ∃ n0, n0 = nq := ⟨_, rfl⟩
  rw [← hn0] at HW
  go_quiet (fail)
  go_wp2
  go_ret2
  exact ⟨rfl, n0 + nq, by rw [HW.out, show ((w.drewN n0).setCell _ _) = (w.setCell _ _).drewN n0 from rfl, World.drewN_drewN]⟩

set_option maxHeartbeats 1000000 in
theorem next_none (w : World) (g n c : Nat) (A : Option Addr) (h0 : w.cell? ⟨g, 0, none⟩ = some (.slice A n c)) (h1 : w.cell? ⟨g, 1, none⟩ = some (.int .i64 n)) :
    Calls Tryd.prog 45 #[.pointer (some ⟨g, 0, none⟩)] w fun e w' => e = .returned (.tuple #[.int .u8 0, .bool false]) ∧ ∃ m, w' = w.drewN m := by
  go_enter Tryd.func45, Tryd.ntmps45
  go_wp2
  go_quiet (fail)
  go_wp2
  go_ret2
  exact ⟨rfl, nq, rfl⟩

def gl : Nat → Int → List Int → Int × Int × Int
  | i, _, [] => (0, i, 2)
  | i, n, c :: r => if (i = 9 ∧ 1 < c) ∨ (0 < i ∧ c = 0) then (0, i, 3) else if c < 128 then (n + c * 2 ^ (7 * i), i + 1, 0) else gl (i + 1) (n + (c - 128) * 2 ^ (7 * i)) r

/-- Where the reader stands behind the run. -/
def atOf (x : Int × Int × Int) : Int := if x.2.2 = 3 then x.2.1 + 1 else x.2.1

abbrev Fv (g : Nat) : Value := .func (.func 45) #[.pointer (some ⟨g, 0, none⟩)] #[]
set_option maxHeartbeats 1000000 in
theorem number_calls (w0 w : World) (A : Option Addr) (c : Nat) (l : List Int) (hr : Kd.C (Kd.int .u8) w0 A l.length l) (hl : ∀ x ∈ l, 0 ≤ x ∧ x < 256) (hn : l.length ≤ 140737488355328)
    (hB : Below w0.heap.size w0 w) (hb : w.heap[w0.heap.size]? = some (.cells #[.slice A l.length c, .int .i64 0] 90 (0, 0))) :
    Calls Tryd.prog 44 #[Fv w0.heap.size] w fun e w' => e = .returned (.tuple #[.int .u64 (gl 0 0 l).1, .int .i64 (gl 0 0 l).2.2]) ∧ Below w0.heap.size w0 w' ∧ w'.heap[w0.heap.size]? = some (.cells #[.slice A l.length c, .int .i64 (atOf (gl 0 0 l))] 90 (0, 0)) := by
  go_enter Tryd.func44, Tryd.ntmps44
  go_wp2
  go_loopg [2, 7] 10 (fun m v2 v7 wr => ∃ (i : Nat) (nn : Int), v7 = .int .i64 i ∧ v2 = .int .u64 nn ∧ i + m = 10 ∧ i ≤ 9 ∧ Aside (gl i nn (l.drop i) = gl 0 0 l) ∧ i ≤ l.length ∧ 0 ≤ nn ∧ Aside (nn < 2 ^ (7 * i)) ∧
    Aside (Below w0.heap.size w0 wr) ∧ Aside (wr.heap[w0.heap.size]? = some (.cells #[.slice A l.length c, .int .i64 i] 90 (0, 0))))
  case atStart => exact ⟨0, 0, rfl, rfl, by omega, by omega, by simp [Aside], by omega, by omega, by simp [Aside], hB, hb⟩
  case round =>
    obtain ⟨i, nn, rfl, rfl, hm, hi9, HG, hil, hn0, HN, HB, Hb⟩ := hrel
    clear hB hb
    have c0 : wr.cell? ⟨w0.heap.size, 0, none⟩ = some (.slice A l.length c) := blk_cell Hb.out 0
    have c1 : wr.cell? ⟨w0.heap.size, 1, none⟩ = some (.int .i64 i) := blk_cell Hb.out 1
    have cf : wr.frozen? ⟨w0.heap.size, 1, none⟩ = false := blk_frozen Hb.out 1
    by_cases hlt : i < l.length
    · obtain ⟨ad, rfl, hx0⟩ := Kd.at_int hr i (by omega) (by omega)
      have hx1 : w0.cell? (ad.add i) = some (.int .u8 (rd l i)) := hx0
      have hadb := World.block_lt_of_cell? w0 _ hx1
      rw [add_blk] at hadb
      have hx : wr.cell? (ad.add i) = some (.int .u8 (rd l i)) := pw_cell_below HB.out hx1
      have hmem : rd l i ∈ l := by unfold rd; rw [show (i : Int).toNat = i from rfl, List.getD_eq_getElem?_getD, List.getElem?_eq_getElem hlt]; exact List.getElem_mem hlt
      have hrx := hl _ hmem
      obtain ⟨x, hxd⟩ : ∃ x, x = rd l i := ⟨_, rfl⟩
      rw [← hxd] at hx hrx
      have HX := Lib.hid hxd
      obtain ⟨hx0', hx256⟩ := hrx
      clear hxd hmem hx0 hx1 hr hl
      go_wp2_with fail
      refine (next_some wr _ _ _ i ad x c0 c1 cf hx (by omega) hlt hn).mono ?_
      rintro e w' ⟨rfl, m, hw'⟩
      have HW := Lib.hid hw'
      clear hw' c0 c1 cf hx
      have hd : l.drop i = x :: l.drop (i + 1) := by
        rw [List.drop_eq_getElem_cons hlt, HX.out]; unfold rd
        rw [show (i : Int).toNat = i from rfl, List.getD_eq_getElem?_getD, List.getElem?_eq_getElem hlt]; rfl
      have hG := HG.out
      rw [hd] at hG
      have HG2 := Lib.hid hG
      have WB : Aside (Below w0.heap.size w0 w') := by rw [HW.out]; exact pw_below_drewN (HB.out.setCell (Nat.le_refl _) _) _
      have Wb : Aside (w'.heap[w0.heap.size]? = some (.cells #[.slice (some ad) l.length c, .int .i64 (i + 1)] 90 (0, 0))) := by
        rw [HW.out]; exact blk_put Hb.out 1 _ rfl
      clear HW HX HG hG hd HB Hb
      by_cases b1 : i = 9 ∧ 1 < x ∨ 0 < i ∧ x = 0
      · have hr : gl 0 0 l = (0, (i : Int), 3) := by rw [← HG2.out, gl, if_pos b1]
        have HR := Lib.hid hr
        clear hr
        rcases b1 with ⟨rfl, b2⟩ | ⟨b1, rfl⟩
        · go_wp2
          go_ret2
          rw [HR.out]
          exact ⟨rfl, WB.out, Wb.out⟩
        · by_cases b9 : i = 9
          · subst b9
            go_wp2
            go_ret2
            rw [HR.out]
            exact ⟨rfl, WB.out, Wb.out⟩
          · go_wp2
            go_ret2
            rw [HR.out]
            exact ⟨rfl, WB.out, Wb.out⟩
      · have b2 : i = 9 → x ≤ 1 := fun h => by have := fun h2 => b1 (.inl ⟨h, h2⟩); omega
        have b3 : 0 < i → x ≠ 0 := fun h h2 => b1 (.inr ⟨h, h2⟩)
        have hr : gl 0 0 l = if x < 128 then (nn + x * 2 ^ (7 * i), (i : Int) + 1, 0) else gl (i + 1) (nn + (x - 128) * 2 ^ (7 * i)) (l.drop (i + 1)) := by rw [← HG2.out, gl, if_neg b1]
        have HR := Lib.hid hr
        clear hr b1
        have SO := Lib.hid (step_or i nn x hi9 b2 hn0 HN.out hx0' hx256)
        by_cases b4 : x < 128
        · have E : Hid (gl 0 0 l = (nn + (x % 128) * 2 ^ (7 * i), (i : Int) + 1, 0)) := by rw [Hid, HR.out, if_pos b4, Int.emod_eq_of_lt hx0' b4]
          clear HR
          have b6 : 0 < i ∨ i = 0 := by omega
          rcases b6 with b6 | rfl
          · have b7 := b3 b6
            clear b3
            by_cases b9 : i = 9
            · have b8 := b2 b9
              clear b2
              subst b9
              have d1 : decide (1 < x) = false := by simpa using b8
              have d2 : (x == 0) = false := by simpa using b7
              go_wp2
              all_goals
                go_ret2
                rw [E.out]
                refine ⟨?_, WB.out, Wb.out⟩
                first | exact congrArg (fun z => Ending.returned (.tuple #[.int .u64 z, .int .i64 0])) SO.out.1
            · clear b2
              go_wp2
              all_goals
                go_ret2
                rw [E.out]
                refine ⟨?_, WB.out, Wb.out⟩
                first | exact congrArg (fun z => Ending.returned (.tuple #[.int .u64 z, .int .i64 0])) SO.out.1
          · clear b3 b2
            have S0 := SO.out.1
            rw [show (2 : Int) ^ (7 * 0) = 1 from rfl, Int.mul_one, Int.mul_one] at S0
            have S1 := Lib.hid S0
            clear S0
            go_wp2
            go_ret2
            rw [E.out]
            refine ⟨?_, WB.out, Wb.out⟩
            exact congrArg (fun z => Ending.returned (.tuple #[.int .u64 z, .int .i64 0])) (S1.out.trans (by rw [show (2 : Int) ^ (7 * 0) = 1 from rfl, Int.mul_one]))
        · have b5 : i ≠ 9 := fun h => by have := b2 h; omega
          have E : Hid (gl (i + 1) (nn + (x % 128) * 2 ^ (7 * i)) (l.drop (i + 1)) = gl 0 0 l) := by
            rw [Hid, HR.out, if_neg b4, show x % 128 = x - 128 by omega]
          clear HR
          clear b2
          have b6 : 0 < i ∨ i = 0 := by omega
          rcases b6 with b6 | rfl
          · have b7 := b3 b6
            clear b3
            go_wp2
            go_roundg (gk - 1)
            case measure => omega
            case rel => exact ⟨i + 1, nn + (x % 128) * 2 ^ (7 * i), by go_num, congrArg (Value.int .u64) SO.out.1, by omega, by omega, E.out, by omega, SO.out.2.1, SO.out.2.2, WB.out, Wb.out⟩
          · clear b3
            have S0 := SO.out.1
            rw [show (2 : Int) ^ (7 * 0) = 1 from rfl, Int.mul_one] at S0
            have S1 := Lib.hid S0
            clear S0
            go_wp2
            go_roundg (gk - 1)
            case measure => omega
            case rel => exact ⟨0 + 1, nn + (x % 128) * 2 ^ (7 * 0), by go_num, congrArg (Value.int .u64) S1.out, by omega, by omega, E.out, by omega, SO.out.2.1, SO.out.2.2, WB.out, Wb.out⟩
    · obtain rfl : i = l.length := by omega
      go_wp2_with fail
      refine (next_none wr _ _ _ A c0 c1).mono ?_
      rintro e w' ⟨rfl, m, hw'⟩
      have HW := Lib.hid hw'
      clear hw' c0 c1 cf
      go_wp2
      go_ret2
      have hG := HG.out
      simp [gl] at hG
      rw [← hG]
      refine ⟨rfl, ?_, ?_⟩
      · rw [HW.out]; exact pw_below_drewN HB.out _
      · rw [HW.out]; exact Hb.out

theorem gl_form : ∀ (l : List Int) (i : Nat) (n : Int), (i : Int) ≤ (gl i n l).2.1 ∧ (gl i n l).2.1 ≤ i + l.length ∧ ((gl i n l).2.2 = 3 → (gl i n l).1 = 0)
  | [], i, n => by simp [gl]
  | c :: r, i, n => by
    have ih := gl_form r (i + 1) (n + (c - 128) * 2 ^ (7 * i))
    rw [gl]
    split
    · simp; omega
    · split
      · simp; omega
      · refine ⟨?_, ?_, ih.2.2⟩
        · have := ih.1; omega
        · have := ih.2.1; simp only [List.length_cons]; omega

/-- What Get answers, of bytes that are bytes. -/
def number_Get.f (l0 : List Int) : Option (Int × Int × Int) := if l0.all (fun x => decide (0 ≤ x) && decide (x < 256)) && decide (l0.length ≤ 140737488355328) then some (gl 0 0 l0) else none

set_option maxHeartbeats 1000000 in
theorem number_Get.calls (A0 : Option Addr) (c0 : Nat) (l0 : List Int) (r1 : Int) (r2 : Int) (r3 : Int) (w : World) (hr0 : Kd.C (Kd.int .u8) w A0 l0.length l0) (hc0 : l0.length ≤ c0) (h : number_Get.f l0 = some (r1, r2, r3)) :
    Calls Tryd.prog 34 #[.slice A0 l0.length c0] w fun e w' => e = .returned (.tuple #[.int .u64 r1, .int .i64 r2, .int .i64 r3]) ∧ Below w.heap.size w w' := by
  unfold number_Get.f at h
  split at h
  case isFalse => simp at h
  case isTrue hh =>
    simp only [Bool.and_eq_true, List.all_eq_true, decide_eq_true_eq] at hh
    obtain ⟨hl, hn⟩ := hh
    have hG := Option.some.inj h
    have HG := Lib.hid hG
    clear h hG hc0
    go_enter Tryd.func34, Tryd.ntmps34
    go_wp2_with fail
    refine (number_calls w _ A0 c0 l0 hr0 hl hn ((Below.refl _ _).alloc (Nat.le_refl _) _) (blk_new _ _)).mono ?_
    rintro e w' ⟨rfl, hB', hb'⟩
    have HB := Aside0.mk hB'
    rw [HG.out] at hb'
    have h1 := blk_cell hb' 1
    simp only [atOf] at h1
    have HE := HG.out
    generalize hx : gl 0 0 l0 = X at HE
    subst HE
    clear hB' hb' hl HG
    have hb1 := (gl_form l0 0 0).1
    have hb2 := (gl_form l0 0 0).2.1
    have hb3 := (gl_form l0 0 0).2.2
    rw [hx] at hb1 hb2 hb3
    simp only at hb1 hb2 hb3
    clear hx
    by_cases e3 : r3 = 3
    · obtain rfl := hb3 e3
      clear hb3
      subst e3
      simp only [if_true] at h1
      have h2 : w'.cell? ⟨w.heap.size, 1, none⟩ = some (.int .i64 (r2 + 1)) := h1
      clear h1
      go_wp2
      go_quiet (fail)
      go_wp2
      go_ret3
      exact ⟨rfl, pw_below_drewN HB.out _⟩
    · clear hb3
      simp only [if_neg e3] at h1
      have h2 : w'.cell? ⟨w.heap.size, 1, none⟩ = some (.int .i64 r2) := h1
      have hbe : (r3 == 3) = false := by simpa using e3
      clear h1 e3
      go_wp2
      go_quiet (fail)
      go_wp2
      go_ret3
      exact ⟨rfl, pw_below_drewN HB.out _⟩
end Go.Proofs.YtmlhlcdamppbfaaDoor.Ext
namespace Go.Proofs.YtmlhlcdamppbfaaDoor.Ext
open Go.RowKit Go.Proofs.YtmlhlcdamppbfaaDoorW.PrintWords Go.Proofs.YtmlhlcdamppbfaaDoorW.PrintLast

def Bytes (l : List Int) : Prop := ∀ x ∈ l, 0 ≤ x ∧ x < 256
theorem u8_bounds {a : Int} (h : (Lit.int .u8 a).wf = true) : 0 ≤ a ∧ a < 256 := by
  simp [Lit.wf, IntKind.min, IntKind.max, IntKind.bits, IntKind.signed] at h; omega
theorem u64_bounds {a : Int} (h : (Lit.int .u64 a).wf = true) : 0 ≤ a ∧ a < 18446744073709551616 := by
  simp [Lit.wf, IntKind.min, IntKind.max, IntKind.bits, IntKind.signed] at h; omega
theorem i64_bounds {a : Int} (h : (Lit.int .i64 a).wf = true) : -9223372036854775808 ≤ a ∧ a < 9223372036854775808 := by
  simp [Lit.wf, IntKind.min, IntKind.max, IntKind.bits, IntKind.signed] at h; omega
theorem bytes_wf {l : List Int} (h : ∀ x ∈ l, (Lit.int .u8 x).wf = true) : Bytes l := fun x hx => u8_bounds (h x hx)
theorem Bytes.take {l : List Int} (h : Bytes l) (n : Nat) : Bytes (l.take n) := fun x hx => h x (List.mem_of_mem_take hx)
theorem Bytes.drop {l : List Int} (h : Bytes l) (n : Nat) : Bytes (l.drop n) := fun x hx => h x (List.mem_of_mem_drop hx)
theorem Bytes.append {l m : List Int} (h : Bytes l) (k : Bytes m) : Bytes (l ++ m) := fun x hx => (List.mem_append.1 hx).elim (h x) (k x)
theorem mn_le (a b : Int) : mn a b ≤ a ∧ mn a b ≤ b ∧ (mn a b = a ∨ mn a b = b) := by unfold mn; split <;> omega
theorem w64 (n : Int) (h0 : -9223372036854775808 ≤ n) (h1 : n < 9223372036854775808) : wrap64 n = n := by unfold wrap64; omega
theorem u64w (n : Int) (h0 : 0 ≤ n) (h1 : n < 18446744073709551616) : IntKind.u64.wrap n = n := wrap_u64_in n h0 (by omega)

/-- A number's bytes. -/
def put (n : Nat) : List Int := if n < 128 then [(n : Int)] else ((n % 128 + 128 : Nat) : Int) :: put (n / 128)
theorem put_small {n : Nat} (h : n < 128) : put n = [(n : Int)] := by rw [put, if_pos h]
theorem put_great {n : Nat} (h : 128 ≤ n) : put n = ((n % 128 + 128 : Nat) : Int) :: put (n / 128) := by rw [put, if_neg (by omega)]
theorem put_bytes (n : Nat) : Bytes (put n) := by
  induction n using Nat.strongRecOn with
  | _ n ih =>
    by_cases h : n < 128
    · rw [put_small h]; intro x hx; simp at hx; omega
    · rw [put_great (by omega)]
      intro x hx
      rcases List.mem_cons.1 hx with rfl | hx
      · omega
      · exact ih (n / 128) (by omega) x hx
theorem put_pos (n : Nat) : 0 < (put n).length := by
  by_cases h : n < 128
  · rw [put_small h]; simp
  · rw [put_great (by omega)]; simp
theorem put_len (j : Nat) : ∀ n : Nat, n < 128 ^ (j + 1) → (put n).length ≤ j + 1 := by
  induction j with
  | zero => intro n h; rw [put_small (by simpa using h)]; simp
  | succ j ih =>
    intro n h
    by_cases hs : n < 128
    · rw [put_small hs]; simp
    · rw [put_great (by omega)]
      have := ih (n / 128) (by rw [Nat.div_lt_iff_lt_mul (by omega)]; rw [Nat.pow_succ] at h; exact h)
      simp; omega
theorem put_len10 (n : Nat) (h : n < 18446744073709551616) : (put n).length ≤ 10 := put_len 9 n (by have : (128 : Nat) ^ (9 + 1) = 1180591620717411303424 := by decide
                                                                                                    omega)
theorem or128 (x : Int) (h0 : 0 ≤ x) (h1 : x < 256) : bits .or .u8 x 128 = x % 128 + 128 := by
  have : ∀ n : Fin 256, bits .or .u8 (n.val : Int) 128 = (n.val : Int) % 128 + 128 := by decide +kernel
  have h := this ⟨x.toNat, by omega⟩
  simpa [Int.toNat_of_nonneg h0] using h

/-- Reading what was written, at a place. -/
theorem gl_put : ∀ (m i : Nat) (a : Int) (r : List Int), (0 < i → 0 < m) → i ≤ 9 → m * 2 ^ (7 * i) < 2 ^ 64 → gl i a (put m ++ r) = (a + m * 2 ^ (7 * i), (i : Int) + (put m).length, 0) := by
  intro m
  induction m using Nat.strongRecOn with
  | _ m ih =>
    intro i a r hm hi hb
    have h9 : i = 9 → m ≤ 1 := by
      intro h
      subst h
      have : (2 : Nat) ^ (7 * 9) = 9223372036854775808 := by decide
      have h2 : (2 : Nat) ^ 64 = 18446744073709551616 := by decide
      rw [this, h2] at hb; omega
    by_cases hs : m < 128
    · rw [put_small hs]
      simp only [List.cons_append, List.nil_append, gl]
      have hc : ¬ ((i = 9 ∧ 1 < (m : Int)) ∨ (0 < i ∧ (m : Int) = 0)) := by
        rintro (⟨h1, h2⟩ | ⟨h1, h2⟩)
        · have := h9 h1; omega
        · have := hm h1; omega
      rw [if_neg hc, if_pos (by omega)]; simp
    · have hi9 : i ≠ 9 := fun h => by have := h9 h; omega
      rw [put_great (by omega)]
      simp only [List.cons_append, gl]
      have hc : ¬ ((i = 9 ∧ 1 < ((m % 128 + 128 : Nat) : Int)) ∨ (0 < i ∧ ((m % 128 + 128 : Nat) : Int) = 0)) := by
        rintro (⟨h1, h2⟩ | ⟨h1, h2⟩) <;> omega
      rw [if_neg hc, if_neg (by omega)]
      have hp : (2 : Nat) ^ (7 * (i + 1)) = 128 * 2 ^ (7 * i) := by rw [show 7 * (i + 1) = 7 + 7 * i by omega, Nat.pow_add]
      have hle : m / 128 * 2 ^ (7 * (i + 1)) ≤ m * 2 ^ (7 * i) := by
        rw [hp, ← Nat.mul_assoc]; exact Nat.mul_le_mul_right _ (by omega)
      rw [ih (m / 128) (by omega) (i + 1) _ r (fun _ => by omega) (by omega) (by omega)]
      have hpi : (2 : Int) ^ (7 * (i + 1)) = 128 * 2 ^ (7 * i) := by exact_mod_cast hp
      rw [hpi]
      generalize (2 : Int) ^ (7 * i) = P
      simp only [Prod.mk.injEq, List.length_cons]
      refine ⟨?_, by omega, trivial⟩
      have : (m : Int) = ((m % 128 : Nat) : Int) + 128 * ((m / 128 : Nat) : Int) := by omega
      rw [show (((m % 128 + 128 : Nat) : Int) - 128) = ((m % 128 : Nat) : Int) by omega, ← Int.mul_assoc, Int.mul_comm ((m / 128 : Nat) : Int) 128, Int.add_assoc, ← Int.add_mul, ← this]
/-- What was read is what, written, stands there. -/
theorem gl_ok : ∀ (l : List Int) (i : Nat) (a : Int), Bytes l → (gl i a l).2.2 = 0 → ∃ (m : Nat) (r : List Int), l = put m ++ r ∧ (0 < i → 0 < m) ∧ gl i a l = (a + m * 2 ^ (7 * i), (i : Int) + (put m).length, 0)
  | [], i, a, _, h => by simp [gl] at h
  | c :: l, i, a, hl, h => by
    have hc := hl c (by simp)
    rw [gl] at h
    split at h
    · simp at h
    · rename_i hb
      split at h
      · rename_i hs
        refine ⟨c.toNat, l, by rw [put_small (by omega)]; simp; omega, fun hi => ?_, ?_⟩
        · have : c ≠ 0 := fun h0 => hb (.inr ⟨hi, h0⟩)
          omega
        · rw [gl, if_neg hb, if_pos hs, put_small (by omega), Int.toNat_of_nonneg hc.1]; simp
      · rename_i hs
        obtain ⟨m, r, hr, hm, hg⟩ := gl_ok l (i + 1) _ (fun x hx => hl x (by simp [hx])) h
        have hm0 := hm (by omega)
        refine ⟨(c - 128).toNat + 128 * m, r, ?_, fun _ => by omega, ?_⟩
        · rw [put_great (by omega), show ((c - 128).toNat + 128 * m) / 128 = m by omega, hr]
          simp only [List.cons_append]; congr 1; omega
        · rw [gl, if_neg hb, if_neg hs, hg, put_great (n := (c - 128).toNat + 128 * m) (by omega), show ((c - 128).toNat + 128 * m) / 128 = m by omega]
          have hpi : (2 : Int) ^ (7 * (i + 1)) = 128 * 2 ^ (7 * i) := by rw [show 7 * (i + 1) = 7 + 7 * i by omega, Int.pow_add]; rfl
          rw [hpi]
          generalize (2 : Int) ^ (7 * i) = P
          simp only [Prod.mk.injEq, List.length_cons]
          refine ⟨?_, by omega, trivial⟩
          rw [show (((c - 128).toNat + 128 * m : Nat) : Int) = (c - 128) + 128 * m by omega, Int.add_mul, ← Int.mul_assoc (m : Int), Int.mul_comm (m : Int) 128]; omega
theorem gl_short : ∀ (l : List Int) (i : Nat) (a : Int), (gl i a l).2.2 = 2 → gl i a l = (0, (i : Int) + l.length, 2)
  | [], i, a, _ => by simp [gl]
  | c :: l, i, a, h => by
    rw [gl] at h ⊢
    split at h
    · simp at h
    · rename_i hb
      rw [if_neg hb]
      split at h
      · simp at h
      · rename_i hs
        rw [if_neg hs, gl_short l (i + 1) _ h]; simp; omega
theorem gl_errs : ∀ (l : List Int) (i : Nat) (a : Int), (gl i a l).2.2 = 0 ∨ (gl i a l).2.2 = 2 ∨ (gl i a l).2.2 = 3
  | [], i, a => by simp [gl]
  | c :: l, i, a => by
    rw [gl]
    split
    · simp
    · split
      · simp
      · exact gl_errs l _ _
/-- What is refused is refused at its byte, whatever stands behind; without it, it is cut off. -/
theorem gl_form3 : ∀ (l : List Int) (i : Nat) (a : Int), (gl i a l).2.2 = 3 → ∃ (p : List Int) (c : Int) (q : List Int), l = p ++ c :: q ∧ (∀ r, gl i a (p ++ c :: r) = (0, (i : Int) + p.length, 3)) ∧ gl i a p = (0, (i : Int) + p.length, 2)
  | [], i, a, h => by simp [gl] at h
  | c :: l, i, a, h => by
    rw [gl] at h
    split at h
    · rename_i hb
      exact ⟨[], c, l, rfl, fun r => by simp only [List.nil_append, gl]; rw [if_pos hb]; simp, by simp [gl]⟩
    · rename_i hb
      split at h
      · simp at h
      · rename_i hs
        obtain ⟨p, c', q, hp, h1, h2⟩ := gl_form3 l (i + 1) _ h
        refine ⟨c :: p, c', q, by rw [hp]; rfl, fun r => ?_, ?_⟩
        · simp only [List.cons_append, gl]; rw [if_neg hb, if_neg hs, h1 r]; simp; omega
        · simp only [gl]; rw [if_neg hb, if_neg hs, h2]; simp; omega
/-- A number cut off is cut off. -/
theorem gl_cut : ∀ (m i j : Nat) (a : Int), (0 < i → 0 < m) → i ≤ 9 → m * 2 ^ (7 * i) < 2 ^ 64 → j < (put m).length → gl i a ((put m).take j) = (0, (i : Int) + j, 2) := by
  intro m
  induction m using Nat.strongRecOn with
  | _ m ih =>
    intro i j a hm hi hb hj
    cases j with
    | zero => simp [gl]
    | succ j =>
      have h9 : i = 9 → m ≤ 1 := by
        intro h
        subst h
        have : (2 : Nat) ^ (7 * 9) = 9223372036854775808 := by decide
        have h2 : (2 : Nat) ^ 64 = 18446744073709551616 := by decide
        rw [this, h2] at hb; omega
      by_cases hs : m < 128
      · rw [put_small hs] at hj; simp at hj
      · have hi9 : i ≠ 9 := fun h => by have := h9 h; omega
        rw [put_great (by omega)] at hj ⊢
        simp only [List.length_cons] at hj
        simp only [List.take_succ_cons, gl]
        have hc : ¬ ((i = 9 ∧ 1 < ((m % 128 + 128 : Nat) : Int)) ∨ (0 < i ∧ ((m % 128 + 128 : Nat) : Int) = 0)) := by
          rintro (⟨h1, h2⟩ | ⟨h1, h2⟩) <;> omega
        rw [if_neg hc, if_neg (by omega)]
        have hp : (2 : Nat) ^ (7 * (i + 1)) = 128 * 2 ^ (7 * i) := by rw [show 7 * (i + 1) = 7 + 7 * i by omega, Nat.pow_add]
        have hle : m / 128 * 2 ^ (7 * (i + 1)) ≤ m * 2 ^ (7 * i) := by
          rw [hp, ← Nat.mul_assoc]; exact Nat.mul_le_mul_right _ (by omega)
        rw [ih (m / 128) (by omega) (i + 1) j _ (fun _ => by omega) (by omega) (by omega) (by omega)]
        simp; omega
theorem get_f (l : List Int) (hl : Bytes l) (hn : l.length ≤ 140737488355328) : number_Get.f l = some (gl 0 0 l) := by
  unfold number_Get.f
  rw [if_pos]
  simp only [Bool.and_eq_true, List.all_eq_true, decide_eq_true_eq]
  exact ⟨hl, hn⟩
end Go.Proofs.YtmlhlcdamppbfaaDoor.Ext
