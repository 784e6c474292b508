/- crc.Sum, frame.summed, frame.wrong, frame.unlike: contracts by hand. -/
import Derived.Test.YtojagnoobaleaaaDoorFrP
import Derived.Handy
import Derived.Deep.RegionHeld3
namespace Go.Proofs.YtojagnoobaleaaaDoor.Ext
open Go.RowKit Go.Proofs.YtojagnoobaleaaaDoorW.PrintWords Go.Proofs.YtojagnoobaleaaaDoorW.PrintLast Go.Proofs.YtojagnoobaleaaaDoorW.PrintMore
set_option linter.unusedVariables false
set_option linter.unusedSimpArgs false
attribute [local go_sem] max2_int min2_int max_two min_two
theorem like_step : ∀ (l m : List Int) (k : Nat) (h1 : k < l.length) (h2 : k < m.length), k ≤ like l m → (l[k] = m[k] → k + 1 ≤ like l m) ∧ (l[k] ≠ m[k] → like l m = k)
  | [], m, k, h1, _, _ => by simp at h1
  | a :: l, [], k, _, h2, _ => by simp at h2
  | a :: l, b :: m, 0, _, _, h => by
    refine ⟨fun e => ?_, fun e => ?_⟩
    · rw [like, if_pos (by simpa using e)]; omega
    · rw [like, if_neg (by simpa using e)]
  | a :: l, b :: m, k + 1, h1, h2, h => by
    rw [like] at h ⊢
    by_cases e : a = b
    · rw [if_pos e] at h ⊢
      have := like_step l m k (by simpa using h1) (by simpa using h2) (by omega)
      simp only [List.getElem_cons_succ]
      refine ⟨fun z => by have := this.1 z; omega, fun z => by rw [this.2 z]⟩
    · rw [if_neg e] at h; omega
theorem rd_get (l : List Int) (k : Nat) (h : k < l.length) : rd l k = l[k] := by
  unfold rd; rw [show (k : Int).toNat = k from rfl, List.getD_eq_getElem?_getD, List.getElem?_eq_getElem h]; rfl
/-- What unlike answers. -/
def isUn (l m : List Int) : Bool := decide (like l m < l.length) && decide (like l m < m.length)
def unF (l m : List Int) : Int × Bool := (if isUn l m then (like l m : Int) else 0, isUn l m)
set_option maxHeartbeats 1000000 in
theorem unlike_calls (A B : Option Addr) (c d : Nat) (l m : List Int) (w : World) (hl : Kd.C (Kd.int .u8) w A l.length l) (hm : Kd.C (Kd.int .u8) w B m.length m) (hln : l.length ≤ 140737488355328) (hmn : m.length ≤ 140737488355328) (r1 : Int) (r2 : Bool) (hf : unF l m = (r1, r2)) :
    Calls Tryd.prog 32 #[.slice A l.length c, .slice B m.length d] w fun e w' => e = .returned (.tuple #[.int .i64 r1, .bool r2]) ∧ Drawn0 w w' := by
  have HF := Aside0.mk hf
  clear hf
  have hk := like_le l m
  obtain ⟨N, hN⟩ : ∃ N : Nat, N = min l.length m.length := ⟨_, rfl⟩
  have hN1 : N ≤ l.length := by omega
  have hN2 : N ≤ m.length := by omega
  have HN := Aside0.mk hN
  have hmin : (if (m.length : Int) < (l.length : Int) then (m.length : Int) else (l.length : Int)) = (N : Int) := by split <;> omega
  have hminn : (if m.length < l.length then (m.length : Int) else (l.length : Int)) = (N : Int) := by split <;> omega
  have HK := Aside0.mk hk
  have HA := Aside0.mk hl
  have HB := Aside0.mk hm
  clear hk hN hl hm
  go_enter Tryd.func32, Tryd.ntmps32
  go_wp2
  clear hmin hminn
  go_loopg [12, 6] N (fun g v12 v6 wr => ∃ (k : Nat), v12 = .int .i64 k ∧ k + g = N ∧ Aside0 (k ≤ like l m) ∧ Aside0 (Drawn0 w wr))
  case atStart => exact ⟨0, rfl, by omega, ⟨by omega⟩, ⟨Drawn0.refl _⟩⟩
  case round =>
    obtain ⟨k, rfl, hg, HL, HD⟩ := hrel
    by_cases hlt : k < N
    · obtain ⟨ad, rfl, hx0⟩ := Kd.at_int HA.out k (by omega) (by omega)
      obtain ⟨bd, rfl, hy0⟩ := Kd.at_int HB.out k (by omega) (by omega)
      have HS := Aside0.mk (like_step l m k (by omega) (by omega) HL.out)
      obtain ⟨x, hxd⟩ : ∃ x, x = rd l k := ⟨_, rfl⟩
      obtain ⟨y, hyd⟩ : ∃ x, x = rd m k := ⟨_, rfl⟩
      have hx1 : wr.cell? (ad.add k) = some (.int .u8 x) := by rw [hxd]; exact pw_cell_below HD.out.below hx0
      have hy1 : wr.cell? (bd.add k) = some (.int .u8 y) := by rw [hyd]; exact pw_cell_below HD.out.below hy0
      have HX := Aside0.mk (hxd.trans (rd_get l k (by omega)))
      have HY := Aside0.mk (hyd.trans (rd_get m k (by omega)))
      clear hxd hyd hx0 hy0
      by_cases e : x = y
      · subst e
        have h1 := Aside0.mk (HS.out.1 (HX.out.symm.trans HY.out))
        clear HS
        go_wp2
        go_quiet (fail)
        go_wp2
        go_roundg (gk - 1)
        case measure => omega
        case rel => exact ⟨k + 1, by go_num, by omega, h1, ⟨HD.out.step _⟩⟩
      · have h1 := Aside0.mk (HS.out.2 (fun z => e (HX.out.trans (z.trans HY.out.symm))))
        have hne : (x == y) = false := by simpa using e
        have hnf : (x != y) = true := by simpa using e
        clear HS
        go_wp2
        go_quiet (fail)
        go_wp2
        go_ret2
        have hu : isUn l m = true := by unfold isUn; rw [h1.out]; simp; omega
        have hf := HF.out
        unfold unF at hf
        rw [hu, if_pos rfl, h1.out] at hf
        obtain ⟨rfl, rfl⟩ := Prod.mk.inj hf
        exact ⟨rfl, HD.out.step _⟩
    · obtain rfl : k = N := by omega
      go_wp2
      go_ret2
      have hu : isUn l m = false := by
        unfold isUn
        have := HL.out
        have := HN.out
        have := HK.out
        by_cases h : like l m < l.length
        · have : ¬ like l m < m.length := by omega
          simp [this]
        · simp [h]
      have hf := HF.out
      unfold unF at hf
      rw [hu, if_neg (by simp)] at hf
      obtain ⟨rfl, rfl⟩ := Prod.mk.inj hf
      exact ⟨rfl, HD.out⟩
/-- A world that has a block of the call's own, written or not. -/
theorem below_set {b : Nat} {w w' : World} (h : Below b w w') (g j : Nat) (v : Value) (hg : b ≤ g) : Below b w (w'.setCell ⟨g, j, none⟩ v) := h.setCell (p := ⟨g, j, none⟩) hg v
theorem wrong_calls (at_ e_ : Int) (w : World) : Calls Tryd.prog 33 #[.int .i64 at_, .int .i64 e_] w fun e w' => e = .returned (.agg #[.slice none 0 0, .int .i64 at_, .int .i64 e_]) ∧ Below w.heap.size w w' := by
  go_enter Tryd.func33, Tryd.ntmps33
  go_wp2
  go_returns
  refine ⟨rfl, ?_⟩
  repeat (first | exact below_alloc (Below.refl _ _) _ | (refine below_set ?_ _ _ _ (Nat.le_refl _)))
theorem more_range (l : List Int) : 0 ≤ more 0 l ∧ more 0 l < 4294967296 := B_range _
theorem sum_calls (A : Option Addr) (c : Nat) (l : List Int) (w : World) (hG : Glob w) (hr : Kd.C (Kd.int .u8) w A l.length l) (hl : Bytes l) (hn : l.length ≤ 140737488355328) :
    Calls Tryd.prog 37 #[.slice A l.length c] w fun e w' => e = .returned (.int .u32 (more 0 l)) ∧ Drawn0 w w' := by
  have HM := Aside0.mk (more_calls 0#32 A c l w hG hr hl hn)
  clear hG hr
  go_enter Tryd.func37, Tryd.ntmps37
  go_wp2_with (fail)
  refine HM.out.mono ?_
  rintro e w1 ⟨rfl, hd⟩
  have HD := Aside0.mk hd
  clear hd HM
  go_wp2
  go_ret
  exact ⟨rfl, HD.out⟩
theorem four_is (n : Int) (h0 : 0 ≤ n) (h1 : n < 4294967296) : [IntKind.u8.wrap n, IntKind.u8.wrap (n / 256), IntKind.u8.wrap (n / 65536), IntKind.u8.wrap (n / 16777216)] = fourB n := by
  simp only [fourB, IntKind.wrap_u8]
set_option maxHeartbeats 1000000 in
theorem summed_calls (A : Option Addr) (c : Nat) (l : List Int) (w : World) (hG : Glob w) (hr : Kd.C (Kd.int .u8) w A l.length l) (hl : Bytes l) (hn : l.length ≤ 140737488355328) :
    Calls Tryd.prog 27 #[.slice A l.length c] w fun e w' => ∃ g, e = .returned (.slice (some ⟨g, 0, none⟩) 4 4) ∧ w'.heap[g]? = some (.cells (nums .u8 (four l)).toArray 5 (0, 0)) ∧ w.heap.size ≤ g ∧ Below w.heap.size w w' := by
  have HM := Aside0.mk (sum_calls A c l w hG hr hl hn)
  have HR := Aside0.mk (more_range l)
  have HF := Aside0.mk (show fourB (more 0 l) = four l from rfl)
  clear hG hr
  go_enter Tryd.func27, Tryd.ntmps27
  go_wp2_with (fail)
  refine HM.out.mono ?_
  rintro e w1 ⟨rfl, hd⟩
  have HD := Aside0.mk hd
  clear hd HM
  obtain ⟨m0, m1⟩ := HR.out
  clear HR
  obtain ⟨n, hnn⟩ : ∃ n, n = more 0 l := ⟨_, rfl⟩
  rw [← hnn] at HF m0 m1
  rw [← hnn]
  clear hnn
  go_wp2
  go_ret
  refine ⟨w1.heap.size, rfl, ?_, HD.out.below.size, below_alloc HD.out.below _⟩
  rw [← HF.out]
  rw [show (nums .u8 (fourB n)).toArray = #[Value.int IntKind.u8 (n % 256), Value.int IntKind.u8 (n / 256 % 256), Value.int IntKind.u8 (n / 65536 % 256), Value.int IntKind.u8 (n / 16777216)] from by simp [nums, fourB]; omega]
  exact blk_new _ _
theorem unlike_at {A B : Option Addr} {c d : Nat} {n k : Nat} (l m : List Int) (w : World) (hn : l.length = n) (hk : m.length = k) (hl : Kd.C (Kd.int .u8) w A n l) (hm : Kd.C (Kd.int .u8) w B k m) (hln : n ≤ 140737488355328) (hmn : k ≤ 140737488355328) (r1 : Int) (r2 : Bool) (hf : unF l m = (r1, r2)) :
    Calls Tryd.prog 32 #[.slice A n c, .slice B k d] w fun e w' => e = .returned (.tuple #[.int .i64 r1, .bool r2]) ∧ Drawn0 w w' := by
  subst hn; subst hk
  exact unlike_calls A B c d l m w hl hm hln hmn r1 r2 hf
end Go.Proofs.YtojagnoobaleaaaDoor.Ext
