/- The contract of event.Right, by hand. -/
import Derived.Test.YtmlhlcdamppbfaaDoorEv0
namespace Go.Proofs.YtmlhlcdamppbfaaDoor.Ext
open Go.RowKit Go.Proofs.YtmlhlcdamppbfaaDoorW.PrintWords Go.Proofs.YtmlhlcdamppbfaaDoorW.PrintLast Go.Proofs.YtmlhlcdamppbfaaDoorW.PrintMore
set_option linter.unusedVariables false
set_option linter.unusedSimpArgs false
attribute [local go_sem] max2_int min2_int max_two min_two
/-- The table of kinds: how many texts, and below what the numbers are. -/
def tab : List Int := [0, 0, 0, 0, 1, 0, 0, 0, 1, 0, 0, 0, 4, 4, 3, 3, 2, 0, 0, 0, 0, 0, 0, 0, 2, 0, 0, 0, 0, 1000, 0, 0, 0, 0, 0, 0, 2, 0, 0, 0, 0, 1000, 0, 0, 1, 0, 0, 0, 1, 0, 0, 0, 0, 0, 0, 0, 0, 4, 0, 0]
/-- The world holds the table. -/
def Glob (w : World) : Prop := ∀ j, j < 60 → w.cell? ⟨0, j, none⟩ = some (.int .i64 (tab.getD j 0))
theorem Glob.below {w w1 : World} (h : Glob w) (hb : Below w.heap.size w w1) : Glob w1 := fun j hj => pw_cell_below hb (h j hj)
theorem Glob.alloc {w : World} (h : Glob w) (o : Obj) : Glob (w.alloc o) := h.below (below_alloc (Below.refl _ _) o)
theorem Glob.drewN {w : World} (h : Glob w) (n : Nat) : Glob (w.drewN n) := h
theorem Glob.drew {w : World} (h : Glob w) : Glob w.drew := h
/-- How many texts a kind has; below what its numbers are. -/
def T0 (k : Int) : Int := tab.getD (k.toNat * 4) 0
def TN (k : Int) (i : Nat) : Int := tab.getD (k.toNat * 4 + (i + 1)) 0
def textOk (T i : Int) (s : ByteArray) : Bool := decide ((s.size : Int) ≤ 4096) && (decide (i < T) || s.toList.isEmpty)
def numOk (m : Int) (n : Int) : Bool := decide (0 ≤ n) && decide (n < (if m < 1 then 1 else m))
/-- May an event be? -/
def rightF (k id : Int) (A B C D : ByteArray) (x y z : Int) : Bool :=
  decide (1 ≤ k) && decide (k ≤ 14) && ((decide (k = 1) || decide (k = 2)) == decide (id = 0)) &&
  (textOk (T0 k) 0 A && textOk (T0 k) 1 B && textOk (T0 k) 2 C && textOk (T0 k) 3 D) && (numOk (TN k 0) x && numOk (TN k 1) y && numOk (TN k 2) z)
theorem textOk_a {T i : Int} {s : ByteArray} (h1 : (s.size : Int) ≤ 4096) (h2 : i < T) : textOk T i s = true := by simp [textOk, h1, h2]
theorem textOk_b {T i : Int} {s : ByteArray} (h : (s.size : Int) ≤ 4096 ∧ (!s.toList.isEmpty) = false) : textOk T i s = true := by
  have h2 : s.toList.isEmpty = true := by simpa using h.2
  simp [textOk, h.1, h2]
theorem textOk_c {T i : Int} {s : ByteArray} (h : 4096 < (s.size : Int)) : textOk T i s = false := by
  have : ¬ (s.size : Int) ≤ 4096 := by omega
  simp [textOk, this]
theorem textOk_d {T i : Int} {s : ByteArray} (h : T ≤ i) (h' : 4096 < (s.size : Int) ∨ (!s.toList.isEmpty) = true) : textOk T i s = false := by
  rcases h' with h' | h'
  · exact textOk_c h'
  · have : ¬ i < T := by omega
    have h2 : s.toList.isEmpty = false := by simpa using h'
    simp [textOk, this, h2]
theorem numOk_T {m n : Int} (h : 0 ≤ n ∧ n < (if m < 1 then 1 else m)) : numOk m n = true := by simp only [numOk, h.1, h.2, decide_true, Bool.and_self]
theorem numOk_F {m n : Int} (h : n < 0 ∨ (if m < 1 then 1 else m) ≤ n) : numOk m n = false := by
  unfold numOk
  rcases h with h | h
  · rw [decide_eq_false (by omega)]; rfl
  · rw [decide_eq_false (p := n < _) (by omega), Bool.and_false]
theorem Glob.kind {w : World} (h : Glob w) (k : Int) (h0 : 1 ≤ k) (h1 : k ≤ 14) :
    w.cell? ⟨0, k.toNat * 4, none⟩ = some (.int .i64 (T0 k)) ∧ w.cell? ⟨0, k.toNat * 4 + 1, none⟩ = some (.int .i64 (TN k 0)) ∧ w.cell? ⟨0, k.toNat * 4 + 2, none⟩ = some (.int .i64 (TN k 1)) ∧ w.cell? ⟨0, k.toNat * 4 + 3, none⟩ = some (.int .i64 (TN k 2)) :=
  ⟨h _ (by omega), h _ (by omega), h _ (by omega), h _ (by omega)⟩

set_option maxHeartbeats 2000000 in
theorem right_calls (k t id : Int) (A B C D : ByteArray) (x y z : Int) (w : World) (hG : Glob w) :
    Calls Tryd.prog 15 #[.agg #[.int .i64 k, .int .u64 t, .int .u64 id, .string A, .string B, .string C, .string D, .int .i64 x, .int .i64 y, .int .i64 z]] w fun e w' => e = .returned (.bool (rightF k id A B C D x y z)) ∧ Below w.heap.size w w' := by
  have HG := Aside0.mk hG
  clear hG
  obtain ⟨R, hR⟩ : ∃ R, rightF k id A B C D x y z = R := ⟨_, rfl⟩
  have HR := Aside0.mk hR
  rw [hR]
  clear hR
  by_cases hk : 1 ≤ k ∧ k ≤ 14
  case neg =>
    have hkn : (decide (1 ≤ k) && decide (k ≤ 14)) = false := by simp; omega
    have hr : R = false := by rw [← HR.out]; unfold rightF; rw [hkn]; simp
    subst hr
    clear hk
    go_enter Tryd.func15, Tryd.ntmps15
    go_wp2
    go_quiet (first | (go_at_call 25; refine (known_calls _ _).mono ?_; rw [hkn]; rintro e w1 ⟨rfl, rfl⟩; exact ⟨rfl, _, rfl⟩) | (go_at_call 26; refine (alone_calls _ _).mono ?_; rintro e w1 ⟨rfl, rfl⟩; exact ⟨rfl, _, rfl⟩))
    go_wp2
    go_ret
    exact ⟨rfl, pw_below_drewN (below_alloc (Below.refl _ _) _) _⟩
  case pos =>
  have hkn : (decide (1 ≤ k) && decide (k ≤ 14)) = true := by simp; exact hk
  obtain ⟨al, hal⟩ : ∃ al, (decide (k = 1) || decide (k = 2)) = al := ⟨_, rfl⟩
  obtain ⟨hk0, hk1⟩ := hk
  by_cases ha : al = (id == 0)
  case neg =>
    have ha' : (!al == (id == 0)) = true := by revert ha; cases al <;> cases (id == 0) <;> simp
    have hr : R = false := by rw [← HR.out]; unfold rightF; rw [hkn, hal]; have : (al == decide (id = 0)) = false := by rw [show decide (id = 0) = (id == 0) from rfl]; simpa using ha
                              rw [this]; simp
    subst hr
    go_enter Tryd.func15, Tryd.ntmps15
    go_wp2
    go_quiet (first | (go_at_call 25; refine (known_calls _ _).mono ?_; rw [hkn]; rintro e w1 ⟨rfl, rfl⟩; exact ⟨rfl, _, rfl⟩) | (go_at_call 26; refine (alone_calls _ _).mono ?_; rw [hal]; rintro e w1 ⟨rfl, rfl⟩; exact ⟨rfl, _, rfl⟩))
    go_wp2
    go_ret
    exact ⟨rfl, pw_below_drewN (below_alloc (Below.refl _ _) _) _⟩
  case pos =>
  have ha' : (!al == (id == 0)) = false := by rw [ha]; simp
  have hrr : R = ((textOk (T0 k) 0 A && textOk (T0 k) 1 B && textOk (T0 k) 2 C && textOk (T0 k) 3 D) && (numOk (TN k 0) x && numOk (TN k 1) y && numOk (TN k 2) z)) := by
    rw [← HR.out]; unfold rightF; rw [hkn, hal, show (al == decide (id = 0)) = true by rw [show decide (id = 0) = (id == 0) from rfl]; simpa using ha]; simp
  clear HR
  have HR := Aside0.mk hrr
  clear hrr ha
  have hk2 : 0 ≤ k := by omega
  have hk3 : k < 15 := by omega
  go_enter Tryd.func15, Tryd.ntmps15
  go_wp2
  go_quiet (first | (go_at_call 25; refine (known_calls _ _).mono ?_; rw [hkn]; rintro e w1 ⟨rfl, rfl⟩; exact ⟨rfl, _, rfl⟩) | (go_at_call 26; refine (alone_calls _ _).mono ?_; rw [hal]; rintro e w1 ⟨rfl, rfl⟩; exact ⟨rfl, _, rfl⟩))
  obtain ⟨g, hg⟩ : ∃ g, g = w.heap.size := ⟨_, rfl⟩
  obtain ⟨W, hW⟩ : ∃ W, W = (w.alloc (Obj.cells #[Value.int IntKind.i64 k, Value.int IntKind.u64 t, Value.int IntKind.u64 id, Value.string A, Value.string B, Value.string C, Value.string D, Value.int IntKind.i64 x, Value.int IntKind.i64 y, Value.int IntKind.i64 z] 24)).drewN nq := ⟨_, rfl⟩
  have hb : W.heap[g]? = some (.cells #[Value.int IntKind.i64 k, Value.int IntKind.u64 t, Value.int IntKind.u64 id, Value.string A, Value.string B, Value.string C, Value.string D, Value.int IntKind.i64 x, Value.int IntKind.i64 y, Value.int IntKind.i64 z] 24 (0, 0)) := by rw [hW, hg]; exact blk_new _ _
  have hBW : Below w.heap.size w W := by rw [hW]; exact pw_below_drewN (below_alloc (Below.refl _ _) _) _
  have HB := Aside0.mk hBW
  rw [← hW, ← hg]
  have HGW := Aside0.mk (HG.out.below hBW)
  obtain ⟨g0, g1, g2, g3⟩ := HGW.out.kind k hk0 hk1
  have c0 : W.cell? ⟨g, 0, none⟩ = some (.int .i64 k) := blk_cell hb 0
  have Hb := Aside0.mk hb
  have HGE := Aside0.mk hg
  clear hb hBW hW hg hal
  obtain ⟨TT, hT⟩ : ∃ T, T0 k = T := ⟨_, rfl⟩
  obtain ⟨N0, hN0⟩ : ∃ T, TN k 0 = T := ⟨_, rfl⟩
  obtain ⟨N1, hN1⟩ : ∃ T, TN k 1 = T := ⟨_, rfl⟩
  obtain ⟨N2, hN2⟩ : ∃ T, TN k 2 = T := ⟨_, rfl⟩
  have HR2 := HR.out
  rw [hT, hN0, hN1, hN2] at HR2
  clear HR
  have HR := Aside0.mk HR2
  clear HR2
  rw [hT] at g0
  rw [hN0] at g1
  rw [hN1] at g2
  rw [hN2] at g3
  clear hT hN0 hN1 hN2
  go_wp2_with (fail)
  refine (texts_calls g _).mono ?_
  rintro e w2 ⟨rfl, rfl⟩
  go_wp2
  obtain ⟨p, hp⟩ : ∃ p, p = W.heap.size + 1 := ⟨_, rfl⟩
  obtain ⟨q, hq⟩ : ∃ q, q = W.heap.size := ⟨_, rfl⟩
  obtain ⟨W3, hW3⟩ : ∃ W3, W3 = ((W.alloc (Obj.cells #[.int .i64 TT, .int .i64 N0, .int .i64 N1, .int .i64 N2] 47)).alloc (Obj.cells #[Value.pointer (some { block := g, off := 3 }), Value.pointer (some { block := g, off := 4 }), Value.pointer (some { block := g, off := 5 }), Value.pointer (some { block := g, off := 6 })] 53)).drew := ⟨_, rfl⟩
  have hsz : (W.alloc (Obj.cells #[.int .i64 TT, .int .i64 N0, .int .i64 N1, .int .i64 N2] 47)).heap.size = W.heap.size + 1 := by simp
  have hbp : W3.heap[p]? = some (Obj.cells #[Value.pointer (some { block := g, off := 3 }), Value.pointer (some { block := g, off := 4 }), Value.pointer (some { block := g, off := 5 }), Value.pointer (some { block := g, off := 6 })] 53 (0, 0)) := by rw [hW3, hp, ← hsz]; exact blk_new _ _
  have hbq : W3.heap[q]? = some (Obj.cells #[.int .i64 TT, .int .i64 N0, .int .i64 N1, .int .i64 N2] 47 (0, 0)) := by rw [hW3, hq]; exact blk_alloc (blk_new _ _) _
  have hbg : W3.heap[g]? = some (.cells #[Value.int IntKind.i64 k, Value.int IntKind.u64 t, Value.int IntKind.u64 id, Value.string A, Value.string B, Value.string C, Value.string D, Value.int IntKind.i64 x, Value.int IntKind.i64 y, Value.int IntKind.i64 z] 24 (0, 0)) := by rw [hW3]; exact blk_alloc (blk_alloc Hb.out _) _
  have hB3 : Below w.heap.size w W3 := by rw [hW3]; exact pw_below_drewN (below_alloc (below_alloc HB.out _) _) 1
  rw [← hW3, ← hp, ← hq]
  have HB3 := Aside0.mk hB3
  have Hbg := Aside0.mk hbg
  have Hbp := Aside0.mk hbp
  have Hbq := Aside0.mk hbq
  have p0 : W3.cell? ⟨p, 0, none⟩ = some (.pointer (some ⟨g, 3, none⟩)) := blk_cell hbp 0
  have p1 : W3.cell? ⟨p, 1, none⟩ = some (.pointer (some ⟨g, 4, none⟩)) := blk_cell hbp 1
  have p2 : W3.cell? ⟨p, 2, none⟩ = some (.pointer (some ⟨g, 5, none⟩)) := blk_cell hbp 2
  have p3 : W3.cell? ⟨p, 3, none⟩ = some (.pointer (some ⟨g, 6, none⟩)) := blk_cell hbp 3
  have q0 : W3.cell? ⟨q, 0, none⟩ = some (.int .i64 TT) := blk_cell hbq 0
  have s0 : W3.cell? ⟨g, 3, none⟩ = some (.string A) := blk_cell hbg 3
  have s1 : W3.cell? ⟨g, 4, none⟩ = some (.string B) := blk_cell hbg 4
  have s2 : W3.cell? ⟨g, 5, none⟩ = some (.string C) := blk_cell hbg 5
  have s3 : W3.cell? ⟨g, 6, none⟩ = some (.string D) := blk_cell hbg 6
  clear hW3 hp hq hsz hbp hbq hbg hB3 g0 g1 g2 g3 c0 HGW
  go_loopg [27] 4 (fun m v27 w' => ∃ i : Nat, v27 = .int .i64 i ∧ i + m = 4 ∧ w' = W3 ∧ Aside0 ((0 < i → textOk TT 0 A = true) ∧ (1 < i → textOk TT 1 B = true) ∧ (2 < i → textOk TT 2 C = true) ∧ (3 < i → textOk TT 3 D = true)))
  case atStart => exact ⟨0, rfl, rfl, rfl, ⟨by omega, by omega, by omega, by omega⟩⟩
  case round =>
    obtain ⟨i, rfl, hm, rfl, HT⟩ := hrel
    by_cases hi : i < 4
    · have : i = 0 ∨ i = 1 ∨ i = 2 ∨ i = 3 := by omega
      rcases this with rfl | rfl | rfl | rfl
      · go_wp2
        all_goals first
          | (go_roundg (gk - 1)
             case measure => omega
             case rel => exact ⟨1, by go_num, by omega, rfl, ⟨fun _ => by first | exact textOk_a (by assumption) (by assumption) | exact textOk_b (by assumption), by omega, by omega, by omega⟩⟩)
          | (have hr : R = false := by
               have e : textOk TT 0 A = false := by first | exact textOk_c (by assumption) | exact textOk_d (by assumption) (by assumption)
               rw [HR.out, e]; simp
             rw [hr]
             go_ret
             exact ⟨rfl, HB3.out⟩)
      · go_wp2
        all_goals first
          | (go_roundg (gk - 1)
             case measure => omega
             case rel => exact ⟨2, by go_num, by omega, rfl, ⟨fun _ => HT.out.1 (by omega), fun _ => by first | exact textOk_a (by assumption) (by assumption) | exact textOk_b (by assumption), by omega, by omega⟩⟩)
          | (have hr : R = false := by
               have e : textOk TT 1 B = false := by first | exact textOk_c (by assumption) | exact textOk_d (by assumption) (by assumption)
               rw [HR.out, e]; simp
             rw [hr]
             go_ret
             exact ⟨rfl, HB3.out⟩)
      · go_wp2
        all_goals first
          | (go_roundg (gk - 1)
             case measure => omega
             case rel => exact ⟨3, by go_num, by omega, rfl, ⟨fun _ => HT.out.1 (by omega), fun _ => HT.out.2.1 (by omega), fun _ => by first | exact textOk_a (by assumption) (by assumption) | exact textOk_b (by assumption), by omega⟩⟩)
          | (have hr : R = false := by
               have e : textOk TT 2 C = false := by first | exact textOk_c (by assumption) | exact textOk_d (by assumption) (by assumption)
               rw [HR.out, e]; simp
             rw [hr]
             go_ret
             exact ⟨rfl, HB3.out⟩)
      · go_wp2
        all_goals first
          | (go_roundg (gk - 1)
             case measure => omega
             case rel => exact ⟨4, by go_num, by omega, rfl, ⟨fun _ => HT.out.1 (by omega), fun _ => HT.out.2.1 (by omega), fun _ => HT.out.2.2.1 (by omega), fun _ => by first | exact textOk_a (by assumption) (by assumption) | exact textOk_b (by assumption)⟩⟩)
          | (have hr : R = false := by
               have e : textOk TT 3 D = false := by first | exact textOk_c (by assumption) | exact textOk_d (by assumption) (by assumption)
               rw [HR.out, e]; simp
             rw [hr]
             go_ret
             exact ⟨rfl, HB3.out⟩)
    · obtain rfl : i = 4 := by omega
      have hr0 : R = (numOk N0 x && numOk N1 y && numOk N2 z) := by
        obtain ⟨e0, e1, e2, e3⟩ := HT.out
        rw [HR.out, e0 (by omega), e1 (by omega), e2 (by omega), e3 (by omega)]; simp
      clear HR HT
      have HR := Aside0.mk hr0
      clear hr0 p0 p1 p2 p3 q0 s0 s1 s2 s3
      go_wp2_with (fail)
      refine (numbers_calls g _).mono ?_
      rintro e w4 ⟨rfl, rfl⟩
      go_wp2
      obtain ⟨v, hv⟩ : ∃ v, v = wr.heap.size := ⟨_, rfl⟩
      obtain ⟨W4, hW4⟩ : ∃ W4, W4 = (wr.alloc (Obj.cells #[Value.pointer (some { block := g, off := 7 }), Value.pointer (some { block := g, off := 8 }), Value.pointer (some { block := g, off := 9 })] 57)).drew := ⟨_, rfl⟩
      have hbv : W4.heap[v]? = some (Obj.cells #[Value.pointer (some { block := g, off := 7 }), Value.pointer (some { block := g, off := 8 }), Value.pointer (some { block := g, off := 9 })] 57 (0, 0)) := by rw [hW4, hv]; exact blk_new _ _
      have hbq : W4.heap[q]? = some (Obj.cells #[.int .i64 TT, .int .i64 N0, .int .i64 N1, .int .i64 N2] 47 (0, 0)) := by rw [hW4]; exact blk_alloc Hbq.out _
      have hbg : W4.heap[g]? = some (.cells #[Value.int IntKind.i64 k, Value.int IntKind.u64 t, Value.int IntKind.u64 id, Value.string A, Value.string B, Value.string C, Value.string D, Value.int IntKind.i64 x, Value.int IntKind.i64 y, Value.int IntKind.i64 z] 24 (0, 0)) := by rw [hW4]; exact blk_alloc Hbg.out _
      have hB4 : Below w.heap.size w W4 := by rw [hW4]; exact pw_below_drewN (below_alloc HB3.out _) 1
      rw [← hW4, ← hv]
      have HB4 := Aside0.mk hB4
      have p0 : W4.cell? ⟨v, 0, none⟩ = some (.pointer (some ⟨g, 7, none⟩)) := blk_cell hbv 0
      have p1 : W4.cell? ⟨v, 1, none⟩ = some (.pointer (some ⟨g, 8, none⟩)) := blk_cell hbv 1
      have p2 : W4.cell? ⟨v, 2, none⟩ = some (.pointer (some ⟨g, 9, none⟩)) := blk_cell hbv 2
      have q1 : W4.cell? ⟨q, 1, none⟩ = some (.int .i64 N0) := blk_cell hbq 1
      have q2 : W4.cell? ⟨q, 2, none⟩ = some (.int .i64 N1) := blk_cell hbq 2
      have q3 : W4.cell? ⟨q, 3, none⟩ = some (.int .i64 N2) := blk_cell hbq 3
      have s0 : W4.cell? ⟨g, 7, none⟩ = some (.int .i64 x) := blk_cell hbg 7
      have s1 : W4.cell? ⟨g, 8, none⟩ = some (.int .i64 y) := blk_cell hbg 8
      have s2 : W4.cell? ⟨g, 9, none⟩ = some (.int .i64 z) := blk_cell hbg 9
      clear hW4 hv hbv hbq hbg hB4 Hb Hbg Hbp Hbq HB HB3 hm hi HG
      go_loopg [52] 3 (fun m v52 w' => ∃ i : Nat, v52 = .int .i64 i ∧ i + m = 3 ∧ (∃ n, w' = W4.drewN n) ∧ Aside0 ((0 < i → numOk N0 x = true) ∧ (1 < i → numOk N1 y = true) ∧ (2 < i → numOk N2 z = true)))
      case atStart => exact ⟨0, rfl, rfl, ⟨0, rfl⟩, ⟨by omega, by omega, by omega⟩⟩
      case round =>
        obtain ⟨i, rfl, hm, ⟨n, rfl⟩, HT⟩ := hrel
        by_cases hi : i < 3
        · have : i = 0 ∨ i = 1 ∨ i = 2 := by omega
          rcases this with rfl | rfl | rfl
          · by_cases hx : x < 0
            · go_wp2
              go_quiet (fail)
              all_goals go_wp2
              all_goals
                have hr : R = false := by rw [HR.out, numOk_F (m := N0) (n := x) (.inl hx)]; simp
                rw [hr]
                go_ret
                exact ⟨rfl, by first | exact pw_below_drewN HB4.out _ | exact pw_below_drewN (pw_below_drewN HB4.out _) _⟩
            · go_wp2
              go_quiet (fail)
              all_goals go_wp2
              all_goals first
                | (go_roundg (gk - 1)
                   case measure => omega
                   case rel => exact ⟨1, by go_num, by omega, (by first | exact ⟨_, rfl⟩ | exact ⟨_, World.drewN_drewN _ _ _⟩), ⟨fun _ => by first | exact numOk_T (by assumption) | exact numOk_T ⟨by assumption, by assumption⟩, by omega, by omega⟩⟩)
                | (have hr : R = false := by rw [HR.out, numOk_F (m := N0) (n := x) (by assumption)]; simp
                   rw [hr]
                   go_ret
                   exact ⟨rfl, by first | exact pw_below_drewN HB4.out _ | exact pw_below_drewN (pw_below_drewN HB4.out _) _⟩)
          · by_cases hx : y < 0
            · go_wp2
              go_quiet (fail)
              all_goals go_wp2
              all_goals
                have hr : R = false := by rw [HR.out, numOk_F (m := N1) (n := y) (.inl hx)]; simp
                rw [hr]
                go_ret
                exact ⟨rfl, by first | exact pw_below_drewN HB4.out _ | exact pw_below_drewN (pw_below_drewN HB4.out _) _⟩
            · go_wp2
              go_quiet (fail)
              all_goals go_wp2
              all_goals first
                | (go_roundg (gk - 1)
                   case measure => omega
                   case rel => exact ⟨2, by go_num, by omega, (by first | exact ⟨_, rfl⟩ | exact ⟨_, World.drewN_drewN _ _ _⟩), ⟨fun _ => HT.out.1 (by omega), fun _ => by first | exact numOk_T (by assumption) | exact numOk_T ⟨by assumption, by assumption⟩, by omega⟩⟩)
                | (have hr : R = false := by rw [HR.out, numOk_F (m := N1) (n := y) (by assumption)]; simp
                   rw [hr]
                   go_ret
                   exact ⟨rfl, by first | exact pw_below_drewN HB4.out _ | exact pw_below_drewN (pw_below_drewN HB4.out _) _⟩)
          · by_cases hx : z < 0
            · go_wp2
              go_quiet (fail)
              all_goals go_wp2
              all_goals
                have hr : R = false := by rw [HR.out, numOk_F (m := N2) (n := z) (.inl hx)]; simp
                rw [hr]
                go_ret
                exact ⟨rfl, by first | exact pw_below_drewN HB4.out _ | exact pw_below_drewN (pw_below_drewN HB4.out _) _⟩
            · go_wp2
              go_quiet (fail)
              all_goals go_wp2
              all_goals first
                | (go_roundg (gk - 1)
                   case measure => omega
                   case rel => exact ⟨3, by go_num, by omega, (by first | exact ⟨_, rfl⟩ | exact ⟨_, World.drewN_drewN _ _ _⟩), ⟨fun _ => HT.out.1 (by omega), fun _ => HT.out.2.1 (by omega), fun _ => by first | exact numOk_T (by assumption) | exact numOk_T ⟨by assumption, by assumption⟩⟩⟩)
                | (have hr : R = false := by rw [HR.out, numOk_F (m := N2) (n := z) (by assumption)]; simp
                   rw [hr]
                   go_ret
                   exact ⟨rfl, by first | exact pw_below_drewN HB4.out _ | exact pw_below_drewN (pw_below_drewN HB4.out _) _⟩)
        · obtain rfl : i = 3 := by omega
          have hr0 : R = true := by
            obtain ⟨e0, e1, e2⟩ := HT.out
            rw [HR.out, e0 (by omega), e1 (by omega), e2 (by omega)]; simp
          go_wp2
          rw [hr0]
          go_ret
          exact ⟨rfl, by first | exact pw_below_drewN HB4.out _ | exact pw_below_drewN (pw_below_drewN HB4.out _) _⟩
end Go.Proofs.YtmlhlcdamppbfaaDoor.Ext
