/- frame.one: its contract by hand. -/
import Derived.Test.YtojagnoobaleaaaDoorFrA
import Derived.Deep.Cut
namespace Go.Proofs.YtojagnoobaleaaaDoor.Ext
open Go.RowKit Go.Proofs.YtojagnoobaleaaaDoorW.PrintWords Go.Proofs.YtojagnoobaleaaaDoorW.PrintLast Go.Proofs.YtojagnoobaleaaaDoorW.PrintMore
set_option linter.unusedVariables false
set_option linter.unusedSimpArgs false
attribute [local go_sem] max2_int min2_int max_two min_two
theorem oneT_two (m : List Int) : (oneT m).2 = (seqT lenT ([], ()) (fun n => seqT (bodyT n) () (fun b => fixT (four b) 4)) m).2 := rfl
theorem one_err {m : List Int} (h : (gl 0 0 m).2.2 ≠ 0) : (oneT m).2 = (gl 0 0 m).2 := by
  have e : lenT m = (0, (gl 0 0 m).2) := by unfold lenT; rw [if_neg h]
  rw [oneT_two, seq_bad (by rw [e]; exact h), e]
theorem one_limit {m : List Int} (h : (gl 0 0 m).2.2 = 0) (h1 : 20000 < (gl 0 0 m).1) : (oneT m).2 = ((gl 0 0 m).2.1 - 1, 5) := by
  have e : lenT m = (0, (gl 0 0 m).2.1 - 1, 5) := by unfold lenT; rw [if_pos h, if_pos h1]
  rw [oneT_two, seq_bad (by rw [e]; simp), e]
theorem one_len {m : List Int} (h : (gl 0 0 m).2.2 = 0) (h1 : ¬ 20000 < (gl 0 0 m).1) : oneT m = ((seqT (bodyT (gl 0 0 m).1) () (fun b => fixT (four b) 4) (m.drop (gl 0 0 m).2.1.toNat)).1.1, (gl 0 0 m).2.1 + (seqT (bodyT (gl 0 0 m).1) () (fun b => fixT (four b) 4) (m.drop (gl 0 0 m).2.1.toNat)).2.1, (seqT (bodyT (gl 0 0 m).1) () (fun b => fixT (four b) 4) (m.drop (gl 0 0 m).2.1.toNat)).2.2) := by
  have e : lenT m = gl 0 0 m := by unfold lenT; rw [if_pos h, if_neg h1]
  unfold oneT
  have e2 : ∀ (d : List Int × Unit) (t2 : Int → List Int → (List Int × Unit) × Int × Int), seqT lenT d t2 m = (((gl 0 0 m).1, (t2 (gl 0 0 m).1 (m.drop (gl 0 0 m).2.1.toNat)).1), (gl 0 0 m).2.1 + (t2 (gl 0 0 m).1 (m.drop (gl 0 0 m).2.1.toNat)).2.1, (t2 (gl 0 0 m).1 (m.drop (gl 0 0 m).2.1.toNat)).2.2) := fun d t2 => by
    unfold seqT; rw [e, if_pos h]
  rw [e2]
theorem one_short {m : List Int} {n s : Int} (hg : gl 0 0 m = (n, s, 0)) (h1 : n ≤ 20000) (hs0 : 0 ≤ s) (hs1 : s ≤ m.length) (h2 : (m.length : Int) - s < n) : (oneT m).2 = ((m.length : Int), 2) := by
  rw [one_len (by rw [hg]) (by rw [hg]; omega), hg]
  have e : bodyT n (m.drop s.toNat) = ([], ((m.drop s.toNat).length : Int), 2) := by unfold bodyT; rw [if_pos (by rw [List.length_drop]; omega)]
  simp only []
  rw [seq_bad (by rw [e]; simp), e]
  simp only [List.length_drop, Prod.mk.injEq, and_true]; omega
theorem one_body {m : List Int} {n s : Int} (hg : gl 0 0 m = (n, s, 0)) (h1 : n ≤ 20000) (hn0 : 0 ≤ n) (hs0 : 0 ≤ s) (hs1 : s ≤ m.length) (h2 : ¬ (m.length : Int) - s < n) (b r : List Int) (hb : b = (m.drop s.toNat).take n.toNat) (hr : r = m.drop (s + n).toNat) :
    oneT m = (b, s + (n + (fixT (four b) 4 r).2.1), (fixT (four b) 4 r).2.2) := by
  rw [one_len (by rw [hg]) (by rw [hg]; omega), hg]
  have e : bodyT n (m.drop s.toNat) = (b, n, 0) := by unfold bodyT; rw [if_neg (by rw [List.length_drop]; omega), hb]
  have e2 : (m.drop s.toNat).drop n.toNat = r := by rw [hr, List.drop_drop]; congr 1; omega
  simp only []
  unfold seqT
  rw [e, if_pos rfl]
  simp only [e2]
/-- How Go asks for it. -/
theorem fix_un {m r : List Int} (e : Int) (h : isUn m r = true) : (fixT m e r).2 = ((like m r : Int), e) := by
  unfold isUn at h
  simp only [Bool.and_eq_true, decide_eq_true_eq] at h
  unfold fixT; rw [if_pos h.1, if_pos h.2]
theorem fix_short {m r : List Int} (e : Int) (h : isUn m r = false) (h2 : r.length < m.length) : (fixT m e r).2 = ((r.length : Int), 2) := by
  have hl := like_le m r
  unfold isUn at h
  simp only [Bool.and_eq_false_iff, decide_eq_false_iff_not] at h
  unfold fixT; rw [if_pos (by omega), if_neg (by omega)]
theorem fix_good {m r : List Int} (e : Int) (h : isUn m r = false) (h2 : m.length ≤ r.length) : (fixT m e r).2 = ((m.length : Int), 0) := by
  have hl := like_le m r
  unfold isUn at h
  simp only [Bool.and_eq_false_iff, decide_eq_false_iff_not] at h
  unfold fixT; rw [if_neg (by omega)]
/-- What a frame's value tells. -/
def OneV (w : World) (v : Value) (b : List Int) (er : Int) : Prop := if er = 0 then ∃ A c, v = .slice A b.length c ∧ b.length ≤ c ∧ Kd.C (Kd.int .u8) w A b.length b else v = .slice none 0 0
theorem OneV.bad {w : World} {b : List Int} {er : Int} (h : er ≠ 0) : OneV w (.slice none 0 0) b er := by unfold OneV; rw [if_neg h]
theorem OneV.below {w w' : World} {v : Value} {b : List Int} {er : Int} (h : OneV w v b er) (hb : Below w.heap.size w w') : OneV w' v b er := by
  unfold OneV at h ⊢
  split
  · rename_i he
    rw [if_pos he] at h
    obtain ⟨A, c, h1, h2, h3⟩ := h
    exact ⟨A, c, h1, h2, Kd.C_below h3 hb⟩
  · rename_i he
    rw [if_neg he] at h; exact h
def OneP (w0 w : World) (l : List Int) (p : Nat) (e : Ending) (w' : World) : Prop := ∃ v at_ er, e = .returned (.agg #[v, .int .i64 at_, .int .i64 er]) ∧ (oneT (l.drop p)).2 = (at_ - p, er) ∧ OneV w0 v (oneT (l.drop p)).1 er ∧ Below w.heap.size w w'
theorem info5 : (Tryd.prog.info? 5).map (fun i => (i.zero, i.size, i.bytes)) = some (some (.int .u8 0), 1, 1) := by kernel_rfl
/-- The call's own result cell lies as it was laid. -/
structure Res (w W : World) (g : Nat) : Prop where
  below : Below w.heap.size w W
  base : w.heap.size ≤ g
  blk : W.heap[g]? = some (.cells #[.slice none 0 0, .int .i64 0, .int .i64 0] 51 (0, 0))
theorem Res.new (w : World) : Res w (w.alloc (.cells #[.slice none 0 0, .int .i64 0, .int .i64 0] 51)) w.heap.size := ⟨below_alloc (Below.refl _ _) _, Nat.le_refl _, blk_new _ _⟩
theorem Res.then_ {w W W' : World} {g : Nat} (h : Res w W g) (hb : Below W.heap.size W W') : Res w W' g := ⟨below_step h.below hb, h.base, blk_below h.blk hb⟩
theorem Res.drewN {w W : World} {g : Nat} (h : Res w W g) (n : Nat) : Res w (W.drewN n) g := h.then_ (pw_below_drewN (Below.refl _ _) n)
theorem Res.alloc {w W : World} {g : Nat} (h : Res w W g) (o : Obj) : Res w (W.alloc o) g := h.then_ (below_alloc (Below.refl _ _) o)
theorem Res.read {w W : World} {g : Nat} (h : Res w W g) : (W.cell? ⟨g, 0, none⟩ = some (.slice none 0 0) ∧ W.cell? ⟨g, 1, none⟩ = some (.int .i64 0) ∧ W.cell? ⟨g, 2, none⟩ = some (.int .i64 0)) ∧
    (W.frozen? ⟨g, 0, none⟩ = false ∧ W.frozen? ⟨g, 1, none⟩ = false ∧ W.frozen? ⟨g, 2, none⟩ = false) :=
  ⟨⟨blk_cell h.blk 0, blk_cell h.blk 1, blk_cell h.blk 2⟩, blk_frozen h.blk 0, blk_frozen h.blk 1, blk_frozen h.blk 2⟩
theorem Res.end_ {w W : World} {g : Nat} (h : Res w W g) (v0 v1 v2 : Value) : Below w.heap.size w (((W.setCell ⟨g, 0, none⟩ v0).setCell ⟨g, 1, none⟩ v1).setCell ⟨g, 2, none⟩ v2) :=
  below_set (below_set (below_set h.below g 0 v0 h.base) g 1 v1 h.base) g 2 v2 h.base
theorem Res.fin {w W : World} {g : Nat} (h : Res w W g) (v0 v1 v2 : Value) : ∃ W4, W4 = (((W.setCell ⟨g, 0, none⟩ v0).setCell ⟨g, 1, none⟩ v1).setCell ⟨g, 2, none⟩ v2) ∧ W4.cell? ⟨g, 0, none⟩ = some v0 ∧ W4.cell? ⟨g, 1, none⟩ = some v1 ∧ W4.cell? ⟨g, 2, none⟩ = some v2 ∧ Below w.heap.size w W4 ∧ (∀ q xs A n, Kd.C (Kd.int q) W A n xs → Kd.C (Kd.int q) w A n xs → Kd.C (Kd.int q) W4 A n xs) := by
  have b := blk_put (blk_put (blk_put h.blk 0 v0 rfl) 1 v1 rfl) 2 v2 rfl
  exact ⟨_, rfl, blk_cell b 0, blk_cell b 1, blk_cell b 2, h.end_ v0 v1 v2, fun q xs A n _ hc => Kd.C_below hc (h.end_ v0 v1 v2)⟩
set_option maxHeartbeats 2000000 in
theorem one_err_calls (A A1 : Option Addr) (c cc : Nat) (l m : List Int) (p : Nat) (n s e0 : Int) (w : World) (f1 : ∀ (W : World), (Instr.slice 22 (.slice A l.length c) (some (.int .i64 p)) none none).run Tryd.prog W = .ok (.slice A1 m.length cc) W)
    (C1 : Aside0 (Kd.C (Kd.int .u8) w A1 m.length m)) (K1 : Aside0 (m.length ≤ cc)) (HF : Aside0 (number_Get.f m = some (n, s, e0))) (h0 : 0 ≤ s) (h1 : s ≤ 1048576) (h2 : p ≤ 1048576) (he : e0 ≠ 0) :
    Calls Tryd.prog 34 #[.slice A l.length c, .int .i64 p] w fun e w' => e = .returned (.agg #[.slice none 0 0, .int .i64 (p + s), .int .i64 e0]) ∧ Below w.heap.size w w' := by
  have he1 : (e0 == 0) = false := by simpa using he
  have he2 : (e0 != 0) = true := by simpa using he
  go_enter Tryd.func34, Tryd.ntmps34
  go_wp2_with (fail)
  refine (number_Get.calls A1 cc m n s e0 _ (Kd.C_alloc C1.out _) K1.out HF.out).mono ?_
  rintro e w2 ⟨rfl, hb⟩
  have HR := Aside0.mk ((Res.new w).then_ hb)
  obtain ⟨g, hg⟩ : ∃ g, g = w.heap.size := ⟨_, rfl⟩
  rw [← hg] at HR ⊢
  clear hb hg C1 f1
  go_wp2_with (fail)
  refine (wrong_calls _ _ _).mono ?_
  rintro e w3 ⟨rfl, hb⟩
  have HR3 := Aside0.mk (HR.out.then_ hb)
  clear hb HR
  obtain ⟨⟨c0, c1, c2⟩, d0, d1, d2⟩ := HR3.out.read
  go_wp2
  obtain ⟨W4, hW4, k0, k1, k2, HB4, _⟩ := HR3.out.fin (.slice none 0 0) (.int .i64 (p + s)) (.int .i64 e0)
  rw [← hW4]
  clear c0 c1 c2 d0 d1 d2 hW4
  exact bodyPost_ret (v := .agg #[.slice none 0 0, .int .i64 (p + s), .int .i64 e0]) (by simp [results, Tryd.results34, go_sem, k0, k1, k2]) rfl ⟨rfl, HB4⟩
set_option maxHeartbeats 2000000 in
theorem one_limit_calls (A A1 : Option Addr) (c cc : Nat) (l m : List Int) (p : Nat) (n s : Int) (w : World) (f1 : ∀ (W : World), (Instr.slice 22 (.slice A l.length c) (some (.int .i64 p)) none none).run Tryd.prog W = .ok (.slice A1 m.length cc) W)
    (C1 : Aside0 (Kd.C (Kd.int .u8) w A1 m.length m)) (K1 : Aside0 (m.length ≤ cc)) (HF : Aside0 (number_Get.f m = some (n, s, 0))) (h0 : 0 ≤ s) (h1 : s ≤ 1048576) (h2 : p ≤ 1048576) (h4 : 1 ≤ s) (h3 : 20000 < n) :
    Calls Tryd.prog 34 #[.slice A l.length c, .int .i64 p] w fun e w' => e = .returned (.agg #[.slice none 0 0, .int .i64 (p + s - 1), .int .i64 5]) ∧ Below w.heap.size w w' := by
  go_enter Tryd.func34, Tryd.ntmps34
  go_wp2_with (fail)
  refine (number_Get.calls A1 cc m n s 0 _ (Kd.C_alloc C1.out _) K1.out HF.out).mono ?_
  rintro e w2 ⟨rfl, hb⟩
  have HR := Aside0.mk ((Res.new w).then_ hb)
  obtain ⟨g, hg⟩ : ∃ g, g = w.heap.size := ⟨_, rfl⟩
  rw [← hg] at HR ⊢
  clear hb hg C1 f1
  go_wp2_with (fail)
  refine (wrong_calls _ _ _).mono ?_
  rintro e w3 ⟨rfl, hb⟩
  have HR3 := Aside0.mk (HR.out.then_ hb)
  clear hb HR
  obtain ⟨⟨c0, c1, c2⟩, d0, d1, d2⟩ := HR3.out.read
  go_wp2
  obtain ⟨W4, hW4, k0, k1, k2, HB4, _⟩ := HR3.out.fin (.slice none 0 0) (.int .i64 (p + s - 1)) (.int .i64 5)
  rw [← hW4]
  clear c0 c1 c2 d0 d1 d2 hW4
  exact bodyPost_ret (v := .agg #[.slice none 0 0, .int .i64 (p + s - 1), .int .i64 5]) (by simp [results, Tryd.results34, go_sem, k0, k1, k2]) rfl ⟨rfl, HB4⟩
set_option maxHeartbeats 2000000 in
theorem one_short_calls (A A1 : Option Addr) (c cc : Nat) (l m : List Int) (p : Nat) (n s : Int) (w : World) (f1 : ∀ (W : World), (Instr.slice 22 (.slice A l.length c) (some (.int .i64 p)) none none).run Tryd.prog W = .ok (.slice A1 m.length cc) W)
    (C1 : Aside0 (Kd.C (Kd.int .u8) w A1 m.length m)) (K1 : Aside0 (m.length ≤ cc)) (HF : Aside0 (number_Get.f m = some (n, s, 0))) (h0 : 0 ≤ s) (h1 : s ≤ 1048576) (h2 : p ≤ 1048576) (hn0 : 0 ≤ n) (h3 : n ≤ 20000) (h4 : p + s ≤ l.length) (h5 : l.length ≤ 1048576) (h6 : (l.length : Int) - p - s < n) :
    Calls Tryd.prog 34 #[.slice A l.length c, .int .i64 p] w fun e w' => e = .returned (.agg #[.slice none 0 0, .int .i64 (l.length), .int .i64 2]) ∧ Below w.heap.size w w' := by
  go_enter Tryd.func34, Tryd.ntmps34
  go_wp2_with (fail)
  refine (number_Get.calls A1 cc m n s 0 _ (Kd.C_alloc C1.out _) K1.out HF.out).mono ?_
  rintro e w2 ⟨rfl, hb⟩
  have HR := Aside0.mk ((Res.new w).then_ hb)
  obtain ⟨g, hg⟩ : ∃ g, g = w.heap.size := ⟨_, rfl⟩
  rw [← hg] at HR ⊢
  clear hb hg C1 f1
  go_wp2_with (fail)
  refine (wrong_calls _ _ _).mono ?_
  rintro e w3 ⟨rfl, hb⟩
  have HR3 := Aside0.mk (HR.out.then_ hb)
  clear hb HR
  obtain ⟨⟨c0, c1, c2⟩, d0, d1, d2⟩ := HR3.out.read
  go_wp2
  obtain ⟨W4, hW4, k0, k1, k2, HB4, _⟩ := HR3.out.fin (.slice none 0 0) (.int .i64 (l.length)) (.int .i64 2)
  rw [← hW4]
  clear c0 c1 c2 d0 d1 d2 hW4
  exact bodyPost_ret (v := .agg #[.slice none 0 0, .int .i64 (l.length), .int .i64 2]) (by simp [results, Tryd.results34, go_sem, k0, k1, k2]) rfl ⟨rfl, HB4⟩
theorem sumC {w : World} {g : Nat} {b : List Int} (h : w.heap[g]? = some (.cells (nums .u8 (four b)).toArray 5 (0, 0))) : Kd.C (Kd.int .u8) w (some ⟨g, 0, none⟩) 4 (four b) := by
  refine Kd.C_of_reads (d := (0 : Int)) (h1 := fun _ => rfl) ⟨rfl, by decide, fun hn => ⟨_, rfl, fun j hj => ?_⟩⟩
  rw [add_plain, cell_of_row _ _ _ _ _ _ h]
  have hj' : j < (four b).length := hj
  simp [nums, List.getElem?_eq_getElem hj', List.getD_eq_getElem?_getD]
theorem summed_at {A : Option Addr} {c n : Nat} (l : List Int) (w : World) (hG : Glob w) (hr : Kd.C (Kd.int .u8) w A n l) (hl : Bytes l) (hn : l.length = n) (h : n ≤ 140737488355328) :
    Calls Tryd.prog 27 #[.slice A n c] w fun e w' => ∃ g, e = .returned (.slice (some ⟨g, 0, none⟩) 4 4) ∧ w'.heap[g]? = some (.cells (nums .u8 (four l)).toArray 5 (0, 0)) ∧ w.heap.size ≤ g ∧ Below w.heap.size w w' := by
  subst hn
  exact summed_calls A c l w hG hr hl h
set_option maxHeartbeats 2000000 in
theorem one_sum_calls (A A1 : Option Addr) (c cc : Nat) (l m : List Int) (p : Nat) (n s : Int) (w : World) (f1 : ∀ (W : World), (Instr.slice 22 (.slice A l.length c) (some (.int .i64 p)) none none).run Tryd.prog W = .ok (.slice A1 m.length cc) W)
    (C1 : Aside0 (Kd.C (Kd.int .u8) w A1 m.length m)) (K1 : Aside0 (m.length ≤ cc)) (HF : Aside0 (number_Get.f m = some (n, s, 0))) (h0 : 0 ≤ s) (h1 : s ≤ 1048576) (h2 : p ≤ 1048576) (hG : Aside0 (Glob w)) (hn0 : 0 ≤ n) (h3 : n ≤ 20000) (h4 : p + s + n ≤ l.length) (h5 : l.length ≤ 1048576) (h6 : n ≤ (l.length : Int) - p - s)
    (b r : List Int) (A2 A3 : Option Addr) (c2 c3 N R : Nat) (f2 : ∀ (W : World), (Instr.slice 22 (.slice A l.length c) (some (.int .i64 (p + s))) (some (.int .i64 (p + s + n))) none).run Tryd.prog W = .ok (.slice A2 N c2) W)
    (f3 : ∀ (W : World), (Instr.slice 22 (.slice A l.length c) (some (.int .i64 (p + s + n))) none none).run Tryd.prog W = .ok (.slice A3 R c3) W) (C2 : Aside0 (Kd.C (Kd.int .u8) w A2 N b)) (C3 : Aside0 (Kd.C (Kd.int .u8) w A3 R r)) (BN : Aside0 (b.length = N)) (RN : Aside0 (r.length = R)) (BB : Aside0 (Bytes b)) (hN : N ≤ 20000) (hR : R ≤ 1048576) (i : Int) (hi0 : 0 ≤ i) (hi1 : i ≤ 4) (hU : Aside0 (unF (four b) r = (i, true))) :
    Calls Tryd.prog 34 #[.slice A l.length c, .int .i64 p] w fun e w' => e = .returned (.agg #[.slice none 0 0, .int .i64 (p + s + n + i), .int .i64 4]) ∧ Below w.heap.size w w' := by
  go_enter Tryd.func34, Tryd.ntmps34
  go_wp2_with (fail)
  refine (number_Get.calls A1 cc m n s 0 _ (Kd.C_alloc C1.out _) K1.out HF.out).mono ?_
  rintro e w2 ⟨rfl, hb⟩
  have HR := Aside0.mk ((Res.new w).then_ hb)
  obtain ⟨g, hg⟩ : ∃ g, g = w.heap.size := ⟨_, rfl⟩
  rw [← hg] at HR ⊢
  clear hb hg C1 f1
  have HG := Aside0.mk (hG.out.below HR.out.below)
  have D2 := Aside0.mk (Kd.C_below C2.out HR.out.below)
  have D3 := Aside0.mk (Kd.C_below C3.out HR.out.below)
  clear hG C2 C3
  have e3 : decide (20000 < n) = false := by simpa using h3
  have e6 : decide ((l.length : Int) - p - s < n) = false := by simp only [decide_eq_false_iff_not]; omega
  go_upto_region 10 with (fail)
  clear f2 e3 e6
  go_region_held3 (fun _ => True) (trivial) (first | (have z_ := hS2; clear z_; go_at_call 32; refine (unlike_at (n := 4) (four b) r _ rfl RN.out ?a1 ?a2 (by omega) (by omega) _ _ hU.out).mono ?_; (case a1 => first | exact sumC hS2 | exact Kd.C_drew (sumC hS2) | exact Kd.C_drewN (sumC hS2) _); (case a2 => first | exact Kd.C_below (Kd.C_drew D3.out) hb3 | exact Kd.C_drew (Kd.C_below (Kd.C_drew D3.out) hb3) | exact Kd.C_below D3.out hb3 | exact Kd.C_drew (Kd.C_below D3.out hb3)); rintro e w4 ⟨rfl, hd4⟩; have HR4 := Aside0.mk (Res.then_ (by first | exact (HR.out.drewN 1).then_ hb3 | exact ((HR.out.drewN 1).then_ hb3).drewN 1 | exact HR.out.then_ hb3 | exact (HR.out.then_ hb3).drewN 1) hd4.below); clear hd4) | (go_at_call 27; refine (summed_at b _ (by first | exact HG.out | exact HG.out.drewN _ | exact HG.out.drew) ?b1 BB.out BN.out (by omega)).mono ?_; (case b1 => first | exact D2.out | exact Kd.C_drew D2.out); rintro e w3 ⟨g3, rfl, hS2, hg3, hb3⟩))
  rename_i hHeld_
  clear hHeld_ hS2 hg3 hb3 HR
  go_wp2_with (fail)
  refine (wrong_calls _ _ _).mono ?_
  rintro e w5 ⟨rfl, hb⟩
  have HR5 := Aside0.mk (HR4.out.then_ hb)
  clear hb HR4
  obtain ⟨⟨c0, c1, c2⟩, d0, d1, d2⟩ := HR5.out.read
  go_wp2
  obtain ⟨W4, hW4, k0, k1, k2, HB4, _⟩ := HR5.out.fin (.slice none 0 0) (.int .i64 (p + s + n + i)) (.int .i64 4)
  rw [← hW4]
  clear c0 c1 c2 d0 d1 d2 hW4
  exact bodyPost_ret (v := .agg #[.slice none 0 0, .int .i64 (p + s + n + i), .int .i64 4]) (by simp [results, Tryd.results34, go_sem, k0, k1, k2]) rfl ⟨rfl, HB4⟩
set_option maxHeartbeats 2000000 in
theorem one_cut_calls (A A1 : Option Addr) (c cc : Nat) (l m : List Int) (p : Nat) (n s : Int) (w : World) (f1 : ∀ (W : World), (Instr.slice 22 (.slice A l.length c) (some (.int .i64 p)) none none).run Tryd.prog W = .ok (.slice A1 m.length cc) W)
    (C1 : Aside0 (Kd.C (Kd.int .u8) w A1 m.length m)) (K1 : Aside0 (m.length ≤ cc)) (HF : Aside0 (number_Get.f m = some (n, s, 0))) (h0 : 0 ≤ s) (h1 : s ≤ 1048576) (h2 : p ≤ 1048576) (hG : Aside0 (Glob w)) (hn0 : 0 ≤ n) (h3 : n ≤ 20000) (h4 : p + s + n ≤ l.length) (h5 : l.length ≤ 1048576) (h6 : n ≤ (l.length : Int) - p - s)
    (b r : List Int) (A2 A3 : Option Addr) (c2 c3 N R : Nat) (f2 : ∀ (W : World), (Instr.slice 22 (.slice A l.length c) (some (.int .i64 (p + s))) (some (.int .i64 (p + s + n))) none).run Tryd.prog W = .ok (.slice A2 N c2) W)
    (f3 : ∀ (W : World), (Instr.slice 22 (.slice A l.length c) (some (.int .i64 (p + s + n))) none none).run Tryd.prog W = .ok (.slice A3 R c3) W) (C2 : Aside0 (Kd.C (Kd.int .u8) w A2 N b)) (C3 : Aside0 (Kd.C (Kd.int .u8) w A3 R r)) (BN : Aside0 (b.length = N)) (RN : Aside0 (r.length = R)) (BB : Aside0 (Bytes b)) (hN : N ≤ 20000) (hR : R ≤ 1048576) (i : Int) (hU : Aside0 (unF (four b) r = (i, false))) (h7 : (l.length : Int) - (p + s + n) < 4) :
    Calls Tryd.prog 34 #[.slice A l.length c, .int .i64 p] w fun e w' => e = .returned (.agg #[.slice none 0 0, .int .i64 (l.length), .int .i64 2]) ∧ Below w.heap.size w w' := by
  go_enter Tryd.func34, Tryd.ntmps34
  go_wp2_with (fail)
  refine (number_Get.calls A1 cc m n s 0 _ (Kd.C_alloc C1.out _) K1.out HF.out).mono ?_
  rintro e w2 ⟨rfl, hb⟩
  have HR := Aside0.mk ((Res.new w).then_ hb)
  obtain ⟨g, hg⟩ : ∃ g, g = w.heap.size := ⟨_, rfl⟩
  rw [← hg] at HR ⊢
  clear hb hg C1 f1
  have HG := Aside0.mk (hG.out.below HR.out.below)
  have D2 := Aside0.mk (Kd.C_below C2.out HR.out.below)
  have D3 := Aside0.mk (Kd.C_below C3.out HR.out.below)
  clear hG C2 C3
  have e3 : decide (20000 < n) = false := by simpa using h3
  have e6 : decide ((l.length : Int) - p - s < n) = false := by simp only [decide_eq_false_iff_not]; omega
  go_upto_region 10 with (fail)
  clear f2 e3 e6
  go_region_held3 (fun _ => True) (trivial) (first | (have z_ := hS2; clear z_; go_at_call 32; refine (unlike_at (n := 4) (four b) r _ rfl RN.out ?a1 ?a2 (by omega) (by omega) _ _ hU.out).mono ?_; (case a1 => first | exact sumC hS2 | exact Kd.C_drew (sumC hS2) | exact Kd.C_drewN (sumC hS2) _); (case a2 => first | exact Kd.C_below (Kd.C_drew D3.out) hb3 | exact Kd.C_drew (Kd.C_below (Kd.C_drew D3.out) hb3) | exact Kd.C_below D3.out hb3 | exact Kd.C_drew (Kd.C_below D3.out hb3)); rintro e w4 ⟨rfl, hd4⟩; have HR4 := Aside0.mk (Res.then_ (by first | exact (HR.out.drewN 1).then_ hb3 | exact ((HR.out.drewN 1).then_ hb3).drewN 1 | exact HR.out.then_ hb3 | exact (HR.out.then_ hb3).drewN 1) hd4.below); clear hd4) | (go_at_call 27; refine (summed_at b _ (by first | exact HG.out | exact HG.out.drewN _ | exact HG.out.drew) ?b1 BB.out BN.out (by omega)).mono ?_; (case b1 => first | exact D2.out | exact Kd.C_drew D2.out); rintro e w3 ⟨g3, rfl, hS2, hg3, hb3⟩))
  rename_i hHeld_
  clear hHeld_ hS2 hg3 hb3 HR
  have e7 : decide ((l.length : Int) - (p + s + n) < 4) = true := by simp only [decide_eq_true_eq]; omega
  go_wp2_with (fail)
  refine (wrong_calls _ _ _).mono ?_
  rintro e w5 ⟨rfl, hb⟩
  have HR5 := Aside0.mk (HR4.out.then_ hb)
  clear hb HR4
  obtain ⟨⟨c0, c1, c2⟩, d0, d1, d2⟩ := HR5.out.read
  go_wp2
  obtain ⟨W4, hW4, k0, k1, k2, HB4, _⟩ := HR5.out.fin (.slice none 0 0) (.int .i64 (l.length)) (.int .i64 2)
  rw [← hW4]
  clear c0 c1 c2 d0 d1 d2 hW4
  exact bodyPost_ret (v := .agg #[.slice none 0 0, .int .i64 (l.length), .int .i64 2]) (by simp [results, Tryd.results34, go_sem, k0, k1, k2]) rfl ⟨rfl, HB4⟩
set_option maxHeartbeats 2000000 in
theorem one_good_calls (A A1 : Option Addr) (c cc : Nat) (l m : List Int) (p : Nat) (n s : Int) (w : World) (f1 : ∀ (W : World), (Instr.slice 22 (.slice A l.length c) (some (.int .i64 p)) none none).run Tryd.prog W = .ok (.slice A1 m.length cc) W)
    (C1 : Aside0 (Kd.C (Kd.int .u8) w A1 m.length m)) (K1 : Aside0 (m.length ≤ cc)) (HF : Aside0 (number_Get.f m = some (n, s, 0))) (h0 : 0 ≤ s) (h1 : s ≤ 1048576) (h2 : p ≤ 1048576) (hG : Aside0 (Glob w)) (hn0 : 0 ≤ n) (h3 : n ≤ 20000) (h4 : p + s + n ≤ l.length) (h5 : l.length ≤ 1048576) (h6 : n ≤ (l.length : Int) - p - s)
    (b r : List Int) (A2 A3 : Option Addr) (c2 c3 N R : Nat) (f2 : ∀ (W : World), (Instr.slice 22 (.slice A l.length c) (some (.int .i64 (p + s))) (some (.int .i64 (p + s + n))) none).run Tryd.prog W = .ok (.slice A2 N c2) W)
    (f3 : ∀ (W : World), (Instr.slice 22 (.slice A l.length c) (some (.int .i64 (p + s + n))) none none).run Tryd.prog W = .ok (.slice A3 R c3) W) (C2 : Aside0 (Kd.C (Kd.int .u8) w A2 N b)) (C3 : Aside0 (Kd.C (Kd.int .u8) w A3 R r)) (BN : Aside0 (b.length = N)) (RN : Aside0 (r.length = R)) (BB : Aside0 (Bytes b)) (hN : N ≤ 20000) (hR : R ≤ 1048576) (i : Int) (hU : Aside0 (unF (four b) r = (i, false))) (h7 : 4 ≤ (l.length : Int) - (p + s + n)) :
    Calls Tryd.prog 34 #[.slice A l.length c, .int .i64 p] w fun e w' => e = .returned (.agg #[.slice A2 N c2, .int .i64 (p + s + n + 4), .int .i64 0]) ∧ Below w.heap.size w w' := by
  go_enter Tryd.func34, Tryd.ntmps34
  go_wp2_with (fail)
  refine (number_Get.calls A1 cc m n s 0 _ (Kd.C_alloc C1.out _) K1.out HF.out).mono ?_
  rintro e w2 ⟨rfl, hb⟩
  have HR := Aside0.mk ((Res.new w).then_ hb)
  obtain ⟨g, hg⟩ : ∃ g, g = w.heap.size := ⟨_, rfl⟩
  rw [← hg] at HR ⊢
  clear hb hg C1 f1
  have HG := Aside0.mk (hG.out.below HR.out.below)
  have D2 := Aside0.mk (Kd.C_below C2.out HR.out.below)
  have D3 := Aside0.mk (Kd.C_below C3.out HR.out.below)
  clear hG C2 C3
  have e3 : decide (20000 < n) = false := by simpa using h3
  have e6 : decide ((l.length : Int) - p - s < n) = false := by simp only [decide_eq_false_iff_not]; omega
  go_upto_region 10 with (fail)
  clear f2 e3 e6
  go_region_held3 (fun _ => True) (trivial) (first | (have z_ := hS2; clear z_; go_at_call 32; refine (unlike_at (n := 4) (four b) r _ rfl RN.out ?a1 ?a2 (by omega) (by omega) _ _ hU.out).mono ?_; (case a1 => first | exact sumC hS2 | exact Kd.C_drew (sumC hS2) | exact Kd.C_drewN (sumC hS2) _); (case a2 => first | exact Kd.C_below (Kd.C_drew D3.out) hb3 | exact Kd.C_drew (Kd.C_below (Kd.C_drew D3.out) hb3) | exact Kd.C_below D3.out hb3 | exact Kd.C_drew (Kd.C_below D3.out hb3)); rintro e w4 ⟨rfl, hd4⟩; have HR4 := Aside0.mk (Res.then_ (by first | exact (HR.out.drewN 1).then_ hb3 | exact ((HR.out.drewN 1).then_ hb3).drewN 1 | exact HR.out.then_ hb3 | exact (HR.out.then_ hb3).drewN 1) hd4.below); clear hd4) | (go_at_call 27; refine (summed_at b _ (by first | exact HG.out | exact HG.out.drewN _ | exact HG.out.drew) ?b1 BB.out BN.out (by omega)).mono ?_; (case b1 => first | exact D2.out | exact Kd.C_drew D2.out); rintro e w3 ⟨g3, rfl, hS2, hg3, hb3⟩))
  rename_i hHeld_
  clear hHeld_ hS2 hg3 hb3 HR
  have e7 : decide ((l.length : Int) - (p + s + n) < 4) = false := by simp only [decide_eq_false_iff_not]; omega
  obtain ⟨⟨c0, c1, c5⟩, d0, d1, d2⟩ := HR4.out.read
  go_wp2
  obtain ⟨W4, hW4, k0, k1, k2, HB4, _⟩ := HR4.out.fin (.slice A2 N c2) (.int .i64 (p + s + n + 4)) (.int .i64 0)
  rw [← hW4]
  clear c0 c1 d0 d1 d2 hW4
  exact bodyPost_ret (v := .agg #[.slice A2 N c2, .int .i64 (p + s + n + 4), .int .i64 0]) (by simp [results, Tryd.results34, go_sem, k0, k1, k2]) rfl ⟨rfl, HB4⟩
theorem one_calls (A : Option Addr) (c : Nat) (l : List Int) (p : Nat) (w0 w : World) (hG : Glob w) (hr0 : Kd.C (Kd.int .u8) w0 A l.length l) (hb0 : Below w0.heap.size w0 w) (hc : l.length ≤ c) (hl : Bytes l) (hn : l.length ≤ 1048576) (hp : p ≤ l.length) :
    Calls Tryd.prog 34 #[.slice A l.length c, .int .i64 p] w (OneP w0 w l p) := by
  have hr := Kd.C_below hr0 hb0
  obtain ⟨i5, hi5, _, hsz5, _⟩ := info_parts info5
  obtain ⟨A1, f1, g1, k1⟩ := print_drop_of (P := Tryd.prog) (Value.int .u8) 0 22 5 .i64 Tryd.underlying22 hi5 hsz5 A c l p (by omega) (by omega) (by omega)
  simp only [Int.toNat_natCast] at f1 g1 k1
  obtain ⟨m, hm⟩ : ∃ m, m = l.drop p := ⟨_, rfl⟩
  have hml : m.length = l.length - p := by rw [hm, List.length_drop]
  have hmB : Bytes m := by rw [hm]; exact hl.drop p
  have C1 := Aside0.mk (Kd.C_of_reads (h1 := fun _ => rfl) (g1 w (Kd.reads_of_C hr)))
  rw [← hm] at f1 k1 C1
  obtain ⟨⟨n, s, e0⟩, hgl⟩ : ∃ x, gl 0 0 m = x := ⟨_, rfl⟩
  have gf := gl_form m 0 0
  rw [hgl] at gf
  simp only [] at gf
  obtain ⟨gs0, gs1, _⟩ := gf
  have hf := get_f m hmB (by omega)
  rw [hgl] at hf
  unfold OneP
  rw [← hm]
  by_cases he : e0 = 0
  · subst he
    obtain ⟨m0, q0, hq1, _, hq2⟩ := gl_ok m 0 0 hmB (by rw [hgl])
    rw [hgl] at hq2
    simp only [Nat.mul_zero, Prod.mk.injEq] at hq2
    have hmp := put_pos m0
    have hn0 : 0 ≤ n := by rw [hq2.1]; simp
    have hs1 : 1 ≤ s := by rw [hq2.2.1]; omega
    by_cases h1 : 20000 < n
    · refine (one_limit_calls A A1 c (c - p) l m p n s w f1 C1 ⟨k1⟩ ⟨hf⟩ gs0 (by omega) (by omega) hs1 h1).mono ?_
      rintro e w' ⟨rfl, hb⟩
      refine ⟨_, _, _, rfl, ?_, OneV.bad (by decide), hb⟩
      rw [one_limit (by rw [hgl]) (by rw [hgl]; exact h1), hgl]
      simp only [Prod.mk.injEq, and_true]; omega
    · by_cases h2 : (m.length : Int) - s < n
      · refine (one_short_calls A A1 c (c - p) l m p n s w f1 C1 ⟨k1⟩ ⟨hf⟩ gs0 (by omega) (by omega) hn0 (by omega) (by omega) hn (by omega)).mono ?_
        rintro e w' ⟨rfl, hb⟩
        refine ⟨_, _, _, rfl, ?_, OneV.bad (by decide), hb⟩
        rw [one_short hgl (by omega) gs0 (by omega) h2]
        simp only [Prod.mk.injEq, and_true]; omega
      · obtain ⟨b, hb⟩ : ∃ b, b = (m.drop s.toNat).take n.toNat := ⟨_, rfl⟩
        obtain ⟨r, hr2⟩ : ∃ r, r = m.drop (s + n).toNat := ⟨_, rfl⟩
        have hob := one_body hgl (by omega) hn0 gs0 (by omega) h2 b r hb hr2
        obtain ⟨A2, f2, g2, k2⟩ := print_mid_of (P := Tryd.prog) (Value.int .u8) 0 22 5 .i64 .i64 Tryd.underlying22 hi5 hsz5 A c l (p + s) (p + s + n) (by omega) (by omega) (by omega) (by omega)
        obtain ⟨A3, f3, g3, k3⟩ := print_drop_of (P := Tryd.prog) (Value.int .u8) 0 22 5 .i64 Tryd.underlying22 hi5 hsz5 A c l (p + s + n) (by omega) (by omega) (by omega)
        have eb : (l.take ((p : Int) + s + n).toNat).drop ((p : Int) + s).toNat = b := by
          rw [hb, hm, List.drop_drop, List.drop_take]
          congr 1
          · omega
          · congr 1; omega
        have er : l.drop ((p : Int) + s + n).toNat = r := by
          rw [hr2, hm, List.drop_drop]; congr 1; omega
        rw [eb] at f2 g2 k2
        rw [er] at f3 g3 k3
        have hbl : (b.length : Int) = n := by rw [hb, List.length_take, List.length_drop]; omega
        have hrl : (r.length : Int) = l.length - (p + s + n) := by rw [hr2, List.length_drop]; omega
        have hbB : Bytes b := by rw [hb]; exact (hmB.drop _).take _
        have C2 := Aside0.mk (Kd.C_of_reads (h1 := fun _ => rfl) (g2 w (Kd.reads_of_C hr)))
        have C3 := Aside0.mk (Kd.C_of_reads (h1 := fun _ => rfl) (g3 w (Kd.reads_of_C hr)))
        have hk := like_le (four b) r
        rw [four_len] at hk
        cases hU : isUn (four b) r with
        | true =>
          have hu : unF (four b) r = ((like (four b) r : Int), true) := by unfold unF; rw [hU, if_pos rfl]
          refine (one_sum_calls A A1 c (c - p) l m p n s w f1 C1 ⟨k1⟩ ⟨hf⟩ gs0 (by omega) (by omega) ⟨hG⟩ hn0 (by omega) (by omega) hn (by omega) b r A2 A3 _ _ _ _ f2 f3 C2 C3 ⟨rfl⟩ ⟨rfl⟩ ⟨hbB⟩ (by omega) (by omega) _ (by omega) (by omega) ⟨hu⟩).mono ?_
          rintro e w' ⟨rfl, hb⟩
          refine ⟨_, _, _, rfl, ?_, OneV.bad (by decide), hb⟩
          rw [hob, fix_un 4 hU]
          simp only [Prod.mk.injEq, and_true]; omega
        | false =>
          have hu : unF (four b) r = (0, false) := by unfold unF; rw [hU, if_neg (by decide)]
          by_cases h7 : r.length < 4
          · refine (one_cut_calls A A1 c (c - p) l m p n s w f1 C1 ⟨k1⟩ ⟨hf⟩ gs0 (by omega) (by omega) ⟨hG⟩ hn0 (by omega) (by omega) hn (by omega) b r A2 A3 _ _ _ _ f2 f3 C2 C3 ⟨rfl⟩ ⟨rfl⟩ ⟨hbB⟩ (by omega) (by omega) _ ⟨hu⟩ (by omega)).mono ?_
            rintro e w' ⟨rfl, hb⟩
            refine ⟨_, _, _, rfl, ?_, OneV.bad (by decide), hb⟩
            rw [hob, fix_short 4 hU (by rw [four_len]; exact h7)]
            simp only [Prod.mk.injEq, and_true]; omega
          · refine (one_good_calls A A1 c (c - p) l m p n s w f1 C1 ⟨k1⟩ ⟨hf⟩ gs0 (by omega) (by omega) ⟨hG⟩ hn0 (by omega) (by omega) hn (by omega) b r A2 A3 _ _ _ _ f2 f3 C2 C3 ⟨rfl⟩ ⟨rfl⟩ ⟨hbB⟩ (by omega) (by omega) _ ⟨hu⟩ (by omega)).mono ?_
            rintro e w' ⟨rfl, hb⟩
            refine ⟨_, _, _, rfl, ?_, ?_, hb⟩
            · rw [hob, fix_good 4 hU (by rw [four_len]; omega), four_len]
              simp only [Prod.mk.injEq, and_true]; omega
            · rw [hob]
              unfold OneV
              rw [if_pos rfl]
              exact ⟨A2, _, rfl, k2, Kd.C_of_reads (h1 := fun _ => rfl) (g2 w0 (Kd.reads_of_C hr0))⟩
  · refine (one_err_calls A A1 c (c - p) l m p n s e0 w f1 C1 ⟨k1⟩ ⟨hf⟩ gs0 (by omega) (by omega) he).mono ?_
    rintro e w' ⟨rfl, hb⟩
    refine ⟨_, _, _, rfl, ?_, OneV.bad he, hb⟩
    rw [one_err (by rw [hgl]; exact he), hgl]
    simp only [Prod.mk.injEq, and_true]; omega
end Go.Proofs.YtojagnoobaleaaaDoor.Ext
